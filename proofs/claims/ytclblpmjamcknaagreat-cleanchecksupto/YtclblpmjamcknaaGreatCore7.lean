import Derived.Test.YtclblpmjamcknaaGreatCore6
namespace Go.Sx
open Go.RowKit
section
variable {P : Program} {n : Nat} {Q : Exit → Act → World → Prop} {L : Env} {w : World} {ops : Array Oper} {rest : List Oper} {o : Oper}
variable {M : List Nat} {d0 d : Dat} {we : World} {rs rs' : List Res}
def elemInfo (P:Program) (t:TypeId):Option (Nat × Nat × Nat):=
  match P.underlying t with
  | some (.slice e)=>match P.info? e with
    | some i=>match i.zero with
      | some z=>if z.cells.size=i.size∧0 < i.size then some (e,i.size,i.bytes) else none
      | none=>none
    | none=>none
  | _=>none
theorem elemInfo_spec {t e size bytes:Nat} (h:elemInfo P t=some (e,size,bytes)) :
    P.underlying t=some (.slice e)∧∃ i z,P.info? e=some i∧i.zero=some z∧i.size=size∧i.bytes=bytes∧z.cells.size=size∧0 < size:=by
  unfold elemInfo at h
  split at h
  · rename_i e' hu
    split at h
    · rename_i i hi
      split at h
      · rename_i z hz
        split at h
        · rename_i hc
          simp only [Option.some.injEq,Prod.mk.injEq] at h
          obtain ⟨rfl,rfl,rfl⟩:=h
          exact ⟨hu,i,z,hi,hz,rfl,rfl,hc.1,hc.2⟩
        · cases h
      · cases h
    · cases h
  · cases h
theorem run_append_nil {t ty e size bytes:Nat} (ht:elemInfo P t=some (e,size,bytes)) {v:Value} {k:Nat} {cells:List Value} (hown:w.ownsRow 0 e size v k cells) (c:Nat) :
    (Builtin.append_ #[t,t] ty #[v,.slice none 0 c]).run P w=.ok v w:=by
  obtain ⟨hu,i,z,hi,hz,hs,hby,hzs,hpos⟩:=elemInfo_spec ht
  rcases hown.2 with ⟨rfl,_⟩ | ⟨g,cap,cur,rfl,_,_,hnc,_⟩
  · simp [Builtin.append_,underlying,hu,sizeOf,typeInfo,hi,Builtin.lenOf,Builtin.firstCells]
  · simp [Builtin.append_,underlying,hu,sizeOf,typeInfo,hi,Builtin.lenOf,Builtin.firstCells,hnc,storeCells]
theorem Reps.one_ {α:Type} {E:α→List Value→Prop} (hE:∀ x cs,E x cs→∀ u ∈ cs,u.oneCell'=true) {xs:List α} {ds:List Value} (h:Reps E xs ds):∀ u ∈ ds,u.oneCell'=true:=by
  induction h with
  | nil=>intro u hu; simp at hu
  | cons h1 _ ih=>
    intro u hu
    rcases List.mem_append.1 hu with hu | hu
    · exact hE _ _ h1 u hu
    · exact ih u hu
theorem fr_grown {w w':World} {v:Value} (h:w.grownBy w' v.ownBlock):Fr v.ownBlock.toList w w':=
  ⟨h.os,h.tape,h.output,h.size,fun b hb hn=>h.block b hb (fun e=>hn (by rw [← e]; simp))⟩
theorem ev_append {α:Type} {T:Ty α} {t ty e bytes:Nat} {x y:Operand} {v u:Value} {xs ys:List α} (hI:Inv M d0 we d rs w)
    (ht:elemInfo P t=some (e,T.size,bytes)) (hx:opv L x=some v) (hy:opv L y=some u) (hm:row T e v xs ∈ rs) (hS:Sl T d w u ys)
    (hb:(xs.length + ys.length) * bytes≤140737488355328) (hbig:xs.length + ys.length≤big) :
    Ev P n (.call { callee:=.builtin .append,args:=#[x,y],argTypes:=#[t,t] }) ty L w
      (fun v' w'=>(∀ rs',Upd (row T e v xs) (row T e v' (xs ++ ys)) rs rs'→Inv M d0 we d rs' w')∧Le d w d w'∧∃ A c,v'=.slice A (xs ++ ys).length c):=by
  refine Ev.of_run fun a dd pos after guard ha=>?_
  obtain ⟨cells,hr,hown,hxb⟩:=hI.ok _ hm
  obtain ⟨A,c,rfl,hc,hyb,hcase⟩:=hS
  have hrun:∃ v' w',(Builtin.append_ #[t,t] ty #[v,.slice A ys.length c]).run P w=.ok v' w'∧(∃ ns,Reps (T.rel d w) ys ns∧w'.ownsRow 0 e T.size v' (xs.length + ys.length) (cells ++ ns))∧w.grownBy w' v.ownBlock ∧
      (v'.ownBlock=v.ownBlock∨v'.ownBlock=some w.heap.size):=by
    obtain ⟨hu,i,z,hi,hz,hs,hby,hzs,hpos⟩:=elemInfo_spec ht
    rcases A with _ | ad
    · have h0:ys=[]:=by
        rcases hcase with h | ⟨b,o,cs,hA,_⟩
        · exact h
        · cases hA
      subst h0
      exact ⟨v,w,run_append_nil ht hown c,⟨[],.nil,by simpa using hown⟩,World.grownBy.refl w _,.inl rfl⟩
    · have hsrc:∃ ns,Reps (T.rel d w) ys ns∧∀ j u,ns[j]?=some u→w.cell? (ad.add j)=some u:=by
        rcases hcase with h | ⟨b,o,cs,hA,hsl⟩
        · subst h; exact ⟨[],.nil,fun j u h=>by simp at h⟩
        · injection hA with hA
          subst hA
          exact ⟨cs,hsl.reps,fun j u h=>by rw [add_none]; exact hsl.cells j u h⟩
      obtain ⟨ns,hns,hcell⟩:=hsrc
      have hone:∀ u ∈ ns,u.oneCell'=true:=hns.one_ (fun _ _ h=>T.one h)
      have hl:=hns.length (fun _ _ h=>T.len h)
      obtain ⟨v',w',h1,h2,h3,_,h5⟩:=run_append_own_at (P:=P) w 0 t ty e i z T.size bytes hu hi hz hs hby hzs hpos v xs.length cells hown ad ys.length c ns hl hcell hone
        (by unfold big at hbig; unfold maxLen; omega) hb (Nat.zero_le _)
      exact ⟨v',w',h1,⟨ns,hns,h2⟩,h3,h5⟩
  obtain ⟨v',w',h1,⟨ns,hns,h2⟩,h3,h5⟩:=hrun
  have hfr:=fr_grown h3
  have hle:Le d w d w':=hI.le hfr (fun b hb=>hI.nod _ hm b hb) (fun _ h=>h)
  refine ⟨v',w',?_,?_,hle,?_⟩
  · simp only [execOp,resolve,ha.eval hx,ha.eval hy,invoke,builtin,Sem.run_bind,Sem.run_pure,Result.andThen_ok,List.map_toArray,List.map_cons,List.map_nil,h1]
  · intro rs' hu
    refine (hI.replace hu hfr (Grow.refl hI.lt hfr.size) ?_ ?_ ?_).1
    · refine ⟨cells ++ ns,(hr.mono fun _ _ hx=>T.mono hle hx).append (hns.mono fun _ _ hx=>T.mono hle hx),?_,?_⟩
      · rw [List.length_append]; exact h2
      · rw [List.length_append]; exact hbig
    · intro b hb
      simp only [row,Option.mem_toList] at hb ⊢
      rcases h5 with h5 | h5
      · left; rw [← h5]; exact hb
      · right; rw [h5] at hb; cases hb; exact Nat.le_refl _
    · intro b hb hd
      simp only [row,Option.mem_toList] at hb
      rcases h5 with h5 | h5
      · exact hI.nod _ hm b (by simp only [row,Option.mem_toList]; rw [← h5]; exact hb) hd
      · rw [h5] at hb; cases hb; have:=hI.lt _ hd; omega
  · rcases h2.2 with ⟨rfl,hn⟩ | ⟨g,cap,cur,rfl,_⟩
    · exact ⟨none,0,by rw [List.length_append,hn]⟩
    · exact ⟨_,cap,by rw [List.length_append]⟩
end
end Go.Sx
