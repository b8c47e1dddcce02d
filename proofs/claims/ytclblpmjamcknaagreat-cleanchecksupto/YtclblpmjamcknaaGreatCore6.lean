import Derived.Test.YtclblpmjamcknaaGreatCore5
namespace Go.Sx
open Go.RowKit
section
variable {P : Program} {n : Nat} {Q : Exit → Act → World → Prop} {L : Env} {w : World} {ops : Array Oper} {rest : List Oper} {o : Oper}
variable {M : List Nat} {d0 d : Dat} {we : World} {rs rs' : List Res}
theorem fold_set (o:Nat):∀ (vs:List Value) (k:Nat) (a:List Value),o + k + vs.length≤a.length →
      ∀ i,((vs.zipIdx k).foldl (fun (a:Array Value) (x:Value × Nat)=>a.setIfInBounds (o + x.2) x.1) a.toArray)[i]?=if o + k≤i∧i < o + k + vs.length then vs[i - (o + k)]? else a[i]?:=by
  intro vs
  induction vs with
  | nil=>intro k a _ i; rw [if_neg (by simp)]; simp
  | cons v vs ih=>
    intro k a hle i
    simp only [List.length_cons] at hle
    have h:=ih (k + 1) (a.set (o + k) v) (by rw [List.length_set]; omega) i
    simp only [List.zipIdx_cons,List.foldl_cons,List.setIfInBounds_toArray]
    rw [h]
    by_cases hc:o + (k + 1)≤i∧i < o + (k + 1) + vs.length
    · rw [if_pos hc,if_pos (by simp only [List.length_cons]; omega),show i - (o + k)=(i - (o + (k + 1))) + 1 by omega]
      simp
    · rw [if_neg hc]
      by_cases he:i=o + k
      · subst he
        rw [if_pos (by simp only [List.length_cons]; omega)]
        rw [List.getElem?_set_self (by omega)]
        simp
      · rw [if_neg (by simp only [List.length_cons]; omega)]
        rw [List.getElem?_set_ne (by omega)]
theorem Put.toFill {o:Nat} {vs cs cs':List Value} (h:Put o vs cs cs') (hle:o + vs.length≤cs.length) :
    vs.toArray.zipIdx.foldl (fun (a:Array Value) (x:Value × Nat)=>a.setIfInBounds (o + x.2) x.1) cs.toArray=cs'.toArray:=by
  obtain ⟨h1,h2,h3⟩:=h.spec
  have hk:=fold_set o vs 0 cs (by simpa using hle)
  rw [← Array.foldl_toList]
  simp only [Array.toList_zipIdx]
  apply Array.ext_getElem?
  intro i
  have:=hk i
  rw [this,List.getElem?_toArray,h3 i]
  simp
inductive Fills (L:Env) (place:Nat→Option (Nat × Nat)):List (Nat × Operand)→List Value→List Value→Prop
  | nil (cs:List Value):Fills L place [] cs cs
  | cons {i:Nat} {x:Operand} {rest:List (Nat × Operand)} {off size:Nat} {v:Value} {vs cs cs' cs'':List Value} :
      place i=some (off,size)→opv L x=some v→vcells v=vs→vs.length=size→Put off vs cs cs'→off + vs.length≤cs.length→Fills L place rest cs' cs''→Fills L place ((i,x) :: rest) cs cs''
theorem Fills.fill {a:Act} (ha:Agree n a L) {place:Nat→Option (Nat × Nat)} {parts:List (Nat × Operand)} {cs cs':List Value} (h:Fills L place parts cs cs') :
    Instr.fill place cs.toArray (parts.map fun (i,x)=>(i,a.eval x))=some cs'.toArray:=by
  induction h with
  | nil cs=>simp [Instr.fill]
  | @cons i x rest off size v vs cs cs' cs'' hp hx hv hl hput hle _ ih=>
    have hc:v.cells=vs.toArray:=by rw [vcells_eq,hv]
    have hne:¬ (v.cells.size≠size∨off + v.cells.size > cs.toArray.size):=by
      rw [hc]; simp; omega
    simp only [List.map_cons,Instr.fill,hp,ha.eval hx]
    rw [if_neg (by simpa using hne)]
    have e:=hput.toFill hle
    rw [hc,e]
    exact ih
def placesT (P:Program) (t:TypeId):Option (List (Nat × Nat)):=
  match P.underlying t with
  | some (.struct fs)=>if fs.all (fun f=>(P.info? f.type).isSome) then some (fs.toList.map fun f=>(f.offset,((P.info? f.type).map (·.size)).getD 0)) else none
  | _=>none
def fieldPlaceM (f:Field):Sem (Nat × Nat):=do Pure.pure (f.offset,← sizeOf f.type)
theorem run_places1 (w:World):∀ l:List Field,(l.all fun f=>(P.info? f.type).isSome)=true→(l.mapM fieldPlaceM).run P w=.ok (l.map fun f=>(f.offset,((P.info? f.type).map (·.size)).getD 0)) w:=by
  intro l
  induction l with
  | nil=>intro _; simp
  | cons f l ih=>
    intro h
    simp only [List.all_cons,Bool.and_eq_true] at h
    obtain ⟨i,hi⟩:=Option.isSome_iff_exists.1 h.1
    have h1:(fieldPlaceM f).run P w=.ok (f.offset,i.size) w:=by simp [fieldPlaceM,sizeOf,typeInfo,hi]
    simp only [List.mapM_cons,Sem.run_bind,h1,Result.andThen_ok,ih h.2,Sem.run_pure,List.map_cons,hi,Option.map_some,Option.getD_some]
theorem run_places (fs:Array Field) (hall:fs.all (fun f=>(P.info? f.type).isSome)=true) (w:World) :
    (fs.mapM fieldPlaceM).run P w=.ok (fs.toList.map fun f=>(f.offset,((P.info? f.type).map (·.size)).getD 0)).toArray w:=by
  obtain ⟨l⟩:=fs
  have h2:=run_places1 (P:=P) w l (by simpa using hall)
  have e2:(List.toArray l).mapM fieldPlaceM=List.toArray <$> l.mapM fieldPlaceM:=by simp
  rw [e2]
  simp only [Sem.run_map,h2,Result.andThen_ok]
theorem y_build {t ty:TypeId} {parts:List (Nat × Operand)} {pl:List (Nat × Nat)} {zs cs:List Value} (hz:zeroT P t=some zs) (hp:placesT P t=some pl) (hf:Fills L (nth pl) parts zs cs) :
    Yv P n (.build t parts.toArray) ty L w (.agg cs.toArray):=by
  intro a dd pos after guard ha
  unfold zeroT at hz
  unfold placesT at hp
  cases hi:P.info? t with
  | none=>simp [hi] at hz
  | some info=>
    cases hzz:info.zero with
    | none=>simp [hi,hzz] at hz
    | some z=>
      simp [hi,hzz] at hz
      subst hz
      split at hp
      · rename_i fs hu
        split at hp
        · rename_i hall
          injection hp with hp
          have hr:(fs.mapM (fun f=>(do Pure.pure (f.offset,← sizeOf f.type):Sem (Nat × Nat)))).run P w=.ok (fs.toList.map fun f=>(f.offset,((P.info? f.type).map (·.size)).getD 0)).toArray w:=run_places (P:=P) fs hall w
          have hfill:=hf.fill ha
          have e:(fun i=>(fs.toList.map fun f=>(f.offset,((P.info? f.type).map (·.size)).getD 0)).toArray[i]?)=nth pl:=by
            funext i; rw [nth_eq,← hp]; simp
          have hfill':Instr.fill (fun i=>(fs.toList.map fun f=>(f.offset,((P.info? f.type).map (·.size)).getD 0)).toArray[i]?) (vcells z).toArray (List.map (fun x=>(x.fst,a.eval x.snd)) parts)=some cs.toArray:=by
            rw [e]; exact hfill
          simp only [execOp,Instr.build,zeroValue,typeInfo,underlying,Sem.run_bind,run_program,Result.andThen_ok,hi,Sem.run_pure,hzz,hu]
          simp only [typeInfo,sizeOf] at hr
          simp only [sizeOf,typeInfo,Result.andThen_ok,hr,vcells_eq,List.map_toArray,hfill',Sem.run_pure]
        · cases hp
      · cases hp
theorem flat_get (zs:List Value):∀ (k i:Nat),((List.replicate k zs).flatten)[i]?=if i < k * zs.length then zs[i % zs.length]? else none:=by
  intro k
  induction k with
  | zero=>intro i; simp
  | succ k ih=>
    intro i
    rw [List.replicate_succ,List.flatten_cons]
    by_cases hlt:i < zs.length
    · rw [List.getElem?_append_left hlt,if_pos (by rw [Nat.add_mul]; omega),Nat.mod_eq_of_lt hlt]
    · rw [List.getElem?_append_right (by omega),ih (i - zs.length)]
      have hm:(i - zs.length) % zs.length=i % zs.length:=by
        conv=>rhs; rw [show i=(i - zs.length) + zs.length by omega]
        rw [Nat.add_mod_right]
      rw [hm]
      by_cases h3:i - zs.length < k * zs.length
      · rw [if_pos h3,if_pos (by rw [Nat.add_mul]; omega)]
      · rw [if_neg h3,if_neg (by rw [Nat.add_mul]; omega)]
theorem zero_cells (zs:List Value) (hs:0 < zs.length) (k:Nat):((Array.range (k * zs.length)).map fun i=>zs.toArray[i % zs.toArray.size]!)=(List.replicate k zs).flatten.toArray:=by
  apply Array.ext_getElem?
  intro i
  have h2:(List.replicate k zs).flatten.toArray[i]?=(List.replicate k zs).flatten[i]?:=List.getElem?_toArray
  rw [h2,flat_get zs k i]
  have hm:=Nat.mod_lt i hs
  by_cases hlt:i < k * zs.length
  · rw [if_pos hlt]
    have:(Array.range (k * zs.length))[i]?=some i:=by simp [hlt]
    rw [Array.getElem?_map,this]
    simp [hm]
  · rw [if_neg hlt]
    have:(Array.range (k * zs.length))[i]?=none:=by simp; omega
    rw [Array.getElem?_map,this]
    rfl
theorem ev_buildSl {α:Type} {t ty e:TypeId} {k:Nat} {parts:List (Nat × Operand)} {T:Ty α} {xs:List α} {zs cs:List Value} (hI:Inv M d0 we d rs w)
    (ht:elemOfT P t=some (e,T.size)) (hz:zeroT P e=some zs) (hzl:zs.length=T.size) (hk:k=xs.length) (hb:xs.length * T.size≤16777216) (hT:0 < T.size)
    (hf:Fills L (fun i=>some (i * T.size,T.size)) parts (List.replicate k zs).flatten cs) (hr:Reps (T.rel d w) xs cs) :
    Ev P n (.buildSlice t k parts.toArray) ty L w (fun v w'=>∃ d',Inv M d0 we d' rs w'∧Le d w d' w'∧Sl T d' w' v xs∧∃ b,v=.slice (some ⟨b,0,none⟩) k k):=by
  refine Ev.of_run fun a dd pos after guard ha=>?_
  unfold elemOfT at ht
  split at ht
  · rename_i e' hu
    cases hi:P.info? e' with
    | none=>simp [hi] at ht
    | some info=>
      simp only [hi,Option.map_some,Option.some.injEq,Prod.mk.injEq] at ht
      obtain ⟨rfl,hsz⟩:=ht
      unfold zeroT at hz
      cases hzz:info.zero with
      | none=>simp [hi,hzz] at hz
      | some z=>
        simp only [hi,hzz,Option.bind_some,Option.map_some,Option.some.injEq] at hz
        subst hz
        have hfill:=hf.fill ha
        have hinv:=hI.alloc (T:=e') (cs:=cs)
        have hle0:=hinv.2
        obtain ⟨hI2,hle2,hok⟩:=hinv.1.publish (Del.hd _) (by intro b hb'; simp only [blk,List.mem_singleton] at hb'; subst hb'; exact hI.fr.size)
        refine ⟨.slice (some ⟨w.heap.size,0,none⟩) k k,w.alloc (.cells cs.toArray e'),?_,_,hI2,hle0.trans hle2,?_,_,rfl⟩
        · have hnle:¬ (k * info.size > 2 ^ 24):=by rw [hsz,hk]; omega
          have hzs:((Array.range (k * info.size)).map fun i=>(if k * info.size=0 then #[] else z.cells)[i % (if k * info.size=0 then #[] else z.cells).size]!)=(List.replicate k (vcells z)).flatten.toArray:=by
            by_cases h0:k * info.size=0
            · have hk0:k=0:=by
                rw [hsz] at h0
                rcases Nat.mul_eq_zero.1 h0 with h | h
                · exact h
                · omega
              subst hk0
              simp
            · rw [if_neg h0,vcells_eq,hsz,← hzl]
              exact zero_cells (vcells z) (by omega) k
          have hfill':Instr.fill (fun i=>some (i * info.size,info.size)) (List.replicate k (vcells z)).flatten.toArray (List.map (fun x=>(x.fst,a.eval x.snd)) parts)=some cs.toArray:=by
            rw [hsz]; exact hfill
          simp only [execOp,Instr.buildSlice,underlying,sizeOf,typeInfo,Sem.run_bind,run_program,Result.andThen_ok,hu,hi,Sem.run_pure]
          rw [if_neg hnle]
          by_cases h0:k * info.size=0
          · rw [if_pos h0]
            rw [if_pos h0] at hzs
            simp only [Sem.run_bind,Sem.run_pure,Result.andThen_ok,hzs,List.map_toArray,hfill']
            simp [newRow]
          · rw [if_neg h0]
            rw [if_neg h0] at hzs
            simp only [zeroValue,typeInfo,Sem.run_bind,run_program,hi,hzz,Sem.run_pure,Result.andThen_ok,hzs,List.map_toArray,hfill']
            simp [newRow]
        · rw [hk]
          refine ⟨_,_,rfl,Nat.le_refl _,?_,.inr ⟨w.heap.size,0,cs,rfl,.inr (by simp [blk]),?_,?_⟩⟩
          · unfold big
            have:xs.length≤xs.length * T.size:=Nat.le_mul_of_pos_right _ hT
            omega
          · exact hr.mono fun _ _ hx=>T.mono (hle0.trans hle2) hx
          · intro j u hj
            have hb':(w.alloc (.cells cs.toArray e')).heap[w.heap.size]?=some (.cells cs.toArray e' (0,0)):=heap_alloc_new w _
            rw [Nat.zero_add,cell_of_row _ _ _ _ _ _ hb']
            simpa using hj
  · cases ht
end
end Go.Sx
