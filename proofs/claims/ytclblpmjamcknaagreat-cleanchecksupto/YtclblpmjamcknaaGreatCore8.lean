import Derived.Test.YtclblpmjamcknaaGreatCore7
namespace Go.Sx
open Go.RowKit
def bnd {α:Type} {ρ:Type} (v:α) (f:α→ρ):ρ:=f v
def opt {α:Type} {ρ:Type} [Inhabited ρ] (o:Option α) (f:α→ρ):ρ:=
  match o with
  | some x=>f x
  | none=>default
inductive Out (σ ρ:Type) where
  | next (s:σ)
  | ret (r:ρ)
instance {σ ρ:Type} [Inhabited ρ]:Inhabited (Out σ ρ):=⟨.ret default⟩
def out {σ ρ:Type} (o:Out σ ρ) (f:σ→ρ):ρ:=
  match o with
  | .next s=>f s
  | .ret r=>r
theorem bnd_eq {α ρ:Type} {v r:α} {f:α→ρ} (h:v=r):bnd v f=f r:=by subst h; rfl
theorem opt_some {α ρ:Type} [Inhabited ρ] {o:Option α} {x:α} {f:α→ρ} (h:o=some x):opt o f=f x:=by subst h; rfl
theorem out_next {σ ρ:Type} {o:Out σ ρ} {s:σ} {f:σ→ρ} (h:o=.next s):out o f=f s:=by subst h; rfl
theorem out_ret {σ ρ:Type} {o:Out σ ρ} {r:ρ} {f:σ→ρ} (h:o=.ret r):out o f=r:=by subst h; rfl
theorem cond_t {ρ:Type} {b:Bool} {x y:ρ} (h:b=true):cond b x y=x:=by subst h; rfl
theorem cond_f {ρ:Type} {b:Bool} {x y:ρ} (h:b=false):cond b x y=y:=by subst h; rfl
theorem drop_cons {α:Type} {xs:List α} {k:Nat} {x:α} (h:xs[k]?=some x):xs.drop k=x :: xs.drop (k + 1):=by
  obtain ⟨hk,rfl⟩:=List.getElem?_eq_some_iff.1 h
  exact List.drop_eq_getElem_cons hk
theorem drop_nil {α:Type} {xs:List α} {k:Nat} (h:xs.length≤k):xs.drop k=[]:=List.drop_eq_nil_of_le h
theorem has {α:Type} {xs:List α} {k:Nat} (h:k < xs.length):∃ x,xs[k]?=some x:=⟨_,List.getElem?_eq_getElem h⟩
def wI (k:Int):Int:=IntKind.wrap .i64 k
theorem wI_id {k:Int} (h:-9223372036854775808≤k∧k≤9223372036854775807):wI k=k:=wrap64_id h
section
variable {P : Program} {n : Nat} {Q : Exit → Act → World → Prop} {L : Env} {w : World} {ops : Array Oper} {rest : List Oper} {o : Oper}
variable {M : List Nat} {d0 d : Dat} {we : World} {rs rs' : List Res}
def CutQ {ι:Type} (n:Nat) (st:ι→Env) (J:ι→World→Prop) (Q:Exit→Act→World→Prop):Exit→Act→World→Prop:=
  Exit.then (fun a' w'=>∃ i,Agree n a' (st i)∧J i w') Q
theorem c_cut {ι:Type} (st:ι→Env) (J:ι→World→Prop) {x y:Code} (hx:C P n (CutQ n st J Q) x L w) (hy:∀ i w',J i w'→C P n Q y (st i) w') :
    C P n Q (.seq x y) L w:=by
  refine c_seq (c_mono ?_ hx)
  intro e a w hq
  cases e with
  | normal=>
    obtain ⟨i,h1,h2⟩:=hq
    exact hy i w h2 a h1
  | exit id=>exact hq
  | goto l=>exact hq
  | ret=>exact hq
  | panic ch=>exact hq
  | outgrown=>exact hq
section
variable {ι : Type} {st : ι → Env} {J : ι → World → Prop}
theorem x_cut (i:ι) (hs:Sub L (st i)) (hJ:J i w):X n (CutQ n st J Q) .normal L w:=fun _ ha=>⟨i,ha.sub hs,hJ⟩
theorem x_cutR (h:X n Q .ret L w):X n (CutQ n st J Q) .ret L w:=fun a ha=>h a ha
end
theorem pub_row {α:Type} {T:Ty α} {e:TypeId} {v:Value} {xs:List α} (hI:Inv M d0 we d rs w) (hd:Del (row T e v xs) rs rs') (hM:∀ b ∈ (row T e v xs).fp,b ∉ M) :
    ∃ d',Inv M d0 we d' rs' w∧Le d w d' w∧Sl T d' w v xs:=by
  obtain ⟨h1,h2,h3⟩:=hI.publish hd (fun b hb=>(hI.old _ hd.mem b hb).resolve_right (hM b hb))
  exact ⟨_,h1,h2,row_sl h3 (fun b hb=>.inr hb)⟩
structure Cel (d:Dat) (w:World) (b o:Nat) (cs:List Value):Prop where
  dat:d b
  cells:CellsAt w b o cs
theorem Cel.mono {d':Dat} {w':World} {b o:Nat} {cs:List Value} (h:Cel d w b o cs) (hle:Le d w d' w'):Cel d' w' b o cs:=⟨hle.sub b h.dat,h.cells.keep (hle.blk b h.dat)⟩
theorem pub_blk {b T:Nat} {cs:List Value} (hI:Inv M d0 we d rs w) (hd:Del (blk b T cs) rs rs') (hM:b ∉ M) :
    ∃ d',Inv M d0 we d' rs' w∧Le d w d' w∧Cel d' w b 0 cs:=by
  obtain ⟨h1,h2,h3⟩:=hI.publish hd (fun b' hb=>(hI.old _ hd.mem b' hb).resolve_right (by simp only [blk,List.mem_singleton] at hb; subst hb; exact hM))
  refine ⟨_,h1,h2,.inr (by simp [blk]),?_⟩
  intro j u hu
  have hb:w.heap[b]?=some (.cells cs.toArray T (0,0)):=h3
  simp [World.cell?,hb,hu]
theorem nil_row {α:Type} (T:Ty α) (e:TypeId) (hI:Inv M d0 we d rs w):Inv M d0 we d (row T e (.slice none ([]:List α).length 0) [] :: rs) w:=
  (hI.pureAdd (Fr.refl _ _) (Grow.refl hI.lt (Nat.le_refl _)) (row_nil T e d w) (by simp [row,Value.ownBlock]) (by simp [row,Value.ownBlock])).1
section ints
variable {t yt ty : TypeId} {x y : Operand} {i j : Int}
theorem y_addW (hx:opv L x=some (.int .i64 i)) (hy:opv L y=some (.int .i64 j)):Yv P n (.binOp .add t x y yt) ty L w (.int .i64 (wI (i + j))):=y_addw hx hy
theorem y_subW (hx:opv L x=some (.int .i64 i)) (hy:opv L y=some (.int .i64 j)):Yv P n (.binOp .sub t x y yt) ty L w (.int .i64 (wI (i - j))):=y_subw hx hy
theorem y_mulW (hx:opv L x=some (.int .i64 i)) (hy:opv L y=some (.int .i64 j)):Yv P n (.binOp .mul t x y yt) ty L w (.int .i64 (wI (i * j))):=y_mulw hx hy
theorem y_negW (hx:opv L x=some (.int .i64 i)):Yv P n (.unOp .neg t x) ty L w (.int .i64 (wI (-i))):=by
  intro a d pos after guard ha
  simp [execOp,ha.eval hx,Op.unary,Op.intArith,wI]
end ints
theorem Sl.take {α:Type} {T:Ty α} {A:Option Addr} {n c:Nat} {xs:List α} (h:Sl T d w (.slice A n c) xs) {i:Nat} (hi:i≤xs.length) :
    Sl T d w (.slice A (xs.take i).length c) (xs.take i):=by
  obtain ⟨A',c',hv,h1,h2,h3⟩:=h
  injection hv with hA _ hc
  subst hA; subst hc
  have hl:(xs.take i).length=i:=by simp; omega
  refine ⟨A,c,rfl,by omega,by omega,?_⟩
  rcases h3 with rfl | ⟨b,o,cs,hA,hs⟩
  · left; simp
  · refine .inr ⟨b,o,cs.take (i * T.size),hA,hs.dat,hs.reps.take (fun _ _ h=>T.len h) i,?_⟩
    intro j u hj
    refine hs.cells j u ?_
    rw [List.getElem?_take] at hj
    split at hj
    · exact hj
    · cases hj
theorem run_bnd (P:Program) (w:World) {i y:Nat} (code:BoundsCode) (h:i≤y):(Instr.sliceBound (.int .i64 (i:Int)) y code).run P w=.ok i w:=by
  have hb:(0:Int)≤(i:Int)∧(i:Int)≤(y:Int):=⟨by omega,by omega⟩
  simp [Instr.sliceBound,asIntOf,h]
theorem y_slice_to {t ty:TypeId} {x hi:Operand} {A:Option Addr} {len c e size:Nat} {i:Nat} {j:Int} (ht:elemOfT P t=some (e,size)) (hx:opv L x=some (.slice A len c))
    (hh:opv L hi=some (.int .i64 j)) (hj:j=(i:Int)) (hle:i≤c):Yv P n (.slice t x none (some hi) none) ty L w (.slice A i c):=by
  intro a dd pos after guard ha
  subst hj
  unfold elemOfT at ht
  split at ht
  · rename_i e' hu
    cases hi':P.info? e' with
    | none=>simp [hi'] at ht
    | some info=>
      simp only [execOp,Instr.sliceAt,Instr.slice,underlying,Sem.run_bind,run_program,Result.andThen_ok,hu,Sem.run_pure,ha.eval hx,ha.eval hh,Option.map_some,Option.map_none,Instr.sliceBounds,if_true,run_bnd P w _ hle,sizeOf,typeInfo,hi']
      cases A <;> simp [Addr.add]
  · cases ht
theorem y_makeFunc {f:FuncId} {xs:List Operand} {ty:TypeId} {vs:List Value} (hxs:opvs L xs=some vs):Yv P n (.makeFunc (.func f) #[] xs.toArray) ty L w (.func (.func f) #[] vs.toArray):=by
  intro a dd pos after guard ha
  simp only [execOp,Instr.makeFunc,evals ha hxs,Sem.run_bind,Sem.run_pure,Result.andThen_ok,List.map_toArray,List.map_nil]
end
theorem Z{α:Sort _}{a:α}:a=a:=rfl
theorem ET{α:Sort _}{a b c:α}(h:a=b)(k:b=c):a=c:=h.trans k
theorem IN{c:Prop}{h:Decidable c}(n:¬c){α:Sort _}{t e:α}:ite c t e=e:=if_neg n
theorem IP{c:Prop}{h:Decidable c}(n:c){α:Sort _}{t e:α}:ite c t e=t:=if_pos n
theorem OT{p:Prop}[i:Decidable p](h:decide p=true):p:=of_decide_eq_true h
theorem OF{p:Prop}[i:Decidable p](h:decide p=false):¬p:=of_decide_eq_false h
theorem LA{α:Type _}{a b:List α}:(a++b).length=a.length+b.length:=List.length_append
theorem LC{α:Type _}{a:α}{b:List α}:(a::b).length=b.length+1:=List.length_cons
theorem LN{α:Type _}:([]:List α).length=0:=List.length_nil
theorem LS{α:Type _}{a:List α}{i:Nat}{x:α}:(a.set i x).length=a.length:=List.length_set
theorem LM{α:Type _}{a b:α}:a ∈ [b]↔a=b:=List.mem_singleton
theorem LP{α:Type _}{a:α}{s t:List α}:a ∈ s++t↔a ∈ s∨a ∈ t:=List.mem_append
theorem Y{α β γ:Type _}{a:α}{b:β}{c:γ}:a=a∧b=b∧c=c:=⟨rfl,rfl,rfl⟩
theorem BE{α ρ:Type}{v r:α}{f:α→ρ}(h:v=r):bnd v f=f r:=bnd_eq h
end Go.Sx
