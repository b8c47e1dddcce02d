import Derived.Test.YtclblpmjamcknaaGreatCore12
namespace Go.Sx
open Go.RowKit
section
variable {P : Program} {n : Nat} {L : Env} {w : World}
inductive EqPlan (P:Program):Nat→List Value→List Value→List (Nat × Nat × Bool)→Bool→Prop
  | nil {d:Nat} {xs ys:List Value}:EqPlan P d xs ys [] true
  | int {d t off:Nat} {k:IntKind} {a b:Int} {xs ys:List Value} {rest:List (Nat × Nat × Bool)} {r:Bool}:shapeT P t=some none→P.underlying t=some (.int k)→nth xs off=some (.int k a)→nth ys off=some (.int k b) →
      EqPlan P (d + 1) xs ys rest r→EqPlan P (d + 1) xs ys ((t,off,true) :: rest) (decide (a=b) && r)
  | bool {d t off:Nat} {a b:Bool} {xs ys:List Value} {rest:List (Nat × Nat × Bool)} {r:Bool}:shapeT P t=some none→P.underlying t=some .bool→nth xs off=some (.bool a)→nth ys off=some (.bool b) →
      EqPlan P (d + 1) xs ys rest r→EqPlan P (d + 1) xs ys ((t,off,true) :: rest) (decide (a=b) && r)
  | str {d t off:Nat} {a b:ByteArray} {xs ys:List Value} {rest:List (Nat × Nat × Bool)} {r:Bool}:shapeT P t=some none→P.underlying t=some .string→nth xs off=some (.string a)→nth ys off=some (.string b) →
      EqPlan P (d + 1) xs ys rest r→EqPlan P (d + 1) xs ys ((t,off,true) :: rest) (decide (a=b) && r)
  | struct {d t off:Nat} {xs ys us vs:List Value} {rest sub:List (Nat × Nat × Bool)} {r q:Bool}:shapeT P t=some (some us.length)→us.length=vs.length→Part off us.length xs us→Part off vs.length ys vs →
      P.underlying t = some (.struct (P.fieldsOf t)) → P.stoodInHeld t = false → (P.fieldsOf t).toList.map (fun f => (f.type, f.offset, f.name != "_")) = sub → EqPlan P d us vs sub q →
      EqPlan P (d + 1) xs ys rest r→EqPlan P (d + 1) xs ys ((t,off,true) :: rest) (q && r)
theorem run_eqPlan {d:Nat} {xs ys:List Value} {pl:List (Nat × Nat × Bool)} {r:Bool} (h:EqPlan P d xs ys pl r) :
    ∀ (fs : List Field), fs.map (fun f => (f.type, f.offset, f.name != "_")) = pl → (Op.eqFields d xs.toArray ys.toArray fs).run P w = .ok r w := by
  induction h with
  | nil=>intro fs hf; simp at hf; subst hf; simp [Op.eqFields]
  | int hs hu hx hy _ ih=>
    intro fs hf
    cases fs with
    | nil=>simp at hf
    | cons f fs=>
      simp only [List.map_cons,List.cons.injEq,Prod.mk.injEq] at hf
      obtain ⟨⟨rfl,rfl,hn⟩,hf⟩:=hf
      have hn' : f.name ≠ "_" := by simpa using hn
      simp only [Op.eqFields,if_pos hn',Sem.run_bind,run_part1 w hs hx,run_part1 w hs hy,Result.andThen_ok,run_equalIn_int w _ _ _ _ _ _ hu,Sem.run_ite,Sem.run_pure,ih fs hf]
      rename_i a b _ _ _ _ _
      by_cases hab:a=b <;> simp [hab]
  | bool hs hu hx hy _ ih=>
    intro fs hf
    cases fs with
    | nil=>simp at hf
    | cons f fs=>
      simp only [List.map_cons,List.cons.injEq,Prod.mk.injEq] at hf
      obtain ⟨⟨rfl,rfl,hn⟩,hf⟩:=hf
      have hn' : f.name ≠ "_" := by simpa using hn
      simp only [Op.eqFields,if_pos hn',Sem.run_bind,run_part1 w hs hx,run_part1 w hs hy,Result.andThen_ok,run_equalIn_bool' w _ _ _ _ hu,Sem.run_ite,Sem.run_pure,ih fs hf]
      rename_i a b _ _ _ _ _
      by_cases hab:a=b <;> simp [hab]
  | str hs hu hx hy _ ih=>
    intro fs hf
    cases fs with
    | nil=>simp at hf
    | cons f fs=>
      simp only [List.map_cons,List.cons.injEq,Prod.mk.injEq] at hf
      obtain ⟨⟨rfl,rfl,hn⟩,hf⟩:=hf
      have hn' : f.name ≠ "_" := by simpa using hn
      simp only [Op.eqFields,if_pos hn',Sem.run_bind,run_part1 w hs hx,run_part1 w hs hy,Result.andThen_ok,run_equalIn_string w _ _ _ _ hu,Sem.run_ite,Sem.run_pure,ih fs hf,toList_beq]
      rename_i a b _ _ _ _ _
      by_cases hab:a=b <;> simp [hab]
  | @struct d t off xs ys us vs rest sub r q hs hl hx hy hu hp hsub _ _ ih1 ih2=>
    intro fs hf
    cases fs with
    | nil=>simp at hf
    | cons f fs=>
      simp only [List.map_cons,List.cons.injEq,Prod.mk.injEq] at hf
      obtain ⟨⟨rfl,rfl,hn⟩,hf⟩:=hf
      have hn' : f.name ≠ "_" := by simpa using hn
      have h2:=run_partA (P:=P) w (by rw [← hl]; exact hs) hy
      simp only [Op.eqFields,if_pos hn',Sem.run_bind,run_partA w hs hx,h2,Result.andThen_ok,run_equalIn_struct w _ _ _ _ hu hp,ih1 _ hsub,Sem.run_ite,Sem.run_pure,ih2 fs hf]
      cases q <;> simp
theorem y_stEq {t yt ty:TypeId} {x y:Operand} {xs ys:List Value} {sub:List (Nat × Nat × Bool)} {r b:Bool} (hu:P.underlying t=some (.struct (P.fieldsOf t))) (hp:P.stoodInHeld t=false) (hm:P.eqGuardType P.depth t=false)
    (hsub : (P.fieldsOf t).toList.map (fun f => (f.type, f.offset, f.name != "_")) = sub) (hpl : EqPlan P 9999 xs ys sub r) (hr : r = b) (hx : opv L x = some (.agg xs.toArray)) (hy : opv L y = some (.agg ys.toArray)) :
    Yv P n (.binOp .eql t x y yt) ty L w (.bool b):=by
  intro a d pos after guard ha
  subst hr
  have h:(binOp .eql t (.agg xs.toArray) (.agg ys.toArray)).run P w=.ok (.bool r) w:=by
    rw [run_eql_struct,show (10000:Nat)=9999 + 1 from rfl,run_equalIn_struct w _ _ _ _ hu hp,run_eqPlan hpl _ hsub]
    rfl
  simp only [execOp,ha.eval hx,ha.eval hy,Sem.run_bind,run_eqGuard_agg w _ _ _ _ _ _ hm,h,Result.andThen_ok,Sem.run_pure]
theorem y_stNe {t yt ty:TypeId} {x y:Operand} {xs ys:List Value} {sub:List (Nat × Nat × Bool)} {r b:Bool} (hu:P.underlying t=some (.struct (P.fieldsOf t))) (hp:P.stoodInHeld t=false) (hm:P.eqGuardType P.depth t=false)
    (hsub : (P.fieldsOf t).toList.map (fun f => (f.type, f.offset, f.name != "_")) = sub) (hpl : EqPlan P 9999 xs ys sub r) (hr : (!r) = b) (hx : opv L x = some (.agg xs.toArray)) (hy : opv L y = some (.agg ys.toArray)) :
    Yv P n (.binOp .neq t x y yt) ty L w (.bool b):=by
  intro a d pos after guard ha
  subst hr
  have h:(binOp .neq t (.agg xs.toArray) (.agg ys.toArray)).run P w=.ok (.bool (!r)) w:=by
    rw [run_neq_struct,show (10000:Nat)=9999 + 1 from rfl,run_equalIn_struct w _ _ _ _ hu hp,run_eqPlan hpl _ hsub]
    rfl
  simp only [execOp,ha.eval hx,ha.eval hy,Sem.run_bind,run_eqGuard_agg w _ _ _ _ _ _ hm,h,Result.andThen_ok,Sem.run_pure]
end
end Go.Sx
namespace Go.Sx
section
variable {P : Program} {n : Nat} {L : Env} {w : World}
end
end Go.Sx
namespace Go.Sx
section
variable {P : Program} {n : Nat} {L : Env} {w : World} {t yt ty : TypeId} {x y : Operand} {i j r : Int}
theorem y_quoC (hx:opv L x=some (.int .i64 i)) (hy:opv L y=some (.int .i64 j)) (hj:0 < j) (hr:wI (i.tdiv j)=r):Yv P n (.binOp .quo t x y yt) ty L w (.int .i64 r):=hr ▸ y_quoW hx hy hj
theorem y_addC (hx:opv L x=some (.int .i64 i)) (hy:opv L y=some (.int .i64 j)) (hr:wI (i + j)=r):Yv P n (.binOp .add t x y yt) ty L w (.int .i64 r):=hr ▸ y_addW hx hy
theorem y_subC (hx:opv L x=some (.int .i64 i)) (hy:opv L y=some (.int .i64 j)) (hr:wI (i - j)=r):Yv P n (.binOp .sub t x y yt) ty L w (.int .i64 r):=hr ▸ y_subW hx hy
end
end Go.Sx
namespace Go.Sx
def PtrD {α:Type} (T:Ty α) (d:Dat) (w:World) (v:Value) (x:α):Prop:=∃ b cs,v=.pointer (some ⟨b,0,none⟩)∧Cel d w b 0 cs∧T.rel d w x cs
theorem PtrD.mono {α:Type} {T:Ty α} {d d':Dat} {w w':World} {v:Value} {x:α} (h:PtrD T d w v x) (hle:Le d w d' w'):PtrD T d' w' v x:=by
  obtain ⟨b,cs,rfl,hc,hr⟩:=h
  exact ⟨b,cs,rfl,hc.mono hle,T.mono hle hr⟩
end Go.Sx
