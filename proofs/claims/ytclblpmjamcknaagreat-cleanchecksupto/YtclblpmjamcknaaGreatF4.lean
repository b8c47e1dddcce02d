/- The function stipendlaw24.CleanChecks returns true at every input of bulk at most 1048576, and its arguments read as before. Conditions: none. -/
import Derived.Test.YtclblpmjamcknaaGreatC4
import Derived.Test.YtclblpmjamcknaaGreatP5
set_option linter.unusedVariables false
set_option linter.unusedSimpArgs false
namespace Go.Proofs.YtclblpmjamcknaaGreat.fn4
open Go.Sx Go.ChangeShapes Go.WideShapes Go.ChangeAt Go.RowKit
theorem bulk3 {H:Type} {a b c:DataW H} {n:Nat} (h:Rows.uptoBulkAll [a,b,c]≤n):Rows.uptoBulk a≤n∧Rows.uptoBulk b≤n∧Rows.uptoBulk c≤n:=by
  simp only [Rows.uptoBulkAll] at h
  omega
set_option maxRecDepth 100000 in
theorem contract (H:Type) (enc:TypeId × Value→H) (W:World) (base:Nat) (args:Array Value) (ds gs:List (DataW H)) (before:List MemPlace)
    (hval:∀ (j:Nat) t v,Tryz.f4.params[j]?=some t→args[j]?=some v→Value.okWide Tryz.prog W .any base t v)
    (hW:DataW.Whole enc Tryz.prog Tryz.f4.params.toList Rows.cleanChecksSpec.vars false W args.toList ds gs before) (hk:Rows.uptoSmall H (ds ++ gs)=true) :
    Calls Tryz.prog 4 args W fun e W'=>∃ v,e=.returned v∧Rows.cleanChecksSpec.post enc Tryz.prog Tryz.f4 false true false false W args v W':=by
  have hW':=hW
  obtain ⟨p,q,hA0,hV,rfl,hfz,hnd⟩:=hW
  have hA:DataW.TrodAll enc Tryz.prog W 0 (fun _=>true) true Tryz.f4.params.toList args.toList ds p:=hA0
  rw [Tryz.params4] at hA hval
  obtain ⟨v0,v1,v2,d0,d1,d2,p0,p1,p2,rfl,rfl,rfl,h0,h1,h2⟩:=trodAll_three hA
  obtain ⟨rfl,rfl⟩:=trodVars_none hV
  clear hA0
  simp only [List.append_nil] at hW' hk
  have hbulk:=bulk3 (bound hk)
  have hlt:∀ x ∈ p0 ++ p1 ++ p2,x.block < W.heap.size:=fun x hx=>hW'.lt x hx
  obtain ⟨c0,rfl,_⟩:=okWide_struct Tryz.underlying26 (hval 0 26 v0 rfl rfl)
  obtain ⟨c1,rfl,_⟩:=okWide_struct Tryz.underlying28 (hval 1 28 v1 rfl rfl)
  obtain ⟨a2,l2,k2,rfl⟩:=okWide_slice Tryz.underlying72 (hval 2 72 v2 rfl rfl)
  obtain ⟨f0,g0⟩:=id h0
  obtain ⟨f1,g1⟩:=id h1
  obtain ⟨f2,g2⟩:=id h2
  obtain ⟨t,ht⟩:=rd_26 _ _ _ g0 (by first | exact hbulk.1 | exact hbulk.2.1 | exact hbulk.2.2)
  obtain ⟨c,hc⟩:=rd_28 _ _ _ g1 (by first | exact hbulk.1 | exact hbulk.2.1 | exact hbulk.2.2)
  obtain ⟨v,ops,ev,ho⟩:=rd_72 _ _ _ g2 (by first | exact hbulk.1 | exact hbulk.2.1 | exact hbulk.2.2)
  obtain rfl:=(List.cons.inj ev).1
  have e1:Value.agg c1=.agg #[.int .i64 c.scheme,.int .i64 c.kind,.int .i64 c.amount,.int .i64 c.flat,.bool c.alone]:=by
    congr 1
    exact Array.toList_inj.1 hc
  have R:=CleanChecks_c (c:=c) (d:=old W) (w:=W) (fun b hb=>hb) ht ho
  have ea:(⟨[Value.agg (Value.agg c0).cells.toList.toArray,.agg #[.int .i64 c.scheme,.int .i64 c.kind,.int .i64 c.amount,.int .i64 c.flat,.bool c.alone],.slice a2 l2 k2]⟩:Array Value)=#[.agg c0,.agg c1,.slice a2 l2 k2]:=by
    rw [e1]; rfl
  unfold Ret at R
  rw [show ([Value.agg (Value.agg c0).cells.toList.toArray,.agg #[.int .i64 c.scheme,.int .i64 c.kind,.int .i64 c.amount,.int .i64 c.flat,.bool c.alone],.slice a2 l2 k2]:List Value).toArray=#[.agg c0,.agg c1,.slice a2 l2 k2] from ea] at R
  refine R.mono fun e W' hq=>?_
  obtain ⟨u,d',he,hfr,_,hu⟩:=hq
  rw [CleanChecks_true] at hu
  subst he hu
  have hb:=hfr.below
  refine ⟨_,rfl,post_below hW' rfl (fun _ _ _=>trodAll_cons_mk (shut_bool Tryz.underlying4 _) trodAll_mk0) (fun sp hsp=>?_) rfl hb (ok_one (by kernel_rfl) rfl (okWide_bool_mk Tryz.underlying4 _))⟩
  have h3:=trodAll_mk3
    (reread (by kernel_rfl) (of_decide_eq_true (by kernel_rfl)) h0 hb (fun x hx=>hlt x (by simp [hx])) (sp:=sp) (fun x hx=>hsp x (by simp [hx])))
    (reread (by kernel_rfl) (of_decide_eq_true (by kernel_rfl)) h1 hb (fun x hx=>hlt x (by simp [hx])) (sp:=sp) (fun x hx=>hsp x (by simp [hx])))
    (reread (by kernel_rfl) (of_decide_eq_true (by kernel_rfl)) h2 hb (fun x hx=>hlt x (by simp [hx])) (sp:=sp) (fun x hx=>hsp x (by simp [hx])))
  rw [Tryz.params4]
  rw [List.append_nil,List.append_assoc]
  exact h3
set_option maxRecDepth 100000 in
theorem lifted (os:Os) (started:os.Started) (H:Type) (enc:TypeId × Value→H) (F:Stop.Interp) :
    ReturnsInHanded {} Tryz.checked os 4 .any ((Rows.OpenSpec.upto Rows.cleanChecksSpec).pre6 enc Tryz.prog Tryz.f4 Rows.cleanChecksUptoRow.domain false) (((Rows.OpenSpec.upto Rows.cleanChecksSpec).at F).post enc Tryz.prog Tryz.f4 false true false false):=by
  refine returnsInHanded_of_cond (C:=Tryz.checked) (s:=Rows.OpenSpec.upto Rows.cleanChecksSpec) (k:=Rows.uptoSmall) rfl own started (by kernel_rfl) Tryz.func4
    (OpenSpec.witness (enc:=enc) (C:=Tryz.checked) (s:=Rows.OpenSpec.upto Rows.cleanChecksSpec) (k:=Rows.uptoSmall) rfl false ⟨#[],#[.agg #[.slice none 0 0,.slice none 0 0,.slice none 0 0,.int .i64 0,.int .i64 0],.agg #[.int .i64 0,.int .i64 0,.int .i64 0,.int .i64 0,.bool false],.slice none 0 0],[]⟩ 8 (by kernel_rfl) (by kernel_rfl) (by kernel_rfl)
      (x:=([.agg [.nil,.nil,.nil,.lit (.int .i64 0),.lit (.int .i64 0)],.agg [.lit (.int .i64 0),.lit (.int .i64 0),.lit (.int .i64 0),.lit (.int .i64 0),.lit (.bool false)],.nil],[],[])) (by kernel_rfl) rfl (by kernel_rfl)) ?_
  intro W base args ds gs before hval hW _ hk _
  exact contract H enc W base args ds gs before hval hW hk
theorem proved:Rows.CleanChecksUptoSaid:=
  OpenClaim.holds_of_cond 4 Tryz.f4 rfl rfl rfl rfl rfl rfl rfl ⟨rfl,rfl,rfl,rfl,rfl⟩ rfl rfl rfl rfl rfl (by kernel_rfl) Tryz.func4 closed
    (of_decide_eq_true (by kernel_rfl)) (by unfold Func.isWrapper; first | (rw [if_pos (by decide +kernel)]; kernel_rfl) | (rw [if_neg (by decide +kernel)]; exact ⟨rfl,rfl⟩))
    (fun os started H enc _ F=>lifted os started H enc F)
#print axioms proved
end Go.Proofs.YtclblpmjamcknaaGreat.fn4
