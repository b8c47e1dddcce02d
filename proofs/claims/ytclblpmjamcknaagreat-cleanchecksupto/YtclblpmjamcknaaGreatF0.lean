import Derived.Test.YtclblpmjamcknaaGreatR2
set_option linter.unusedVariables false
set_option linter.unusedSimpArgs false
namespace Go.Proofs.YtclblpmjamcknaaGreat
open Go.Sx Go.ChangeShapes Go.WideShapes Go.ChangeAt Go.RowKit
section
variable {H : Type} {enc : TypeId × Value → H} {P : Program}
theorem post_below {f:Func} {s:ChangeSpec} {apart fresh handsOn again:Bool} {W W':World} {args:Array Value} {v:Value} {ds:List (DataW H)} {before:List MemPlace}
    (hW:DataW.Whole enc P f.params.toList s.vars apart W args.toList ds [] before) (hvs:s.vars=[])
    (hres:∀ (b:Nat) (sp:Nat→Bool) (hd:Bool),DataW.TrodAll enc P W' b sp hd f.resultTypes.toList (v.resultList f.resultTypes.size) (s.fn H (ds ++ [])).results [])
    (hargs:∀ sp:Nat→Bool,(∀ p ∈ before,sp p.block=true)→DataW.TrodAll enc P W' 0 sp true f.params.toList args.toList (s.fn H (ds ++ [])).args before)
    (hvars:(s.fn H (ds ++ [])).vars=[])
    (hb:Below W.heap.size W W')
    (hok:∀ (j:Nat) (t:TypeId) (r:Value),f.resultTypes[j]?=some t→(v.resultList f.resultTypes.size)[j]?=some r→Value.okWide P W' .any 0 t r) :
    s.post enc P f apart fresh handsOn again W args v W':=by
  have hold:∀ p ∈ before,(fun b=>decide (b < W.heap.size)) p.block=true:=fun p hp=>by simpa using hW.lt p hp
  have hlt:∀ p ∈ before,p.block < W.heap.size:=fun p hp=>hW.lt p hp
  have tv:∀ sp:Nat→Bool,DataW.TrodVars enc P W' sp s.vars (s.fn H (ds ++ [])).vars []:=by
    intro sp; rw [hvs,hvars]; rfl
  refine ⟨ds,[],before,[],before,[],hW,hres _ _ _,hargs _ hold,tv _,hb.frame _,fun _=>?_⟩
  obtain ⟨_,_,_,_,_,hz,hn⟩:=hW
  refine ⟨hok,_,_,([] ++ before) ++ [],⟨[] ++ before,[],trodAll_append (hargs _ (fun _ _=>rfl)) (hres _ _ _),tv _,rfl,?_,?_⟩,?_⟩
  · intro b off hp
    have hp2:MemPlace.cell b off ∈ before:=by simpa using hp
    rw [hb.frozen (show b < W.heap.size from hlt _ hp2)]
    exact hz b off hp2
  · intro ha
    simpa using hn ha
  · intro p hp _
    simpa using hp
end
theorem laid:laidOutB Tryz.prog=true:=by kernel_rfl
theorem own:ownKnob Tryz.prog.godebug=none:=by kernel_rfl
theorem reread {H:Type} {enc:TypeId × Value→H} {t:TypeId} (hr:Tryz.prog.readableRec t=true) (hrow:t < Tryz.prog.types.size) {W W':World} {v:Value} {d:DataW H} {ps:List MemPlace}
    (h:DataW.Trod enc Tryz.prog W 0 (fun _=>true) true t v d ps) (hb:Below W.heap.size W W') (hlt:∀ x ∈ ps,x.block < W.heap.size) {sp:Nat→Bool} (hs:∀ x ∈ ps,sp x.block=true) :
    DataW.Trod enc Tryz.prog W' 0 sp true t v d ps:=
  WideElems.Trod_stays laid hr hrow h (fun x hx=>hb.same (hlt x hx)) (fun x hx=>hs x hx)
end Go.Proofs.YtclblpmjamcknaaGreat
