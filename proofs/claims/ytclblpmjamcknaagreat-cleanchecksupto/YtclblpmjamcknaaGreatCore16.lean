import Derived.Test.YtclblpmjamcknaaGreatCore15
namespace Go.Sx
section
variable {P : Program} {n : Nat} {L : Env} {w : World}
def fieldT (P:Program) (t:TypeId) (f:Nat):Option (Nat × Nat):=
  match P.underlying t with
  | some (.struct fs)=>(fs[f]?).map fun fl=>(fl.offset,fl.type)
  | _=>none
theorem fieldT_spec {t f off e:Nat} (h:fieldT P t f=some (off,e)):∃ fs fl,P.underlying t=some (.struct fs)∧fs[f]?=some fl∧fl.offset=off∧fl.type=e:=by
  unfold fieldT at h
  split at h
  · rename_i fs hu
    cases hf:fs[f]? with
    | none=>simp [hf] at h
    | some fl=>
      simp [hf] at h
      exact ⟨fs,fl,hu,hf,h.1,h.2⟩
  · cases h
theorem y_field1 {t ty f off e:Nat} {x:Operand} {cs:List Value} {v:Value} (hf:fieldT P t f=some (off,e)) (hs:shapeT P e=some none) (hx:opv L x=some (.agg cs.toArray)) (hv:nth cs off=some v) :
    Yv P n (.field t x f) ty L w v:=by
  intro a d pos after guard ha
  obtain ⟨fs,fl,hu,hfl,rfl,rfl⟩:=fieldT_spec hf
  simp only [execOp,ha.eval hx,Instr.field,underlying,Sem.run_bind,run_program,Result.andThen_ok,hu,Sem.run_pure,hfl,asAgg,run_part1 w hs hv]
end
end Go.Sx
