import Derived.Test.YtclblpmjamcknaaGreatCore8
import Derived.LoopN
import Derived.Laws.StructEq
namespace Go.Sx
open Go.RowKit
theorem not_t {b:Bool} (h:(!b)=true):b=false:=by cases b <;> simp_all
theorem not_f {b:Bool} (h:(!b)=false):b=true:=by cases b <;> simp_all
def intTy:Ty Int:=Ty.plain 1 (fun i=>[.int .i64 i]) (fun _=>⟨rfl,rfl⟩)
section
variable {P : Program} {n : Nat} {Q : Exit → Act → World → Prop} {L : Env} {w : World} {ops : Array Oper} {rest : List Oper} {o : Oper}
variable {M : List Nat} {d0 d : Dat} {we : World} {rs rs' : List Res}
theorem row_len {α:Type} {T:Ty α} {e:TypeId} {v:Value} {xs:List α} (h:(row T e v xs).ok d w):xs.length≤big:=by
  obtain ⟨_,_,_,h3⟩:=h
  exact h3
theorem c_cut1 {ι:Type} (st:ι→Env) (J:ι→World→Prop) {x:Code} (hx:C P n (CutQ n st J Q) x L w) (hy:∀ i w',J i w'→X n Q .normal (st i) w') :
    C P n Q x L w:=by
  refine c_mono ?_ hx
  intro e a w hq
  cases e with
  | normal=>
    obtain ⟨i,h1,h2⟩:=hq
    exact hy i w h2 a h1
  | exit id=>exact hq
  | goto l=>exact hq
  | ret=>exact hq
  | panic ch=>exact hq
  | outgrown=>exact hq
theorem c_loop_n (m:Nat) {c:Code} (h:C P n (Exit.then (Code.rounds P c Q m) Q) c L w):C P n Q (.loop c) L w:=fun a ha=>wp_loop_rounds (m + 1) (h a ha)
theorem x_again {m:Nat} {c:Code} (h:C P n (Exit.then (Code.rounds P c Q m) Q) c L w):X n (Exit.then (Code.rounds P c Q (m + 1)) Q) .normal L w:=fun a ha=>h a ha
theorem y_quoW {t yt ty:TypeId} {x y:Operand} {i j:Int} (hx:opv L x=some (.int .i64 i)) (hy:opv L y=some (.int .i64 j)) (hj:0 < j) :
    Yv P n (.binOp .quo t x y yt) ty L w (.int .i64 (wI (i.tdiv j))):=by
  intro a d pos after guard ha
  have h0:¬ j=0:=by omega
  simp [execOp,ha.eval hx,ha.eval hy,run_eqGuard_int,binOp,Op.intDiv,h0,wI]
theorem ev_pureC {f:FuncId} {x:Operand} {xs:List Operand} {ts:Array TypeId} {ty:TypeId} {vs captured:List Value} {Post:Value→Dat→World→Prop} (hI:Inv M d0 we d rs w)
    (hf:plainF P f=true) (hx:opv L x=some (.func (.func f) #[] captured.toArray)) (hxs:opvs L xs=some vs) (hc:Ret P f (vs ++ captured) w [] d Post) :
    Ev P n (.call { callee:=.value x,args:=xs.toArray,argTypes:=ts }) ty L w (fun v w'=>∃ d',Inv M d0 we d' rs w'∧Le d w d' w'∧Post v d' w'):=
  (ev_ret (first:=[]) hf hx hxs (by simpa using hc)).mono fun _ _ ⟨d',hfr,hg,hp⟩=>⟨d',(hI.pure hfr hg).1,(hI.pure hfr hg).2,hp⟩
theorem y_buildA {t ty e size len:Nat} {parts:List (Nat × Operand)} {zs cs:List Value} (hz:zeroT P t=some zs) (ht:arrOfT P t=some (len,e,size)) (hf:Fills L (fun i=>some (i * size,size)) parts zs cs) :
    Yv P n (.build t parts.toArray) ty L w (.agg cs.toArray):=by
  intro a dd pos after guard ha
  unfold zeroT at hz
  cases hi:P.info? t with
  | none=>simp [hi] at hz
  | some info=>
    cases hzz:info.zero with
    | none=>simp [hi,hzz] at hz
    | some z=>
      simp [hi,hzz] at hz
      subst hz
      unfold arrOfT at ht
      split at ht
      · rename_i len' e' hu
        cases hi':P.info? e' with
        | none=>simp [hi'] at ht
        | some info'=>
          simp only [hi',Option.map_some,Option.some.injEq,Prod.mk.injEq] at ht
          obtain ⟨rfl,rfl,rfl⟩:=ht
          have hfill:=hf.fill ha
          simp only [execOp,Instr.build,zeroValue,typeInfo,underlying,sizeOf,Sem.run_bind,run_program,Result.andThen_ok,hi,Sem.run_pure,hzz,hu,hi',vcells_eq,List.map_toArray,hfill]
      · cases ht
theorem part_cells {off k:Nat} {cs out:List Value} (h:Part off k cs out):out=(cs.drop off).take k:=by
  induction h with
  | nil cs=>simp
  | @take u k cs out h ih=>simp at ih; simp [ih]
  | @skip u o k cs out h ih=>simpa using ih
theorem run_part1 {e:Nat} {cs:List Value} {off:Nat} {v:Value} (w:World) (ha:shapeT P e=some none) (hv:nth cs off=some v):(part e cs.toArray off).run P w=.ok v w:=by
  rw [nth_eq] at hv
  unfold shapeT at ha
  cases hu:P.underlying e with
  | none=>simp [hu] at ha
  | some td=>
    have:(isAgg e).run P w=.ok false w:=by
      cases td <;> simp [hu] at ha <;> simp [isAgg,underlying,hu]
    simp [part,this,hv]
theorem run_partA {e:Nat} {cs out:List Value} {off:Nat} (w:World) (ha:shapeT P e=some (some out.length)) (hp:Part off out.length cs out) :
    (part e cs.toArray off).run P w=.ok (.agg out.toArray) w:=by
  unfold shapeT at ha
  cases hu:P.underlying e with
  | none=>simp [hu] at ha
  | some td=>
    cases hi:P.info? e with
    | none=>cases td <;> simp [hu,hi] at ha
    | some info=>
      have h1:(isAgg e).run P w=.ok true w:=by
        cases td <;> simp [hu,hi] at ha <;> simp [isAgg,underlying,hu]
      have h2:info.size=out.length:=by
        cases td <;> simp [hu,hi] at ha <;> exact ha
      have h3:=part_cells hp
      have h4:cs.toArray.extract off (off + out.length)=out.toArray:=by
        rw [List.extract_toArray,List.extract_eq_take_drop]
        congr 1
        rw [show off + out.length - off=out.length by omega]
        exact h3.symm
      simp only [part,h1,sizeOf,typeInfo,Sem.run_bind,run_program,Result.andThen_ok,hi,Sem.run_pure,h2,h4,if_true]
section
variable {t ty e size len i : Nat} {x y : Operand} {k : IntKind} {j : Int} {cs : List Value}
theorem y_index1 {v:Value} (ht:arrOfT P t=some (len,e,size)) (hs:shapeT P e=some none) (hx:opv L x=some (.agg cs.toArray)) (hy:opv L y=some (.int k j)) (hj:j=(i:Int)) (hlt:i < len)
    (hv:nth cs (i * size)=some v):Yv P n (.index t x y) ty L w v:=by
  intro a d pos after guard ha
  subst hj
  unfold arrOfT at ht
  split at ht
  · rename_i len' e' hu
    cases hi:P.info? e' with
    | none=>simp [hi] at ht
    | some info=>
      simp only [hi,Option.map_some,Option.some.injEq,Prod.mk.injEq] at ht
      obtain ⟨rfl,rfl,rfl⟩:=ht
      have hb:(0:Int)≤(i:Int)∧(i:Int) < (len':Int):=⟨by omega,by omega⟩
      simp only [execOp,ha.eval hx,ha.eval hy,Instr.index,asIntOf,underlying,sizeOf,typeInfo,Sem.run_bind,run_program,Result.andThen_ok,hu,Sem.run_pure,hi,if_pos hb,Int.toNat_natCast,run_part1 w hs hv]
  · cases ht
theorem y_indexA {out:List Value} (ht:arrOfT P t=some (len,e,size)) (hs:shapeT P e=some (some out.length)) (hx:opv L x=some (.agg cs.toArray)) (hy:opv L y=some (.int k j)) (hj:j=(i:Int)) (hlt:i < len)
    (hv:Part (i * size) out.length cs out):Yv P n (.index t x y) ty L w (.agg out.toArray):=by
  intro a d pos after guard ha
  subst hj
  unfold arrOfT at ht
  split at ht
  · rename_i len' e' hu
    cases hi:P.info? e' with
    | none=>simp [hi] at ht
    | some info=>
      simp only [hi,Option.map_some,Option.some.injEq,Prod.mk.injEq] at ht
      obtain ⟨rfl,rfl,rfl⟩:=ht
      have hb:(0:Int)≤(i:Int)∧(i:Int) < (len':Int):=⟨by omega,by omega⟩
      simp only [execOp,ha.eval hx,ha.eval hy,Instr.index,asIntOf,underlying,sizeOf,typeInfo,Sem.run_bind,run_program,Result.andThen_ok,hu,Sem.run_pure,hi,if_pos hb,Int.toNat_natCast,run_partA w hs hv]
  · cases ht
end
end
end Go.Sx
