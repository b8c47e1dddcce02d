import Derived.Test.YtclblpmjamcknaaGreatP2
set_option linter.unusedVariables false
set_option linter.unusedSimpArgs false
namespace Go.Proofs.YtclblpmjamcknaaGreat
open Go.Sx
def tFold:List Slip→Totals→Option Totals
  | [],T=>some T
  | s :: l,T=>if (yAdd T s).2≠0 then none else tFold l (yAdd T s).1
theorem tFold_snoc:∀ (l:List Slip) (T:Totals) (s:Slip),tFold (l ++ [s]) T=(tFold l T).bind fun U=>if (yAdd U s).2≠0 then none else some (yAdd U s).1
  | [],T,s=>by simp [tFold]
  | x :: l,T,s=>by
    show tFold (x :: (l ++ [s])) T=_
    unfold tFold
    split
    · rfl
    · exact tFold_snoc l _ s
theorem yUpto_l1_ok:∀ (l:List Slip) (k:Nat) (T U:Totals),tFold l T=some U→yUpto_l1 l k T.bases.cash T.bases.taxable T.bases.social T.tax T.shortfall T.shares T.net T.taken T.pay=.next (U.bases.cash,U.bases.taxable,U.bases.social,U.tax,U.shortfall,U.shares,U.net,U.taken,U.pay)
  | [],k,T,U,h=>by
    unfold tFold at h; cases h; rfl
  | s :: l,k,T,U,h=>by
    unfold tFold at h
    unfold yUpto_l1
    simp only [bnd]
    have eT:(⟨⟨T.bases.cash,T.bases.taxable,T.bases.social⟩,T.tax,T.shortfall,T.shares,T.net,T.taken,T.pay⟩:Totals)=T:=rfl
    rw [eT]
    by_cases h1:(yAdd T s).2≠0
    · rw [if_pos h1] at h; cases h
    · rw [if_neg h1] at h ⊢
      exact yUpto_l1_ok l _ _ U h
def zeroT (n:Int):Totals:=⟨⟨0,0,0⟩,0,0,(sSum n []).1,0,0,0⟩
theorem yUpto_ok {y:YearS} {k:Nat} {U:Totals} (hk:k≤y.slips.length) (hs:(sSum y.contribs []).2=0) (h:tFold (y.slips.take k) (zeroT y.contribs)=some U):yUpto y k=(U,0):=by
  unfold yUpto
  rw [if_neg (by omega),if_neg (by omega)]
  simp only [bnd]
  rw [if_neg (by omega)]
  simp only [Int.toNat_natCast]
  have:=yUpto_l1_ok _ 0 _ U h
  unfold zeroT at this
  simp only at this
  rw [this]
  rfl
theorem yTry_run {y:YearS} {s:Slip} (h:(yTry y s).2=0):yTry y s=((yAdd y.totals s).1,0)∧(yAdd y.totals s).2=0∧s.period=(y.slips.length:Int) + 1∧s.period≤53:=by
  have ht:=yTry_ok h
  unfold yTry at h ⊢
  simp only [bnd] at h ⊢
  rw [if_neg (by omega),if_neg (by omega)] at h ⊢
  have em:yTry_m1 y s=((yAdd y.totals s).2,(yAdd y.totals s).1.bases.cash,(yAdd y.totals s).1.bases.taxable,(yAdd y.totals s).1.bases.social,(yAdd y.totals s).1.tax,(yAdd y.totals s).1.shortfall,(yAdd y.totals s).1.shares,(yAdd y.totals s).1.net,(yAdd y.totals s).1.taken,(yAdd y.totals s).1.pay):=rfl
  rw [em] at h ⊢
  simp only at h ⊢
  by_cases h1:(yAdd y.totals s).2≠0
  · rw [if_pos h1] at h; exact absurd h h1
  · rw [if_neg h1]; exact ⟨rfl,Decidable.not_not.1 h1,ht.1,ht.2.1⟩
theorem yPost_run {y:YearS} {s:Slip} (h:(yPost y s).2=0):yPost y s=(⟨y.contribs,y.slips ++ [s],(yAdd y.totals s).1⟩,0)∧(yAdd y.totals s).2=0∧s.period=(y.slips.length:Int) + 1∧s.period≤53:=by
  unfold yPost at h ⊢
  simp only [bnd,yCopied_eq] at h ⊢
  by_cases h1:(yTry y s).2≠0
  · rw [if_pos h1] at h; exact absurd h h1
  rw [if_neg h1] at h ⊢
  have:=yTry_run (Decidable.not_not.1 h1)
  rw [this.1]
  exact ⟨rfl,this.2⟩
theorem yPost_err {y:YearS} {s:Slip} (h:(yPost y s).2≠0):(yPost y s).1=y:=by
  unfold yPost at h ⊢
  simp only [bnd] at h ⊢
  by_cases h1:(yTry y s).2≠0
  · rw [if_pos h1]
  rw [if_neg h1] at h
  exact absurd rfl h
theorem yTotals_eq {y:YearS}:yTotals y=y.totals:=by
  unfold yTotals; simp only [bnd,clShareR_eq]
theorem eTry_ok {p:EmpS} (h:(eTry p 0).2=0):∃ C,rReckon p.table p.year 0 (p.inputs ++ [⟨p.code,p.next⟩])=(C,0)∧(rSlip p.table p.posted.totals C (ePeriod p) (!p.code.alone)).2=0∧(eTry p 0).1=(rSlip p.table p.posted.totals C (ePeriod p) (!p.code.alone)).1∧ePeriod p≠0:=by
  unfold eTry at h ⊢
  simp only [bnd] at h ⊢
  by_cases h1:eOpen p≠0
  · rw [if_pos h1] at h; exact absurd h h1
  rw [if_neg h1] at h ⊢
  have ho:ePeriod p≠0:=by
    intro h9
    unfold eOpen at h1
    simp only [bnd] at h1
    rw [if_pos h9] at h1
    exact h1 (by decide)
  have e1:eTry_m1 p 0=((rReckon p.table p.year 0 (p.inputs ++ [⟨p.code,p.next⟩])).2,(rReckon p.table p.year 0 (p.inputs ++ [⟨p.code,p.next⟩])).1.periods,(rReckon p.table p.year 0 (p.inputs ++ [⟨p.code,p.next⟩])).1.sum.cash,(rReckon p.table p.year 0 (p.inputs ++ [⟨p.code,p.next⟩])).1.sum.taxable,(rReckon p.table p.year 0 (p.inputs ++ [⟨p.code,p.next⟩])).1.sum.social,(rReckon p.table p.year 0 (p.inputs ++ [⟨p.code,p.next⟩])).1.tax,(rReckon p.table p.year 0 (p.inputs ++ [⟨p.code,p.next⟩])).1.shares):=by
    unfold eTry_m1; simp only [bnd,eInputsWith_eq]
  rw [e1] at h ⊢
  simp only at h ⊢
  by_cases h2:(rReckon p.table p.year 0 (p.inputs ++ [⟨p.code,p.next⟩])).2≠0
  · rw [if_pos h2] at h; exact absurd h h2
  rw [if_neg h2] at h ⊢
  generalize hC:rReckon p.table p.year 0 (p.inputs ++ [⟨p.code,p.next⟩])=C at h h2 ⊢
  obtain ⟨C,z⟩:=C
  simp only at h h2 ⊢
  have hz:z=0:=Decidable.not_not.1 h2
  subst hz
  have eC:(⟨C.periods,⟨C.sum.cash,C.sum.taxable,C.sum.social⟩,C.tax,C.shares⟩:Clean)=C:=rfl
  have e2:eTry_m2 p C.periods C.sum.cash C.sum.taxable C.sum.social C.tax C.shares=((rSlip p.table p.posted.totals C (ePeriod p) (!p.code.alone)).2,(rSlip p.table p.posted.totals C (ePeriod p) (!p.code.alone)).1.period,(rSlip p.table p.posted.totals C (ePeriod p) (!p.code.alone)).1.bases.cash,(rSlip p.table p.posted.totals C (ePeriod p) (!p.code.alone)).1.bases.taxable,(rSlip p.table p.posted.totals C (ePeriod p) (!p.code.alone)).1.bases.social,(rSlip p.table p.posted.totals C (ePeriod p) (!p.code.alone)).1.tax,(rSlip p.table p.posted.totals C (ePeriod p) (!p.code.alone)).1.shortfall,(rSlip p.table p.posted.totals C (ePeriod p) (!p.code.alone)).1.shares,(rSlip p.table p.posted.totals C (ePeriod p) (!p.code.alone)).1.net,(rSlip p.table p.posted.totals C (ePeriod p) (!p.code.alone)).1.taken,(rSlip p.table p.posted.totals C (ePeriod p) (!p.code.alone)).1.pay):=by
    unfold eTry_m2; simp only [bnd,yTotals_eq,eC]
  rw [e2] at h ⊢
  simp only at h ⊢
  by_cases h3:(rSlip p.table p.posted.totals C (ePeriod p) (!p.code.alone)).2≠0
  · rw [if_pos h3] at h; exact absurd h h3
  rw [if_neg h3] at h ⊢
  refine ⟨C,rfl,Decidable.not_not.1 h3,?_,ho⟩
  split at h
  · rename_i h4; exact absurd h h4
  · rename_i h4
    rw [if_neg h4]
theorem ePeriod_run {p:EmpS} (h:ePeriod p≠0):ePeriod p=(p.inputs.length:Int) + 1:=by
  unfold ePeriod at h ⊢
  simp only [bnd] at h ⊢
  split at h
  · exact absurd rfl h
  · rename_i h1; rw [if_neg h1]
structure Ran (p p':EmpS):Prop where
  table:p'.table=p.table
  year:p'.year=p.year
  code:p'.code=p.code
  prot:p'.prot=p.prot
  inputs:p'.inputs=p.inputs ++ [⟨p.code,p.next⟩]
  contribs:p'.posted.contribs=p.posted.contribs
  slip:∃ s,p'.posted.slips=p.posted.slips ++ [s]∧(yAdd p.posted.totals s)=(p'.posted.totals,0)
  count:p.inputs.length=p.posted.slips.length∧p.inputs.length + 1≤53
  clean:∃ C,rReckon p.table p.year 0 p'.inputs=(C,0)∧p'.posted.totals.bases=C.sum∧mAdd p'.posted.totals.tax p'.posted.totals.shortfall=(C.tax,0)∧p'.posted.totals.shares=C.shares
theorem eRun_ok {p:EmpS} (h:(eRun p).2.2=0):Ran p (eRun p).1:=by
  unfold eRun at h ⊢
  simp only [bnd] at h ⊢
  by_cases h1:(eTry p 0).2≠0
  · rw [if_pos h1] at h; exact absurd h h1
  rw [if_neg h1] at h ⊢
  obtain ⟨C,hC,hs,e1,ho⟩:=eTry_ok (Decidable.not_not.1 h1)
  obtain ⟨held,delta,net,pay,e2,e3,b1,b2,b3⟩:=rSlip_ok hs
  rw [e2] at e1
  simp only at e1
  rw [e1] at h ⊢
  simp only at h ⊢
  split at h
  · rename_i h2; exact absurd h h2
  rename_i h2
  rw [if_neg h2]
  generalize aBook net p.prot (oClone p.orders)=B at h h2 ⊢
  split at h
  · rename_i h3; exact absurd h h3
  rename_i h3
  rw [if_neg h3]
  obtain ⟨net',pay',e4⟩:=sMake_ok (Decidable.not_not.1 h3)
  rw [e4] at h ⊢
  simp only at h ⊢
  split at h
  · rename_i h4; exact absurd h h4
  rename_i h4
  rw [if_neg h4]
  obtain ⟨e5,e6,c1,c2⟩:=yPost_run (Decidable.not_not.1 h4)
  simp only at c1 c2
  rw [ePeriod_run ho] at c1 c2
  obtain ⟨n2,t2,p2,e7,e8⟩:=yAdd_ok e6
  simp only at e7 e8
  have hD:=shDelta_ok (due:=C.shares) (posted:=p.posted.totals.shares) (by rw [e3])
  have hdel:delta=rest C.shares p.posted.totals.shares:=by
    have:=hD.1; rw [e3] at this; exact congrArg Prod.fst this
  rw [hdel] at e8
  have e9:=shPost_ok hD.2 e8
  rw [hdel,e9] at e7
  rw [hdel] at e5
  rw [hdel,e5]
  refine ⟨rfl,rfl,rfl,rfl,?_,rfl,⟨_,rfl,?_⟩,by omega,C,?_,?_,?_,?_⟩
  · simp only [eInputsWith_eq]
  · rw [hdel] at e6; exact Prod.ext rfl e6
  · simp only [eInputsWith_eq]; exact hC
  · simp only [e7]
    rw [show p.posted.totals.bases.cash + (C.sum.cash - p.posted.totals.bases.cash)=C.sum.cash by omega,show p.posted.totals.bases.taxable + (C.sum.taxable - p.posted.totals.bases.taxable)=C.sum.taxable by omega,show p.posted.totals.bases.social + (C.sum.social - p.posted.totals.bases.social)=C.sum.social by omega]
  · simp only [e7]
    rw [mAdd_in b1 b2 (by omega)]
    rw [show p.posted.totals.tax + held + (C.tax - p.posted.totals.tax - held)=C.tax by omega]
  · simp only [e7]
theorem eRun_err {p:EmpS} (h:(eRun p).2.2≠0):(eRun p).1=p:=by
  unfold eRun at h ⊢
  simp only [bnd] at h ⊢
  split
  · rfl
  rename_i h1
  rw [if_neg h1] at h
  split
  · rfl
  rename_i h2
  rw [if_neg h2] at h
  split
  · rfl
  rename_i h3
  rw [if_neg h3] at h
  split
  · rename_i h4; simp only [yPost_err h4]
  rename_i h4
  rw [if_neg h4] at h
  exact absurd rfl h
end Go.Proofs.YtclblpmjamcknaaGreat
