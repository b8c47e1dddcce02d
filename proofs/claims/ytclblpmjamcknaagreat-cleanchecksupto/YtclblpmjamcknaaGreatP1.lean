import Derived.Test.YtclblpmjamcknaaGreatA10
set_option linter.unusedVariables false
set_option linter.unusedSimpArgs false
namespace Go.Proofs.YtclblpmjamcknaaGreat
open Go.Sx
theorem mcheck_ok {x:Int} (h:(mcheck x).2=0):mcheck x=(x,0)∧-100000000000≤x∧x≤100000000000:=by
  unfold mcheck at h ⊢
  simp only [bnd] at h ⊢
  cases hr:mRight [x] with
  | true=>exact ⟨rfl,mRight1 hr⟩
  | false=>rw [hr] at h; cases h
theorem mcheck_in {x:Int} (h:-100000000000≤x∧x≤100000000000):mcheck x=(x,0):=by
  unfold mcheck
  have:mRight [x]=true:=mRight_iff.2 (by intro z hz; cases hz with | head=>exact h | tail _ hz=>cases hz)
  simp only [bnd,this,cond_true]
theorem mAdd_ok {a b:Int} (h:(mAdd a b).2=0):mAdd a b=(a + b,0)∧(-100000000000≤a∧a≤100000000000)∧(-100000000000≤b∧b≤100000000000)∧-100000000000≤a + b∧a + b≤100000000000:=by
  unfold mAdd at h ⊢
  simp only [bnd] at h ⊢
  cases hr:mRight [a,b] with
  | false=>rw [hr] at h; cases h
  | true=>
    have ha:=mRight_mem hr a (.head _)
    have hb:=mRight_mem hr b (.tail _ (.head _))
    rw [hr] at h
    simp only [cond_true] at h ⊢
    rw [wI_id (by omega)] at h ⊢
    have hm:=mcheck_ok h
    rw [hm.1]
    exact ⟨rfl,ha,hb,hm.2⟩
theorem mAdd_in {a b:Int} (ha:-100000000000≤a∧a≤100000000000) (hb:-100000000000≤b∧b≤100000000000) (hs:-100000000000≤a + b∧a + b≤100000000000):mAdd a b=(a + b,0):=by
  unfold mAdd
  have:mRight [a,b]=true:=mRight_iff.2 (by
    intro z hz
    cases hz with
    | head=>exact ha
    | tail _ hz=>cases hz with | head=>exact hb | tail _ hz=>cases hz)
  simp only [bnd,this,cond_true]
  rw [wI_id (by omega),mcheck_in hs]
theorem mSub_ok {a b:Int} (h:(mSub a b).2=0):mSub a b=(a - b,0)∧(-100000000000≤a∧a≤100000000000)∧(-100000000000≤b∧b≤100000000000)∧-100000000000≤a - b∧a - b≤100000000000:=by
  unfold mSub at h ⊢
  simp only [bnd] at h ⊢
  cases hr:mRight [a,b] with
  | false=>rw [hr] at h; cases h
  | true=>
    have ha:=mRight_mem hr a (.head _)
    have hb:=mRight_mem hr b (.tail _ (.head _))
    rw [hr] at h
    simp only [cond_true] at h ⊢
    rw [wI_id (by omega)] at h ⊢
    have hm:=mcheck_ok h
    rw [hm.1]
    exact ⟨rfl,ha,hb,hm.2⟩
theorem baseAdd_ok {a b:Bases} (h:(baseAdd a b).2=0):baseAdd a b=(⟨a.cash + b.cash,a.taxable + b.taxable,a.social + b.social⟩,0):=by
  unfold baseAdd at h ⊢
  simp only [bnd] at h ⊢
  unfold bothAdd at h ⊢
  simp only [bnd] at h ⊢
  by_cases h1:(mAdd a.cash b.cash).2≠0
  · rw [if_pos h1] at h; exact absurd h h1
  rw [if_neg h1] at h ⊢
  by_cases h2:(mAdd a.taxable b.taxable).2≠0
  · rw [if_pos h2] at h; exact absurd h h2
  rw [if_neg h2] at h ⊢
  by_cases h3:(mAdd a.social b.social).2≠0
  · rw [if_pos h3] at h; exact absurd h h3
  rw [if_neg h3] at h ⊢
  rw [(mAdd_ok (Decidable.not_not.1 h1)).1,(mAdd_ok (Decidable.not_not.1 h2)).1,(mAdd_ok (Decidable.not_not.1 h3)).1]
theorem baseSub_ok {a b:Bases} (h:(baseSub a b).2=0):baseSub a b=(⟨a.cash - b.cash,a.taxable - b.taxable,a.social - b.social⟩,0):=by
  unfold baseSub at h ⊢
  simp only [bnd] at h ⊢
  unfold bothSub at h ⊢
  simp only [bnd] at h ⊢
  by_cases h1:(mSub a.cash b.cash).2≠0
  · rw [if_pos h1] at h; exact absurd h h1
  rw [if_neg h1] at h ⊢
  by_cases h2:(mSub a.taxable b.taxable).2≠0
  · rw [if_pos h2] at h; exact absurd h h2
  rw [if_neg h2] at h ⊢
  by_cases h3:(mSub a.social b.social).2≠0
  · rw [if_pos h3] at h; exact absurd h h3
  rw [if_neg h3] at h ⊢
  rw [(mSub_ok (Decidable.not_not.1 h1)).1,(mSub_ok (Decidable.not_not.1 h2)).1,(mSub_ok (Decidable.not_not.1 h3)).1]
theorem hStep_ok {t:Table} {s:HState} {cash due:Int} {back:Bool} (h:(hStep t s cash due back).2.2=0):∃ held,hStep t s cash due back=(held,⟨s.withheld + held,due - s.withheld - held⟩,0)∧(-100000000000≤s.withheld + held∧s.withheld + held≤100000000000)∧(-100000000000≤due - s.withheld - held∧due - s.withheld - held≤100000000000)∧(-100000000000≤due∧due≤100000000000)∧(-100000000000≤held∧held≤100000000000):=by
  unfold hStep at h ⊢
  simp only [bnd] at h ⊢
  cases hr:mRight [s.withheld,s.shortfall,cash,due] with
  | false=>rw [hr] at h; cases h
  | true=>
    have hd:=mRight4 hr
    rw [hr] at h
    simp only [cond_true] at h ⊢
    by_cases h1:(hLimit t cash).2≠0
    · rw [if_pos h1] at h; exact absurd h h1
    rw [if_neg h1] at h ⊢
    by_cases h2:(mSub due s.withheld).2≠0
    · rw [if_pos h2] at h; exact absurd h h2
    rw [if_neg h2] at h ⊢
    have e2:=mSub_ok (Decidable.not_not.1 h2)
    rw [e2.1] at h ⊢
    simp only at h ⊢
    generalize hPart (due - s.withheld) (hLimit t cash).1 back=held at h ⊢
    by_cases h3:(mAdd s.withheld held).2≠0
    · rw [if_pos h3] at h; exact absurd h h3
    rw [if_neg h3] at h ⊢
    have e3:=mAdd_ok (Decidable.not_not.1 h3)
    rw [e3.1] at h ⊢
    simp only at h ⊢
    by_cases h4:(mSub (due - s.withheld) held).2≠0
    · rw [if_pos h4] at h; exact absurd h h4
    rw [if_neg h4] at h ⊢
    have e4:=mSub_ok (Decidable.not_not.1 h4)
    rw [e4.1]
    exact ⟨held,rfl,e3.2.2.2,e4.2.2.2,hd.2.2.2,e3.2.2.1⟩
theorem sMake_ok {k:Int} {b:Bases} {tax short:Int} {rw':List Share} {tk:List Taken} (h:(sMake k b tax short rw' tk).2=0):∃ net pay,sMake k b tax short rw' tk=(⟨k,b,tax,short,rw',net,tk,pay⟩,0):=by
  unfold sMake at h ⊢
  simp only [bnd,sMake_m1,clShareR_eq,clTaken_eq] at h ⊢
  by_cases h1:(sNet b.cash tax rw').2≠0
  · rw [if_pos h1] at h; exact absurd h h1
  rw [if_neg h1] at h ⊢
  by_cases h2:(aSum tk).2≠0
  · rw [if_pos h2] at h; exact absurd h h2
  rw [if_neg h2] at h ⊢
  by_cases h3:(mSub (sNet b.cash tax rw').1 (aSum tk).1).2≠0
  · rw [if_pos h3] at h; exact absurd h h3
  rw [if_neg h3] at h ⊢
  split at h
  · rename_i h4; exact absurd h h4
  · rename_i h4
    rw [if_neg h4]
    exact ⟨_,_,rfl⟩
theorem rSlip_ok {t:Table} {was:Totals} {c:Clean} {k:Int} {back:Bool} (h:(rSlip t was c k back).2=0):∃ held delta net pay,rSlip t was c k back=(⟨k,⟨c.sum.cash - was.bases.cash,c.sum.taxable - was.bases.taxable,c.sum.social - was.bases.social⟩,held,c.tax - was.tax - held,delta,net,[],pay⟩,0)∧shDelta c.shares was.shares=(delta,0)∧(-100000000000≤was.tax + held∧was.tax + held≤100000000000)∧(-100000000000≤c.tax - was.tax - held∧c.tax - was.tax - held≤100000000000)∧(-100000000000≤c.tax∧c.tax≤100000000000):=by
  unfold rSlip at h ⊢
  simp only [bnd] at h ⊢
  by_cases h1:(baseSub c.sum was.bases).2≠0
  · rw [if_pos h1] at h; exact absurd h h1
  rw [if_neg h1] at h ⊢
  have e1:=baseSub_ok (Decidable.not_not.1 h1)
  rw [e1] at h ⊢
  simp only at h ⊢
  by_cases h2:(hStep t (⟨was.tax,was.shortfall⟩:HState) (c.sum.cash - was.bases.cash) c.tax back).2.2≠0
  · rw [if_pos h2] at h; exact absurd h h2
  rw [if_neg h2] at h ⊢
  obtain ⟨held,e2,b1,b2,b3,b4⟩:=hStep_ok (Decidable.not_not.1 h2)
  rw [e2] at h ⊢
  simp only at h ⊢ b1 b2 b3 b4
  by_cases h3:(shDelta c.shares was.shares).2≠0
  · rw [if_pos h3] at h; exact absurd h h3
  rw [if_neg h3] at h ⊢
  obtain ⟨net,pay,e4⟩:=sMake_ok h
  refine ⟨held,_,net,pay,by rw [e4],?_,b1,b2,b3⟩
  rw [← Decidable.not_not.1 h3]
theorem yAdd_ok {t:Totals} {s:Slip} (h:(yAdd t s).2=0):∃ net tk pay,yAdd t s=(⟨⟨t.bases.cash + s.bases.cash,t.bases.taxable + s.bases.taxable,t.bases.social + s.bases.social⟩,t.tax + s.tax,s.shortfall,(shPost t.shares s.shares).1,net,tk,pay⟩,0)∧(shPost t.shares s.shares).2=0:=by
  unfold yAdd at h ⊢
  simp only [bnd] at h ⊢
  by_cases h1:(baseAdd t.bases s.bases).2≠0
  · rw [if_pos h1] at h; exact absurd h h1
  rw [if_neg h1] at h ⊢
  rw [baseAdd_ok (Decidable.not_not.1 h1)] at h ⊢
  simp only at h ⊢
  by_cases h2:(aSum s.taken).2≠0
  · rw [if_pos h2] at h; exact absurd h h2
  rw [if_neg h2] at h ⊢
  by_cases h3:(mAdd t.tax s.tax).2≠0
  · rw [if_pos h3] at h; exact absurd h h3
  rw [if_neg h3] at h ⊢
  rw [(mAdd_ok (Decidable.not_not.1 h3)).1] at h ⊢
  simp only at h ⊢
  by_cases h4:(mAdd t.net s.net).2≠0
  · rw [if_pos h4] at h; exact absurd h h4
  rw [if_neg h4] at h ⊢
  by_cases h5:(mAdd t.taken (aSum s.taken).1).2≠0
  · rw [if_pos h5] at h; exact absurd h h5
  rw [if_neg h5] at h ⊢
  by_cases h6:(mAdd t.pay s.pay).2≠0
  · rw [if_pos h6] at h; exact absurd h h6
  rw [if_neg h6] at h ⊢
  by_cases h7:(shPost t.shares s.shares).2≠0
  · rw [if_pos h7] at h; exact absurd h h7
  rw [if_neg h7]
  exact ⟨_,_,_,rfl,Decidable.not_not.1 h7⟩
end Go.Proofs.YtclblpmjamcknaaGreat
