import Derived.Test.YtclblpmjamcknaaGreatP4
import Derived.Test.YtclblpmjamcknaaGreatL4
import Derived.KernelRfl
set_option linter.unusedVariables false
set_option linter.unusedSimpArgs false
namespace Go.Proofs.YtclblpmjamcknaaGreat
open Go.Sx
theorem clBand_eq {s:List Band}:clBand s=s:=by unfold clBand; simp [bnd]
theorem tClone_l1_eq:∀ (l:List (List Band)) (k:Nat) (xs:List (List Band)),tClone_l1 l k xs=xs ++ l
  | [],_,_=>by simp [tClone_l1]
  | x :: l,k,xs=>by
    unfold tClone_l1
    simp only [bnd,clBand_eq]
    rw [tClone_l1_eq l]; simp
theorem tClone_l2_eq:∀ (l:List Contrib) (k:Nat) (xs:List Contrib),xs.length=k + l.length→tClone_l2 l k xs=xs
  | [],_,_,_=>by simp [tClone_l2]
  | x :: l,k,xs,h=>by
    have hk:k < xs.length:=by simp at h; omega
    unfold tClone_l2
    rw [List.getElem?_eq_getElem hk]
    simp only [bnd,clBand_eq,opt]
    have e:(⟨xs[k].name,xs[k].base,xs[k].bands,xs[k].pceil,xs[k].yceil,xs[k].round⟩:Contrib)=xs[k]:=rfl
    rw [e,List.set_getElem_self]
    exact tClone_l2_eq l _ _ (by simp at h; omega)
theorem tClone_eq {t:Table}:tClone t=t:=by
  unfold tClone
  simp only [bnd]
  have e1:clContrib t.contribs=t.contribs:=by unfold clContrib; simp [bnd]
  have e2:clKind t.kinds=t.kinds:=by unfold clKind; simp [bnd]
  rw [e1,e2,tClone_l1_eq,tClone_l2_eq _ _ _ (by omega)]
  simp
theorem eqShare_l1_self (b:List Share):∀ (l:List Share) (k:Nat),b.drop k=l→eqShare_l1 b l k=.next ()
  | [],_,_=>rfl
  | x :: l,k,h=>by
    have hk:k < b.length:=by
      rcases Nat.lt_or_ge k b.length with h1 | h1
      · exact h1
      · rw [List.drop_eq_nil_of_le h1] at h; cases h
    have e:b.drop k=b[k] :: b.drop (k + 1):=List.drop_eq_getElem_cons hk
    rw [h] at e
    obtain ⟨e1,e2⟩:=List.cons.inj e
    unfold eqShare_l1
    rw [List.getElem?_eq_getElem hk]
    simp only [opt]
    rw [if_neg (by rw [e1]; simp)]
    exact eqShare_l1_self b l _ e2.symm
theorem eqShare_self (b:List Share):eqShare b b=true:=by
  unfold eqShare
  rw [if_neg (by simp),eqShare_l1_self b b 0 rfl]; rfl
theorem dueSame_self (a:Due):dueSame a a=true:=by
  unfold dueSame
  rw [if_pos rfl,if_pos rfl]
  simp only [bnd,eqShare_self]
theorem Good.upto {t:Table} {y:PYear} {dk:DeskS} (G:Good t y dk) {k:Nat} {T:Totals} (hk:k≤dk.first.length) (h:tFold (dk.emp.posted.slips.take k) (zeroT dk.emp.posted.contribs)=some T):yUpto (ePosted dk.emp) k=(T,0):=by
  have e:ePosted dk.emp=dk.emp.posted:=by unfold ePosted; simp only [bnd,yClone_eq]
  rw [e]
  exact yUpto_ok (by have:=G.lens; have:=G.first; omega) G.sum h
theorem Good.check {t:Table} {y:PYear} {dk:DeskS} (G:Good t y dk) {k:Nat} (h1:1≤k) (h2:k≤dk.first.length):∃ D,clUpto dk k=(D,0)∧clFrom dk k=(D,0):=by
  obtain ⟨T,C,e1,e2,e3,e4,e5⟩:=G.hist k h1 h2
  refine ⟨⟨C.sum,C.tax,C.shares⟩,?_,?_⟩
  · unfold clUpto
    simp only [bnd]
    rw [G.upto h2 e1,if_neg (fun h=>h rfl)]
    unfold clOf
    simp only [bnd,clShareR_eq]
    rw [e4,if_neg (fun h=>h rfl),e3,e5]
  · unfold clFrom
    simp only [bnd]
    rw [dAs_ok h2,if_neg (fun h=>h rfl)]
    have em:clFrom_m1 dk (dk.fixes.foldl (dAs_m1 k) (dk.first.take k),0)=(0,C.periods,C.sum.cash,C.sum.taxable,C.sum.social,C.tax,C.shares):=by
      unfold clFrom_m1 eTable eYear
      simp only [bnd,tClone_eq]
      rw [G.table,G.year,e2]
    rw [em]
    simp only
    rw [if_neg (fun h=>h rfl)]
theorem Good.count {t:Table} {y:PYear} {dk:DeskS} (G:Good t y dk):yCount (ePosted dk.emp)=dk.first.length:=by
  unfold ePosted yCount
  simp only [bnd,yClone_eq]
  have:=G.lens; have:=G.first; omega
theorem clCheck_l1_good {t:Table} {y:PYear} {dk:DeskS} (G:Good t y dk):∀ (m k:Nat),1≤k→dk.first.length + 1 < k + m→0 < m→clCheck_l1 dk m k=.next ()
  | 0,k,h1,h2,h3=>by omega
  | m + 1,k,h1,h2,_=>by
    unfold clCheck_l1
    simp only [bnd]
    rw [G.count]
    by_cases h:(k:Int)≤dk.first.length
    · rw [if_pos h]
      obtain ⟨D,e1,e2⟩:=G.check h1 (by omega)
      rw [e1,e2,if_neg (fun h=>h rfl),if_neg (fun h=>h rfl),dueSame_self]
      simp only [cond_true]
      exact clCheck_l1_good G m _ (by omega) (by omega) (by omega)
    · rw [if_neg h]
theorem clCheck_good {t:Table} {y:PYear} {dk:DeskS} (G:Good t y dk):clCheck dk=(0,0):=by
  unfold clCheck
  rw [clCheck_l1_good G 54 1 (by omega) (by have:=G.few; omega) (by omega)]
  rfl
theorem compares24_true:compares24=true:=by kernel_rfl
theorem CleanChecks_true {t:Table} {c:Code} {ops:List Opn}:CleanChecks t c ops=true:=by
  unfold CleanChecks
  simp only [bnd,compares24_true,cond_true]
  cases hd:desk24 t c ops with
  | none=>rfl
  | some dk=>
    have G:=desk24_good hd
    have e:ePosted dk.emp=dk.emp.posted:=by unfold ePosted; simp only [bnd,yClone_eq]
    have f:=G.few
    simp only [ocase]
    rw [clCheck_good G,if_neg (by decide),if_neg (by decide),G.count,wI_id (by omega)]
    have u1:(clUpto dk ((dk.first.length:Int) + 1)).2=3:=by
      unfold clUpto
      simp only [bnd]
      have e2:yUpto (ePosted dk.emp) ((dk.first.length:Int) + 1)=(⟨⟨0,0,0⟩,0,0,[],0,0,0⟩,3):=by
        rw [e]; unfold yUpto
        have:=G.lens; have:=G.first
        rw [if_neg (by omega),if_pos (by omega)]
      rw [e2,if_pos (by decide)]
    have u2:(clFrom dk ((dk.first.length:Int) + 1)).2=230:=by
      have e2:dAs dk ((dk.first.length:Int) + 1)=([],230):=by
        unfold dAs
        rw [if_neg (by omega),if_pos (by omega)]
      unfold clFrom
      simp only [bnd]
      rw [e2,if_pos (by decide)]
    have u3:(clLate dk (-1)).2=3:=by
      have e2:yUpto (ePosted dk.emp) (-1)=(⟨⟨0,0,0⟩,0,0,[],0,0,0⟩,3):=by
        rw [e]; unfold yUpto
        rw [if_pos (by omega)]
      unfold clLate
      simp only [bnd]
      rw [e2,if_pos (by decide)]
    rw [u1,u2,u3]
    rfl
end Go.Proofs.YtclblpmjamcknaaGreat
