import Derived.Test.YtclblpmjamcknaaGreatP3
set_option linter.unusedVariables false
set_option linter.unusedSimpArgs false
namespace Go.Proofs.YtclblpmjamcknaaGreat
open Go.Sx
def fixAt (xs:List Input) (f:Fix):List Input:=opt (xs)[((f.period - 1)).toNat]? fun ex=>xs.set (((f.period - 1)).toNat) ((⟨ex.code,f.elements⟩:Input))
theorem dAs_m1_eq {p:Int} {xs:List Input} {f:Fix}:dAs_m1 p xs f=if f.at_ < p then (if f.period≤p then fixAt xs f else xs) else xs:=by
  unfold dAs_m1 fixAt; simp only [bnd,clElem_eq]
theorem dAs_l1_fold (p:Int):∀ (l:List Fix) (k:Nat) (xs:List Input),dAs_l1 p l k xs=l.foldl (dAs_m1 p) xs
  | [],_,_=>rfl
  | f :: l,k,xs=>by unfold dAs_l1; simp only [bnd]; exact dAs_l1_fold p l _ _
theorem dAs_ok {dk:DeskS} {k:Nat} (h:k≤dk.first.length):dAs dk k=(dk.fixes.foldl (dAs_m1 k) (dk.first.take k),0):=by
  unfold dAs
  rw [if_neg (by omega),if_neg (by omega)]
  simp only [bnd,reCopied_eq,dAs_l1_fold,Int.toNat_natCast]
theorem fixAt_in {xs:List Input} {f:Fix} {e:Input} (h:xs[(f.period - 1).toNat]?=some e):fixAt xs f=xs.set (f.period - 1).toNat ⟨e.code,f.elements⟩:=by
  unfold fixAt; rw [h]; rfl
theorem fixAt_len {xs:List Input} {f:Fix} (h1:1≤f.period) (h2:f.period≤xs.length):(fixAt xs f).length=xs.length:=by
  rw [fixAt_in (List.getElem?_eq_getElem (by omega))]; simp
theorem fixAt_snoc {xs:List Input} {f:Fix} {e:Input} (h1:1≤f.period) (h2:f.period≤xs.length):fixAt (xs ++ [e]) f=fixAt xs f ++ [e]:=by
  have h3:(f.period - 1).toNat < xs.length:=by omega
  rw [fixAt_in (xs:=xs) (List.getElem?_eq_getElem h3),fixAt_in (xs:=xs ++ [e]) (by rw [List.getElem?_append_left h3]; exact List.getElem?_eq_getElem h3)]
  rw [List.set_append_left _ _ h3]
theorem fold_snoc:∀ (l:List Fix) (xs:List Input) (e:Input),(∀ f ∈ l,1≤f.period∧f.period≤(xs.length:Int))→l.foldl fixAt (xs ++ [e])=l.foldl fixAt xs ++ [e]
  | [],_,_,_=>rfl
  | f :: l,xs,e,h=>by
    have h1:=h f (.head _)
    have h2:=fixAt_len h1.1 h1.2
    rw [List.foldl_cons,List.foldl_cons,fixAt_snoc h1.1 h1.2]
    exact fold_snoc l _ e (by intro g hg; rw [h2]; exact h g (.tail _ hg))
theorem fold_all {p:Int}:∀ (l:List Fix) (xs:List Input),(∀ f ∈ l,f.at_ < p∧f.period≤p)→l.foldl (dAs_m1 p) xs=l.foldl fixAt xs
  | [],_,_=>rfl
  | f :: l,xs,h=>by
    have h1:=h f (.head _)
    rw [List.foldl_cons,List.foldl_cons,dAs_m1_eq,if_pos h1.1,if_pos h1.2]
    exact fold_all l _ fun g hg=>h g (.tail _ hg)
theorem eReplace_ok {p:EmpS} {k:Int} {l:List Elem} (h:(eReplace p k l).2=0):1≤k∧k≤p.inputs.length∧∃ ex,p.inputs[(k - 1).toNat]?=some ex∧eReplace p k l=(⟨p.table,p.year,p.code,p.prot,p.next,p.inputs.set (k - 1).toNat ⟨ex.code,l⟩,p.posted,p.orders⟩,0)∧(rReckon p.table p.year 0 (p.inputs.set (k - 1).toNat ⟨ex.code,l⟩)).2=0:=by
  unfold eReplace at h ⊢
  by_cases h1:k < 1
  · rw [if_pos h1] at h; cases h
  rw [if_neg h1] at h ⊢
  by_cases h2:(p.inputs.length:Int) < k
  · rw [if_pos h2] at h; cases h
  rw [if_neg h2] at h ⊢
  simp only [bnd,clInput_eq,clElem_eq] at h ⊢
  by_cases h3:eOpen p≠0
  · rw [if_pos h3] at h; exact absurd h h3
  rw [if_neg h3] at h ⊢
  by_cases h4:eCheckAll p.table l≠0
  · rw [if_pos h4] at h; exact absurd h h4
  rw [if_neg h4] at h ⊢
  have hk:(k - 1).toNat < p.inputs.length:=by omega
  rw [List.getElem?_eq_getElem hk] at h ⊢
  have em:eReplace_m1 p k p.inputs l p.inputs[(k - 1).toNat]=(rReckon p.table p.year 0 (p.inputs.set (k - 1).toNat ⟨p.inputs[(k - 1).toNat].code,l⟩)).2:=rfl
  simp only [opt] at h ⊢
  rw [em] at h ⊢
  split at h
  · rename_i h5; exact absurd h h5
  rename_i h5
  refine ⟨by omega,by omega,_,rfl,?_,Decidable.not_not.1 h5⟩
  rw [if_neg h5]
theorem eReplace_err {p:EmpS} {k:Int} {l:List Elem} (h:(eReplace p k l).2≠0):(eReplace p k l).1=p:=by
  unfold eReplace at h ⊢
  by_cases h1:k < 1
  · rw [if_pos h1]
  rw [if_neg h1] at h ⊢
  by_cases h2:(p.inputs.length:Int) < k
  · rw [if_pos h2]
  rw [if_neg h2] at h ⊢
  simp only [bnd,clInput_eq,clElem_eq] at h ⊢
  by_cases h3:eOpen p≠0
  · rw [if_pos h3]
  rw [if_neg h3] at h ⊢
  by_cases h4:eCheckAll p.table l≠0
  · rw [if_pos h4]
  rw [if_neg h4] at h ⊢
  have hk:(k - 1).toNat < p.inputs.length:=by omega
  rw [List.getElem?_eq_getElem hk] at h ⊢
  have em:eReplace_m1 p k p.inputs l p.inputs[(k - 1).toNat]=(rReckon p.table p.year 0 (p.inputs.set (k - 1).toNat ⟨p.inputs[(k - 1).toNat].code,l⟩)).2:=rfl
  simp only [opt] at h ⊢
  rw [em] at h ⊢
  split at h
  · rename_i h5; rw [if_pos h5]
  · exact absurd rfl h
structure Good (t:Table) (y:PYear) (dk:DeskS):Prop where
  table:dk.emp.table=t
  year:dk.emp.year=y
  lens:dk.emp.inputs.length=dk.emp.posted.slips.length
  first:dk.first.length=dk.emp.inputs.length
  few:dk.first.length≤53
  sum:(sSum dk.emp.posted.contribs []).2=0
  fold:tFold dk.emp.posted.slips (zeroT dk.emp.posted.contribs)=some dk.emp.posted.totals
  fixes:∀ f ∈ dk.fixes,f.at_≤(dk.first.length:Int)∧1≤f.period∧f.period≤(dk.first.length:Int)
  cur:dk.fixes.foldl fixAt dk.first=dk.emp.inputs
  hist:∀ k:Nat,1≤k→k≤dk.first.length→∃ T C,tFold (dk.emp.posted.slips.take k) (zeroT dk.emp.posted.contribs)=some T∧rReckon t y 0 (dk.fixes.foldl (dAs_m1 k) (dk.first.take k))=(C,0)∧T.bases=C.sum∧mAdd T.tax T.shortfall=(C.tax,0)∧T.shares=C.shares
  clean:dk.first≠[]→(rReckon t y 0 dk.emp.inputs).2=0
theorem Good.emp {t:Table} {y:PYear} {dk:DeskS} (G:Good t y dk) {e:EmpS} (h1:e.table=dk.emp.table) (h2:e.year=dk.emp.year) (h3:e.inputs=dk.emp.inputs) (h4:e.posted=dk.emp.posted):Good t y ⟨e,dk.fixes,dk.first⟩:=
  ⟨h1.trans G.table,h2.trans G.year,by show e.inputs.length=e.posted.slips.length; rw [h3,h4]; exact G.lens,by show _=e.inputs.length; rw [h3]; exact G.first,G.few,by show (sSum e.posted.contribs []).2=0; rw [h4]; exact G.sum,by show tFold e.posted.slips (zeroT e.posted.contribs)=some e.posted.totals; rw [h4]; exact G.fold,G.fixes,by show _=e.inputs; rw [h3]; exact G.cur,by
    show ∀ k:Nat,1≤k→k≤dk.first.length→∃ T C,tFold (e.posted.slips.take k) (zeroT e.posted.contribs)=some T∧_
    rw [h4]; exact G.hist,by show _→(rReckon t y 0 e.inputs).2=0; rw [h3]; exact G.clean⟩
theorem Good.run {t:Table} {y:PYear} {dk:DeskS} (G:Good t y dk):Good t y (dRun dk).1:=by
  unfold dRun
  simp only [bnd]
  by_cases h:(eRun dk.emp).2.2≠0
  · rw [if_pos h]
    have e:=eRun_err h
    exact G.emp (by rw [e]) (by rw [e]) (by rw [e]) (by rw [e])
  rw [if_neg h]
  have R:=eRun_ok (Decidable.not_not.1 h)
  generalize (eRun dk.emp).1=p' at R ⊢
  simp only [eInputs_eq]
  rw [R.inputs]
  have e1:((((dk.emp.inputs ++ [(⟨dk.emp.code,dk.emp.next⟩:Input)]).length:Int) - 1)).toNat=dk.emp.inputs.length:=by simp
  rw [e1,List.getElem?_append_right (Nat.le_refl _)]
  simp only [Nat.sub_self,List.getElem?_cons_zero,opt]
  obtain ⟨s,hs1,hs2⟩:=R.slip
  obtain ⟨C,hC,b1,b2,b3⟩:=R.clean
  have hle:=G.first
  have hl2:=G.lens
  have fx:∀ f ∈ dk.fixes,f.at_ < ((dk.first.length + 1:Nat):Int)∧f.period≤((dk.first.length + 1:Nat):Int):=fun f hf=>by have:=G.fixes f hf; omega
  have fold':tFold p'.posted.slips (zeroT p'.posted.contribs)=some p'.posted.totals:=by
    rw [R.contribs,hs1,tFold_snoc,G.fold]
    simp only [Option.bind]
    rw [hs2]; rfl
  have cur':∀ e,dk.fixes.foldl fixAt (dk.first ++ [e])=dk.emp.inputs ++ [e]:=fun e=>by
    rw [fold_snoc _ _ _ (fun f hf=>(G.fixes f hf).2),G.cur]
  refine ⟨R.table.trans G.table,R.year.trans G.year,?_,?_,?_,by simp only [R.contribs]; exact G.sum,fold',?_,?_,?_,?_⟩
  · simp only [R.inputs,hs1,List.length_append,List.length_singleton]; omega
  · simp only [R.inputs,List.length_append,List.length_singleton]; omega
  · simp only [List.length_append,List.length_singleton]; have:=R.count; omega
  · intro f hf
    have:=G.fixes f hf
    simp only [List.length_append,List.length_singleton]
    omega
  · simp only [R.inputs]; exact cur' _
  · intro k hk1 hk2
    simp only [List.length_append,List.length_singleton] at hk2
    by_cases hk:k≤dk.first.length
    · obtain ⟨T,C',h1,h2⟩:=G.hist k hk1 hk
      refine ⟨T,C',?_,?_⟩
      · simp only [R.contribs,hs1]
        rw [List.take_append_of_le_length (by omega)]; exact h1
      · simp only
        rw [List.take_append_of_le_length hk]; exact h2
    · have hk:k=dk.first.length + 1:=by omega
      subst hk
      refine ⟨p'.posted.totals,C,?_,?_,b1,b2,b3⟩
      · rw [List.take_of_length_le (by rw [hs1]; simp; omega)]; exact fold'
      · simp only
        rw [List.take_of_length_le (by simp),fold_all _ _ fx,cur']
        rw [← R.inputs,← G.table,← G.year]; exact hC
  · intro _
    simp only
    rw [← G.table,← G.year,hC]
theorem Good.fix {t:Table} {y:PYear} {dk:DeskS} (G:Good t y dk) {k:Int} {l:List Elem}:Good t y (dFix dk k l).1:=by
  unfold dFix
  split
  · exact G
  simp only [bnd,clElem_eq]
  by_cases h:(eReplace dk.emp k l).2≠0
  · rw [if_pos h]
    have e:=eReplace_err h
    exact G.emp (by rw [e]) (by rw [e]) (by rw [e]) (by rw [e])
  rw [if_neg h]
  obtain ⟨k1,k2,ex,he,e,hr⟩:=eReplace_ok (Decidable.not_not.1 h)
  rw [e]
  have hle:=G.first
  refine ⟨G.table,G.year,by simp only [List.length_set]; exact G.lens,by simp only [List.length_set]; exact G.first,G.few,G.sum,G.fold,?_,?_,?_,?_⟩
  · intro f hf
    rcases List.mem_append.1 hf with hf | hf
    · exact G.fixes f hf
    · cases hf with
      | head=>exact ⟨Int.le_refl _,k1,by show k≤_; rw [hle]; exact k2⟩
      | tail _ hf=>cases hf
  · simp only [List.foldl_append,List.foldl_cons,List.foldl_nil]
    rw [G.cur]
    exact fixAt_in (f:=⟨k,l,_⟩) he
  · intro j hj1 hj2
    obtain ⟨T,C,h1,h2,h3⟩:=G.hist j hj1 hj2
    refine ⟨T,C,h1,?_,h3⟩
    simp only [List.foldl_append,List.foldl_cons,List.foldl_nil]
    rw [dAs_m1_eq,if_neg (by simp only at hj2 ⊢; omega)]
    exact h2
  · intro hne
    simp only
    rw [← G.table,← G.year]; exact hr
theorem ePay_same {p:EmpS} {l:List Elem}:(ePay p l).1.table=p.table∧(ePay p l).1.year=p.year∧(ePay p l).1.inputs=p.inputs∧(ePay p l).1.posted=p.posted:=by
  unfold ePay
  simp only [bnd]
  split
  · exact ⟨rfl,rfl,rfl,rfl⟩
  split <;> exact ⟨rfl,rfl,rfl,rfl⟩
theorem eCode_same {p:EmpS} {c:Code}:(eCode p c).1.table=p.table∧(eCode p c).1.year=p.year∧(eCode p c).1.inputs=p.inputs∧(eCode p c).1.posted=p.posted:=by
  unfold eCode
  simp only [bnd]
  split
  · exact ⟨rfl,rfl,rfl,rfl⟩
  split <;> exact ⟨rfl,rfl,rfl,rfl⟩
theorem desk24_l1_good {t:Table} {y:PYear}:∀ (l:List Opn) (k:Nat) (dk:DeskS),Good t y dk→desk24_l1 l k dk=.ret none∨∃ dk',desk24_l1 l k dk=.next dk'∧Good t y dk'
  | [],k,dk,G=>.inr ⟨dk,rfl,G⟩
  | o :: l,k,dk,G=>by
    unfold desk24_l1
    simp only [bnd]
    split
    · exact .inl rfl
    split
    · have:=ePay_same (p:=dk.emp) (l:=o.elements)
      exact desk24_l1_good l _ _ (G.emp this.1 this.2.1 this.2.2.1 this.2.2.2)
    split
    · have:=eCode_same (p:=dk.emp) (c:=o.code)
      exact desk24_l1_good l _ _ (G.emp this.1 this.2.1 this.2.2.1 this.2.2.2)
    split
    · exact desk24_l1_good l _ _ G.run
    split
    · exact desk24_l1_good l _ _ G.fix
    · exact desk24_l1_good l _ _ G
theorem rNew_good {t:Table} {y:PYear} {c:Code} {e:EmpS} (h:(rNew t y c).1=some e):Good (tClone t) y (dNew e).1:=by
  unfold rNew at h
  simp only [bnd] at h
  split at h
  · cases h
  split at h
  · cases h
  cases hy:(yNew (t.contribs.length:Int)).1 with
  | none=>rw [hy] at h; cases h
  | some z=>
    rw [hy] at h
    simp only [ocase] at h
    cases h
    unfold yNew at hy
    simp only [bnd] at hy
    split at hy
    · cases hy
    rename_i hs
    cases hy
    unfold dNew
    simp only [bnd,eInputs_eq]
    refine ⟨rfl,rfl,rfl,rfl,(by simp),Decidable.not_not.1 hs,rfl,(by intro f hf; cases hf),rfl,(by intro k h1 h2; simp at h2; omega),fun h=>absurd rfl h⟩
theorem desk24_good {t:Table} {c:Code} {ops:List Opn} {dk:DeskS} (h:desk24 t c ops=some dk):Good (tClone t) months24 dk:=by
  unfold desk24 at h
  split at h
  · cases h
  split at h
  · cases h
  split at h
  · cases h
  split at h
  · cases h
  simp only [bnd] at h
  cases hn:(rNew t months24 c).1 with
  | none=>
    rw [hn] at h
    simp only [ocase] at h
    cases hd:(dNewNil).1 with
    | none=>rw [hd] at h; cases h
    | some x=>rw [hd] at h; cases h
  | some e=>
    rw [hn] at h
    simp only [ocase] at h
    have G:=rNew_good hn
    rcases desk24_l1_good ops 0 _ G with h1 | ⟨dk',h1,h2⟩
    · rw [h1] at h; cases h
    · rw [h1] at h; cases h; exact h2
end Go.Proofs.YtclblpmjamcknaaGreat
