import Derived.Test.YtclblpmjamcknaaGreatA8
set_option linter.unusedVariables false
set_option linter.unusedSimpArgs false
set_option maxRecDepth 8000
set_option maxHeartbeats 1000000
namespace Go.Proofs.YtclblpmjamcknaaGreat
open Go.Sx
theorem ePay_inputs {p:EmpS} {l:List Elem}:(ePay p l).1.inputs=p.inputs:=by
 unfold ePay
 simp only [bnd]
 split
 ·rfl
 split <;> rfl
theorem eCode_inputs {p:EmpS} {c:Code}:(eCode p c).1.inputs=p.inputs:=by
 unfold eCode
 simp only [bnd]
 split
 ·rfl
 split <;> rfl
def dNew (p:EmpS):DeskS × Int:=
 (bnd (eInputs p) fun r2=>
 ((⟨p,([]:List Fix),r2⟩:DeskS),0))
theorem dNew_c {p:EmpS} {p_r:Nat} {p_posted:Nat} {p_orders:Nat} {d:Dat} {w:World} (hd:∀ b,d b→b < w.heap.size) (h_p:(empR p_r p_posted p_orders p).ok d w) (hn_p:∀ q0 ∈ (empR p_r p_posted p_orders p).fp,¬ d q0):Ret Tryz.prog 97 [.pointer (some ⟨p_r,0,none⟩)] w (empR p_r p_posted p_orders p).fp d (fun u d' w'=>∃ (b0:Nat) (g0_emp:Nat) (g0_emp_posted:Nat) (g0_emp_orders:Nat) (g0_fixesA:Option Addr) (g0_fixesc:Nat) (g0_firstA:Option Addr) (g0_firstc:Nat),u=.tuple #[.pointer (some ⟨b0,0,none⟩),.int .i64 ((dNew p).2)]∧Turn (empR p_r p_posted p_orders p) (deskR b0 g0_emp g0_emp_posted g0_emp_orders g0_fixesA g0_fixesc g0_firstA g0_firstc ((dNew p).1)) d' w w'):=by
 refine ret_enter (n:=11) Tryz.func97 Z Z (ble Z) ?_
 have hI0:=Inv.startM hd h_p hn_p
 refine csr ((GA Y (GA Y (gnx ((c_seq (csr ((GM Y (g_y (y_ptrEqNil Tryz.underlying30 Z Z) Z Z (gnx ((c_condF Z ?_)))))))))))))
 refine c_skip (x_next (csr ((GM Y (GM Y ?_)))))
 have hq1:=eInputs_c (p:=p) (p_r:=p_r) (p_posted:=p_posted) (p_orders:=p_orders) hI0.lt (hI0.ok _ m0)
 obtain ⟨r2,hr3⟩:∃ r,eInputs p=r:=⟨_,rfl⟩
 rw [hr3] at hq1
 have h7r2:r2=p.inputs:=by rw [← hr3,eInputs_eq]
 have h8r2:r2.length=p.inputs.length:=by rw [h7r2]
 refine g_e (ev_row hI0 pf_39 Z hq1) Z Z ?_
 rintro _ w5 ⟨d4,A8,c9,rfl,hI6,hle7⟩
 have a2:=row_len (hI6.ok _ m0); unfold big at a2
 refine g_y (y_build ze_81 pl_81 (.cons Z Z Z Z (.here _ _ (.nil _)) (ble Z) (.cons Z Z Z Z (.next _ (.next _ (.here _ _ (.nil _)))) (ble Z) (.nil _)))) Z Z (g_e (ev_box hI6 Z) Z Z ?_)
 rintro _ a3 ⟨a4,rfl,a5,c2⟩
 refine GA Y (GA Y (gnx ((c_ret ?_))))
 have a1:=nil_row fixTy 156 a5
 obtain ⟨c3,c4,c5,c6⟩:=empR_inv (a1.ok _ m3)
 have a6:=a1.front (.tl _ (.tl _ (.hd _)))
 have a7:=a6.front (.tl _ (.hd _))
 have a8:=a7.closeStar
 have a9:=a8.front (.tl _ (.tl _ (.hd _)))
 have b1:=a9.closeStar
 have b2:=b1.front (.tl _ (.hd _))
 have b3:((⟨p,([]:List Fix),r2⟩:DeskS)).first.length=((⟨p,([]:List Fix),r2⟩:DeskS)).emp.inputs.length:=by (try rw [← hr3,eInputs_eq]); all_goals (try dsimp only); all_goals first | assumption | omega | (simp only [LA,LC,LN,LS]; omega) | (first | (intro f hf; cases hf) | (intro f hf; rcases LP.1 hf with hf | hf; exact ‹∀ f ∈ _,List.length (Fix.elements f)≤32› f hf; (rw [LM.1 hf]; dsimp only; omega)) | (intro i hi; rcases LP.1 hi with hi | hi; exact ‹∀ i ∈ _,List.length (Input.elements i)≤32› i hi; (rw [LM.1 hi]; exact ‹∀ i ∈ EmpS.inputs _,List.length (Input.elements i)≤32› _ (by assumption))) | (intro f hf; (have h9:=‹∀ f ∈ _,1≤Fix.period f∧Fix.period f≤_› f hf; (try simp only [LA,LC,LN]); omega)) | (intro f hf; rcases LP.1 hf with hf | hf; (have h9:=‹∀ f ∈ _,1≤Fix.period f∧Fix.period f≤_› f hf; (try simp only [LA,LC,LN]); omega); (rw [LM.1 hf]; dsimp only; omega)))
 have b4:((⟨p,([]:List Fix),r2⟩:DeskS)).first.length≤53:=by (try rw [← hr3,eInputs_eq]); all_goals (try dsimp only); all_goals first | assumption | omega | (simp only [LA,LC,LN,LS]; omega) | (first | (intro f hf; cases hf) | (intro f hf; rcases LP.1 hf with hf | hf; exact ‹∀ f ∈ _,List.length (Fix.elements f)≤32› f hf; (rw [LM.1 hf]; dsimp only; omega)) | (intro i hi; rcases LP.1 hi with hi | hi; exact ‹∀ i ∈ _,List.length (Input.elements i)≤32› i hi; (rw [LM.1 hi]; exact ‹∀ i ∈ EmpS.inputs _,List.length (Input.elements i)≤32› _ (by assumption))) | (intro f hf; (have h9:=‹∀ f ∈ _,1≤Fix.period f∧Fix.period f≤_› f hf; (try simp only [LA,LC,LN]); omega)) | (intro f hf; rcases LP.1 hf with hf | hf; (have h9:=‹∀ f ∈ _,1≤Fix.period f∧Fix.period f≤_› f hf; (try simp only [LA,LC,LN]); omega); (rw [LM.1 hf]; dsimp only; omega)))
 have b5:((⟨p,([]:List Fix),r2⟩:DeskS)).fixes.length≤256:=by (try rw [← hr3,eInputs_eq]); all_goals (try dsimp only); all_goals first | assumption | omega | (simp only [LA,LC,LN,LS]; omega) | (first | (intro f hf; cases hf) | (intro f hf; rcases LP.1 hf with hf | hf; exact ‹∀ f ∈ _,List.length (Fix.elements f)≤32› f hf; (rw [LM.1 hf]; dsimp only; omega)) | (intro i hi; rcases LP.1 hi with hi | hi; exact ‹∀ i ∈ _,List.length (Input.elements i)≤32› i hi; (rw [LM.1 hi]; exact ‹∀ i ∈ EmpS.inputs _,List.length (Input.elements i)≤32› _ (by assumption))) | (intro f hf; (have h9:=‹∀ f ∈ _,1≤Fix.period f∧Fix.period f≤_› f hf; (try simp only [LA,LC,LN]); omega)) | (intro f hf; rcases LP.1 hf with hf | hf; (have h9:=‹∀ f ∈ _,1≤Fix.period f∧Fix.period f≤_› f hf; (try simp only [LA,LC,LN]); omega); (rw [LM.1 hf]; dsimp only; omega)))
 have b6:∀ f ∈ ((⟨p,([]:List Fix),r2⟩:DeskS)).fixes,1≤f.period∧f.period≤(((⟨p,([]:List Fix),r2⟩:DeskS)).first.length:Int):=by (try rw [← hr3,eInputs_eq]); all_goals (try dsimp only); all_goals first | assumption | omega | (simp only [LA,LC,LN,LS]; omega) | (first | (intro f hf; cases hf) | (intro f hf; rcases LP.1 hf with hf | hf; exact ‹∀ f ∈ _,List.length (Fix.elements f)≤32› f hf; (rw [LM.1 hf]; dsimp only; omega)) | (intro i hi; rcases LP.1 hi with hi | hi; exact ‹∀ i ∈ _,List.length (Input.elements i)≤32› i hi; (rw [LM.1 hi]; exact ‹∀ i ∈ EmpS.inputs _,List.length (Input.elements i)≤32› _ (by assumption))) | (intro f hf; (have h9:=‹∀ f ∈ _,1≤Fix.period f∧Fix.period f≤_› f hf; (try simp only [LA,LC,LN]); omega)) | (intro f hf; rcases LP.1 hf with hf | hf; (have h9:=‹∀ f ∈ _,1≤Fix.period f∧Fix.period f≤_› f hf; (try simp only [LA,LC,LN]); omega); (rw [LM.1 hf]; dsimp only; omega)))
 have b7:∀ f ∈ ((⟨p,([]:List Fix),r2⟩:DeskS)).fixes,f.elements.length≤32:=by (try rw [← hr3,eInputs_eq]); all_goals (try dsimp only); all_goals first | assumption | omega | (simp only [LA,LC,LN,LS]; omega) | (first | (intro f hf; cases hf) | (intro f hf; rcases LP.1 hf with hf | hf; exact ‹∀ f ∈ _,List.length (Fix.elements f)≤32› f hf; (rw [LM.1 hf]; dsimp only; omega)) | (intro i hi; rcases LP.1 hi with hi | hi; exact ‹∀ i ∈ _,List.length (Input.elements i)≤32› i hi; (rw [LM.1 hi]; exact ‹∀ i ∈ EmpS.inputs _,List.length (Input.elements i)≤32› _ (by assumption))) | (intro f hf; (have h9:=‹∀ f ∈ _,1≤Fix.period f∧Fix.period f≤_› f hf; (try simp only [LA,LC,LN]); omega)) | (intro f hf; rcases LP.1 hf with hf | hf; (have h9:=‹∀ f ∈ _,1≤Fix.period f∧Fix.period f≤_› f hf; (try simp only [LA,LC,LN]); omega); (rw [LM.1 hf]; dsimp only; omega)))
 have b8:∀ i ∈ ((⟨p,([]:List Fix),r2⟩:DeskS)).first,i.elements.length≤32:=by (try rw [← hr3,eInputs_eq]); all_goals (try dsimp only); all_goals first | assumption | omega | (simp only [LA,LC,LN,LS]; omega) | (first | (intro f hf; cases hf) | (intro f hf; rcases LP.1 hf with hf | hf; exact ‹∀ f ∈ _,List.length (Fix.elements f)≤32› f hf; (rw [LM.1 hf]; dsimp only; omega)) | (intro i hi; rcases LP.1 hi with hi | hi; exact ‹∀ i ∈ _,List.length (Input.elements i)≤32› i hi; (rw [LM.1 hi]; exact ‹∀ i ∈ EmpS.inputs _,List.length (Input.elements i)≤32› _ (by assumption))) | (intro f hf; (have h9:=‹∀ f ∈ _,1≤Fix.period f∧Fix.period f≤_› f hf; (try simp only [LA,LC,LN]); omega)) | (intro f hf; rcases LP.1 hf with hf | hf; (have h9:=‹∀ f ∈ _,1≤Fix.period f∧Fix.period f≤_› f hf; (try simp only [LA,LC,LN]); omega); (rw [LM.1 hf]; dsimp only; omega)))
 have b9:=b2.closeObj (ty:=(deskTy p_r none 0 A8 c9)) (x:=(⟨p,([]:List Fix),r2⟩:DeskS)) ⟨rfl,b3,b4,b5,b6,b7,b8⟩
 have c0:=b9.closeStar
 have a0:Inv (empR p_r p_posted p_orders p).fp d w d4 (deskR a4 p_r p_posted p_orders none 0 A8 c9 ((⟨p,([]:List Fix),r2⟩:DeskS)) :: _) a3:=c0
 have c1:dNew p=((⟨p,([]:List Fix),r2⟩:DeskS),0):=ET (BE hr3) (rfl)
 refine x_ret ⟨_,_,rfl,rfl,⟨_,_,rfl,rfl,rfl⟩⟩ (⟨_,_,rfl,a0.fr,a0.grow,by rw [c1]; exact ⟨_,_,_,_,_,_,_,_,rfl,a0.turned m0⟩⟩)
def dNewNil:(Option DeskS) × Int:=
 (none,3)
theorem dNewNil_c  {d:Dat} {w:World} (hd:∀ b,d b→b < w.heap.size):Ret Tryz.prog 97 [.pointer none] w [] d (fun u d' w'=>(dNewNil.1=none→u=.tuple #[.pointer none,.int .i64 dNewNil.2])∧(∀ x,dNewNil.1=some x→∃ (b:Nat) (g_emp:Nat) (g_emp_posted:Nat) (g_emp_orders:Nat) (g_fixesA:Option Addr) (g_fixesc:Nat) (g_firstA:Option Addr) (g_firstc:Nat),u=.tuple #[.pointer (some ⟨b,0,none⟩),.int .i64 dNewNil.2]∧Fresh (deskR b g_emp g_emp_posted g_emp_orders g_fixesA g_fixesc g_firstA g_firstc x) d' w w')):=by
 refine ret_enter (n:=11) Tryz.func97 Z Z (ble Z) ?_
 have hI0:=Inv.start hd
 refine csr ((GA Y (GA Y (gnx ((c_seq (csr ((GM Y (g_y (y_nilEqNil Tryz.underlying30 Z Z) Z Z (gnx ((c_condT Z ?_)))))))))))))
 refine csr ((GA Y (GA Y (gnx ((c_ret ?_))))))
 have hF1:dNewNil=(none,3):=rfl
 refine x_thenR (x_ret ⟨_,_,rfl,rfl,⟨_,_,rfl,rfl,rfl⟩⟩ ?_)
 exact ⟨_,_,rfl,hI0.fr,hI0.grow,by rw [hF1]; exact ⟨(fun _=>rfl),(fun x h=>by cases h)⟩⟩
theorem dNewNil_none:dNewNil.1=none:=rfl
theorem eRun_len {p:EmpS}:((eRun p).2.2=0∧(eRun p).1.inputs.length=p.inputs.length + 1)∨((eRun p).2.2≠0∧(eRun p).1.inputs.length=p.inputs.length):=by
 unfold eRun
 simp only [bnd]
 split
 ·exact .inr ⟨by assumption,rfl⟩
 split
 ·exact .inr ⟨by assumption,rfl⟩
 split
 ·exact .inr ⟨by assumption,rfl⟩
 split
 ·exact .inr ⟨by assumption,rfl⟩
 ·refine .inl ⟨rfl,?_⟩
  simp [eInputsWith,bnd,clInput_eq]
theorem eReplace_len {p:EmpS} {k:Int} {l:List Elem}:((eReplace p k l).2≠0∨(1≤k∧k≤p.inputs.length∧l.length≤32))∧(eReplace p k l).1.inputs.length=p.inputs.length:=by
 unfold eReplace
 split
 ·exact ⟨.inl (by show (230:Int)≠0; decide),rfl⟩
 split
 ·exact ⟨.inl (by show (230:Int)≠0; decide),rfl⟩
 simp only [bnd]
 split
 ·exact ⟨.inl (by assumption),rfl⟩
 split
 ·exact ⟨.inl (by assumption),rfl⟩
 obtain ⟨x,hx⟩:=has (xs:=clInput p.inputs) (k:=(k - 1).toNat) (by rw [clInput_eq]; omega)
 rw [opt_some hx]
 split
 ·exact ⟨.inl (by assumption),rfl⟩
 ·exact ⟨.inr ⟨by omega,by omega,eCheckAll_len (t:=p.table) (by omega)⟩,by simp [clInput_eq]⟩
def dRun (dk:DeskS):DeskS × Slip × Int:=
 (bnd (eRun dk.emp) fun a0=>
 (if (a0.2.2≠0) then ((⟨a0.1,dk.fixes,dk.first⟩:DeskS),(⟨0,(⟨0,0,0⟩:Bases),0,0,([]:List Share),0,([]:List Taken),0⟩:Slip),a0.2.2)
 else (bnd (eInputs a0.1) fun a1=>
 (opt (a1)[(((a1.length:Int) - 1)).toNat]? fun a2=>
 ((⟨a0.1,dk.fixes,(dk.first ++ [a2])⟩:DeskS),a0.2.1,0)))))
theorem dRun_c {dk:DeskS} {dk_r:Nat} {dk_emp:Nat} {dk_emp_posted:Nat} {dk_emp_orders:Nat} {dk_fixesA:Option Addr} {dk_fixesc:Nat} {dk_firstA:Option Addr} {dk_firstc:Nat} {d:Dat} {w:World} (hd:∀ b,d b→b < w.heap.size) (h_dk:(deskR dk_r dk_emp dk_emp_posted dk_emp_orders dk_fixesA dk_fixesc dk_firstA dk_firstc dk).ok d w) (hn_dk:∀ q0 ∈ (deskR dk_r dk_emp dk_emp_posted dk_emp_orders dk_fixesA dk_fixesc dk_firstA dk_firstc dk).fp,¬ d q0):Ret Tryz.prog 53 [.pointer (some ⟨dk_r,0,none⟩)] w (deskR dk_r dk_emp dk_emp_posted dk_emp_orders dk_fixesA dk_fixesc dk_firstA dk_firstc dk).fp d (fun u d' w'=>∃ (n_emp_orders:Nat) (n_firstA:Option Addr) (n_firstc:Nat) (cs0:List Value),u=.tuple #[.agg cs0.toArray,.int .i64 ((dRun dk).2.2)]∧Turn (deskR dk_r dk_emp dk_emp_posted dk_emp_orders dk_fixesA dk_fixesc dk_firstA dk_firstc dk) (deskR dk_r dk_emp dk_emp_posted n_emp_orders dk_fixesA dk_fixesc n_firstA n_firstc ((dRun dk).1)) d' w w'∧slipTy.rel d' w' (dRun dk).2.1 cs0):=by
 refine ret_enter (n:=40) Tryz.func53 Z Z (ble Z) ?_
 have hI0:=Inv.startM hd h_dk hn_dk
 refine csr ((g_e (ev_alloc hI0 ze_51) Z Z ?_))
 rintro _ w1 ⟨b4,rfl,hI2,hle3⟩
 refine GA Y (gnx ((csr ((GM Y (g_y (y_nilCheck Z) Z Z (gfa fo_81_0 Z Z Z ?_)))))))
 have hI5:=hI2.front (.tl _ (.hd _))
 obtain ⟨cs6,hI7,hr8⟩:=hI5.openStar.openObj
 have hI9:=(hI7.front (.tl _ (.hd _))).openStar
 have a2:=(hI9.front (.tl _ (.hd _))).openStar
 have d8:=row_len (a2.ok _ m0); unfold big at d8
 have d9:=row_len (a2.ok _ m1); unfold big at d9
 obtain ⟨j4,j5,j6,j7⟩:=empR_inv (a2.ok _ m2)
 obtain ⟨rfl,j8,j9,k0,k1,k2,k3⟩:=hr8
 refine gld sh_30 Z a2 m3 (i:=0) Z Z Z ?_
 have b6:=eRun_c (p:=dk.emp) (p_r:=dk_emp) (p_posted:=dk_emp_posted) (p_orders:=dk_emp_orders) a2.lt (a2.ok _ m2) (a2.nod _ m2)
 obtain ⟨a0,a6⟩:∃ r,eRun dk.emp=r:=⟨_,rfl⟩
 rw [a6] at b6
 have h8r24:=eRun_len (p:=dk.emp); rw [a6] at h8r24
 refine g_e (ev_call pf_24 Z b6) Z Z ?_
 rintro _ k4 ⟨e0,e1,e2,b0,k5,rfl,e3,e4⟩
 obtain ⟨b7,k6⟩:=a2.turn (.tl _ (.tl _ (.hd _))) e1 e2 e3
 obtain ⟨k7,k8,k9,l0⟩:=empR_inv (b7.ok _ m2)
 obtain ⟨l1,l2,rfl,b8,b9⟩:=e4
 obtain ⟨e5,e6,rfl,l3,l4⟩:=b8.fm
 obtain ⟨e7,e8,rfl,l5,l6⟩:=b9.fm
 refine GM Y (g_y (y_extract Z Z) Z Z (g_y (y_extract Z Z) Z Z (g_e (ev_alloc b7 ze_51) Z Z ?_)))
 rintro _ l7 ⟨l8,rfl,e9,c0⟩
 refine g_e (ev_store e9 Z Z Z sz_51 Z (.here _ _ (.here _ _ (.here _ _ (.here _ _ (.here _ _ (.here _ _ (.here _ _ (.here _ _ (.here _ _ (.here _ _ (.nil _))))))))))) (.hd _)) Z Z ?_
 rintro _ l9 ⟨a4,c1⟩
 refine GA Y (gnx ((c_seq (csr ((GM Y (g_y (y_neq Z Z) Z Z (gnx ((c_cond Z (fun a3=>?_) (fun a3=>?_)))))))))))
 ·replace a3:=OT a3
  refine csr ((g_y (y_build ze_51 pl_51 (.nil _)) Z Z (GM Y (g_e (ev_store a4 Z Z Z sz_51 Z (.here _ _ (.here _ _ (.here _ _ (.here _ _ (.here _ _ (.here _ _ (.here _ _ (.here _ _ (.here _ _ (.here _ _ (.nil _))))))))))) (.tl _ (.tl _ (.tl _ (.tl _ (.tl _ (.hd _))))))) Z Z ?_))))
  rintro _ f0 ⟨c2,m6⟩
  refine GA Y (gnx ((c_ret ?_)))
  obtain ⟨m7,m8,m9,n0⟩:=empR_inv (c2.ok _ m3)
  have f1:=c2.front (.tl _ (.tl _ (.hd _)))
  have f2:=f1.front (.tl _ (.tl _ (.hd _)))
  have f3:=f2.closeStar
  have f4:=f3.front (.tl _ (.tl _ (.hd _)))
  have f5:=f4.closeStar
  have f6:=f5.front (.tl _ (.tl _ (.hd _)))
  have f7:((⟨a0.1,dk.fixes,dk.first⟩:DeskS)).first.length=((⟨a0.1,dk.fixes,dk.first⟩:DeskS)).emp.inputs.length:=by (try dsimp only); first | assumption | omega | (simp only [LA,LC,LN,LS]; omega) | (first | (intro f hf; cases hf) | (intro f hf; rcases LP.1 hf with hf | hf; exact ‹∀ f ∈ _,List.length (Fix.elements f)≤32› f hf; (rw [LM.1 hf]; dsimp only; omega)) | (intro i hi; rcases LP.1 hi with hi | hi; exact ‹∀ i ∈ _,List.length (Input.elements i)≤32› i hi; (rw [LM.1 hi]; exact ‹∀ i ∈ EmpS.inputs _,List.length (Input.elements i)≤32› _ (by assumption))) | (intro f hf; (have h9:=‹∀ f ∈ _,1≤Fix.period f∧Fix.period f≤_› f hf; (try simp only [LA,LC,LN]); omega)) | (intro f hf; rcases LP.1 hf with hf | hf; (have h9:=‹∀ f ∈ _,1≤Fix.period f∧Fix.period f≤_› f hf; (try simp only [LA,LC,LN]); omega); (rw [LM.1 hf]; dsimp only; omega)))
  have f8:((⟨a0.1,dk.fixes,dk.first⟩:DeskS)).first.length≤53:=by (try dsimp only); first | assumption | omega | (simp only [LA,LC,LN,LS]; omega) | (first | (intro f hf; cases hf) | (intro f hf; rcases LP.1 hf with hf | hf; exact ‹∀ f ∈ _,List.length (Fix.elements f)≤32› f hf; (rw [LM.1 hf]; dsimp only; omega)) | (intro i hi; rcases LP.1 hi with hi | hi; exact ‹∀ i ∈ _,List.length (Input.elements i)≤32› i hi; (rw [LM.1 hi]; exact ‹∀ i ∈ EmpS.inputs _,List.length (Input.elements i)≤32› _ (by assumption))) | (intro f hf; (have h9:=‹∀ f ∈ _,1≤Fix.period f∧Fix.period f≤_› f hf; (try simp only [LA,LC,LN]); omega)) | (intro f hf; rcases LP.1 hf with hf | hf; (have h9:=‹∀ f ∈ _,1≤Fix.period f∧Fix.period f≤_› f hf; (try simp only [LA,LC,LN]); omega); (rw [LM.1 hf]; dsimp only; omega)))
  have f9:((⟨a0.1,dk.fixes,dk.first⟩:DeskS)).fixes.length≤256:=by (try dsimp only); first | assumption | omega | (simp only [LA,LC,LN,LS]; omega) | (first | (intro f hf; cases hf) | (intro f hf; rcases LP.1 hf with hf | hf; exact ‹∀ f ∈ _,List.length (Fix.elements f)≤32› f hf; (rw [LM.1 hf]; dsimp only; omega)) | (intro i hi; rcases LP.1 hi with hi | hi; exact ‹∀ i ∈ _,List.length (Input.elements i)≤32› i hi; (rw [LM.1 hi]; exact ‹∀ i ∈ EmpS.inputs _,List.length (Input.elements i)≤32› _ (by assumption))) | (intro f hf; (have h9:=‹∀ f ∈ _,1≤Fix.period f∧Fix.period f≤_› f hf; (try simp only [LA,LC,LN]); omega)) | (intro f hf; rcases LP.1 hf with hf | hf; (have h9:=‹∀ f ∈ _,1≤Fix.period f∧Fix.period f≤_› f hf; (try simp only [LA,LC,LN]); omega); (rw [LM.1 hf]; dsimp only; omega)))
  have g0:∀ f ∈ ((⟨a0.1,dk.fixes,dk.first⟩:DeskS)).fixes,1≤f.period∧f.period≤(((⟨a0.1,dk.fixes,dk.first⟩:DeskS)).first.length:Int):=by (try dsimp only); first | assumption | omega | (simp only [LA,LC,LN,LS]; omega) | (first | (intro f hf; cases hf) | (intro f hf; rcases LP.1 hf with hf | hf; exact ‹∀ f ∈ _,List.length (Fix.elements f)≤32› f hf; (rw [LM.1 hf]; dsimp only; omega)) | (intro i hi; rcases LP.1 hi with hi | hi; exact ‹∀ i ∈ _,List.length (Input.elements i)≤32› i hi; (rw [LM.1 hi]; exact ‹∀ i ∈ EmpS.inputs _,List.length (Input.elements i)≤32› _ (by assumption))) | (intro f hf; (have h9:=‹∀ f ∈ _,1≤Fix.period f∧Fix.period f≤_› f hf; (try simp only [LA,LC,LN]); omega)) | (intro f hf; rcases LP.1 hf with hf | hf; (have h9:=‹∀ f ∈ _,1≤Fix.period f∧Fix.period f≤_› f hf; (try simp only [LA,LC,LN]); omega); (rw [LM.1 hf]; dsimp only; omega)))
  have g1:∀ f ∈ ((⟨a0.1,dk.fixes,dk.first⟩:DeskS)).fixes,f.elements.length≤32:=by (try dsimp only); first | assumption | omega | (simp only [LA,LC,LN,LS]; omega) | (first | (intro f hf; cases hf) | (intro f hf; rcases LP.1 hf with hf | hf; exact ‹∀ f ∈ _,List.length (Fix.elements f)≤32› f hf; (rw [LM.1 hf]; dsimp only; omega)) | (intro i hi; rcases LP.1 hi with hi | hi; exact ‹∀ i ∈ _,List.length (Input.elements i)≤32› i hi; (rw [LM.1 hi]; exact ‹∀ i ∈ EmpS.inputs _,List.length (Input.elements i)≤32› _ (by assumption))) | (intro f hf; (have h9:=‹∀ f ∈ _,1≤Fix.period f∧Fix.period f≤_› f hf; (try simp only [LA,LC,LN]); omega)) | (intro f hf; rcases LP.1 hf with hf | hf; (have h9:=‹∀ f ∈ _,1≤Fix.period f∧Fix.period f≤_› f hf; (try simp only [LA,LC,LN]); omega); (rw [LM.1 hf]; dsimp only; omega)))
  have g2:∀ i ∈ ((⟨a0.1,dk.fixes,dk.first⟩:DeskS)).first,i.elements.length≤32:=by (try dsimp only); first | assumption | omega | (simp only [LA,LC,LN,LS]; omega) | (first | (intro f hf; cases hf) | (intro f hf; rcases LP.1 hf with hf | hf; exact ‹∀ f ∈ _,List.length (Fix.elements f)≤32› f hf; (rw [LM.1 hf]; dsimp only; omega)) | (intro i hi; rcases LP.1 hi with hi | hi; exact ‹∀ i ∈ _,List.length (Input.elements i)≤32› i hi; (rw [LM.1 hi]; exact ‹∀ i ∈ EmpS.inputs _,List.length (Input.elements i)≤32› _ (by assumption))) | (intro f hf; (have h9:=‹∀ f ∈ _,1≤Fix.period f∧Fix.period f≤_› f hf; (try simp only [LA,LC,LN]); omega)) | (intro f hf; rcases LP.1 hf with hf | hf; (have h9:=‹∀ f ∈ _,1≤Fix.period f∧Fix.period f≤_› f hf; (try simp only [LA,LC,LN]); omega); (rw [LM.1 hf]; dsimp only; omega)))
  have g3:=f6.closeObj (ty:=(deskTy dk_emp dk_fixesA dk_fixesc dk_firstA dk_firstc)) (x:=(⟨a0.1,dk.fixes,dk.first⟩:DeskS)) ⟨rfl,f7,f8,f9,g0,g1,g2⟩
  have g4:=g3.closeStar
  have a7:Inv (deskR dk_r dk_emp dk_emp_posted dk_emp_orders dk_fixesA dk_fixesc dk_firstA dk_firstc dk).fp d w e0 (deskR dk_r dk_emp dk_emp_posted b0 dk_fixesA dk_fixesc dk_firstA dk_firstc ((⟨a0.1,dk.fixes,dk.first⟩:DeskS)) :: _) f0:=g4
  have g5:dRun dk=((⟨a0.1,dk.fixes,dk.first⟩:DeskS),(⟨0,(⟨0,0,0⟩:Bases),0,0,([]:List Share),0,([]:List Taken),0⟩:Slip),a0.2.2):=ET (BE a6) (ET (IP a3) (rfl))
  refine x_thenR (x_ret ⟨_,_,_,rfl,rfl,blk_cells a7 m2,sh_51,⟨_,_,rfl,rfl,rfl⟩⟩ ?_)
  exact ⟨_,_,rfl,a7.fr,a7.grow,by rw [g5]; exact ⟨_,_,_,_,rfl,a7.turned m0,⟨_,_,rfl,(Sl.nil_ _ _ _ none 0),(Sl.nil_ _ _ _ none 0)⟩⟩⟩
 ·replace a3:=OF a3
  refine c_skip (x_next (csr ((GM Y (g_y (y_nilCheck Z) Z Z (gfa fo_81_0 Z Z Z (gld sh_30 Z a4 m4 (i:=0) Z Z Z ?_)))))))
  have c3:=eInputs_c (p:=a0.1) (p_r:=dk_emp) (p_posted:=dk_emp_posted) (p_orders:=b0) a4.lt (a4.ok _ m3)
  obtain ⟨a5,b1⟩:∃ r,eInputs a0.1=r:=⟨_,rfl⟩
  rw [b1] at c3
  have h7r84:a5=a0.1.inputs:=by rw [← b1,eInputs_eq]
  have h8r84:a5.length=a0.1.inputs.length:=by rw [h7r84]
  refine g_e (ev_row a4 pf_39 Z c3) Z Z ?_
  rintro _ g6 ⟨g7,n1,n2,rfl,c4,c5⟩
  have g8:=row_len (c4.ok _ m0); unfold big at g8
  refine GA Y (gnx ((c_seq ?_)))
  have a8:=c4.drew; have c6:=Le.drew g7 g6
  refine c_drawK 13 follows_mixed (a8.drop (.tl _ (.tl _ (.tl _ (.hd _))))) (k_y 0 (by kernel_rfl) Z Z Z (fun _ _=>(y_move Z)) (k_y 1 (by kernel_rfl) Z Z Z (fun _ _=>(y_move Z)) (k_y 2 (by kernel_rfl) Z Z Z (fun _ _=>(y_nilCheck Z)) (k_y 3 (by kernel_rfl) Z Z Z (fun _ _=>(y_fieldAddr fo_81_2 Z)) (k_y 4 (by kernel_rfl) Z Z Z (fun n3 ⟨n4,g9,n5⟩=>(y_load1 sh_79 Z ((blk_cells g9 m4).nth_ (i:=2) Z))) (k_y 5 (by kernel_rfl) Z Z Z (fun _ _=>(y_move Z)) (k_y 6 (by kernel_rfl) Z Z Z (fun _ _=>(y_move Z)) (k_y 7 (by kernel_rfl) Z Z Z (fun _ _=>(y_lenS (by rw [el_79]; rfl) Z)) (k_y 8 (by kernel_rfl) Z Z Z (fun _ _=>(y_sub Z Z (by omega))) ?_)))))))))
  obtain ⟨a1,b2⟩:=has (xs:=a5) (k:=(((a5.length:Int) - 1)).toNat) (by omega)
  have h0:=List.mem_of_getElem? b2; (try (have hQ:=‹_=EmpS.inputs _›; rw [hQ] at h0))
  obtain ⟨n6,n7,h1,h2,h3⟩:=row_at0 (a8.ok _ m0) b2
  obtain ⟨n8,rfl,c7⟩:=h2
  obtain ⟨c8,c9,rfl,n9,o0⟩:=c7.fm
  refine k_y 9 (by kernel_rfl) Z Z Z (fun _ _=>(y_indexAddr (i:=(((a5.length:Int) - 1)).toNat) el_79 Z h1 Z ((Int.toNat_of_nonneg (by omega)).symm) (by omega))) (k_all (is:=[10]) (by kernel_rfl) (by simp) (.cons ?_ .nil))
  refine k_op Z Z Z (Ev.of_y2 (y_loadA (cs:=[.int .i64 a1.code.scheme,.int .i64 a1.code.kind,.int .i64 a1.code.amount,.int .i64 a1.code.flat,.bool a1.code.alone,.slice c8 (a1.elements).length c9]) sh_112 Z (h3.part (f:=0) (.take _ (.take _ (.take _ (.take _ (.take _ (.take _ (.nil _)))))))))) ?_
  rintro _ _ ⟨rfl,rfl⟩
  refine k_next (a8.drop (.tl _ (.tl _ (.tl _ (.hd _))))) (Le.refl _ _) (k_all (is:=[11]) (by kernel_rfl) (by simp) (.cons ?_ .nil))
  refine k_op Z Z Z (ev_buildSl (T:=inputTy) (xs:=[a1]) a8 el_79 ze_112 Z Z (ble Z) (ble Z) (.cons Z Z Z Z (.here _ _ (.here _ _ (.here _ _ (.here _ _ (.here _ _ (.here _ _ (.nil _))))))) (ble Z) (.nil _)) (.cons (x:=a1) (cs:=[.int .i64 a1.code.scheme,.int .i64 a1.code.kind,.int .i64 a1.code.amount,.int .i64 a1.code.flat,.bool a1.code.alone,.slice c8 (a1.elements).length c9]) ⟨_,rfl,c7⟩ .nil)) ?_
  rintro _ o1 ⟨h4,d0,b3,h5,o2,rfl⟩
  refine k_next (d0.drop (.tl _ (.tl _ (.tl _ (.hd _))))) b3 (k_all (is:=[12]) (by kernel_rfl) (by simp) (.cons ?_ .nil))
  refine k_op Z Z Z (ev_append d0 ei_79 Z Z m3 h5 (by simp only [LA,LC,LN,big] at *; omega) (by simp only [LA,LC,LN,big] at *; omega)) ?_
  rintro _ o3 ⟨h6,b5,d1,d2,rfl⟩
  have d3:=h6 _ (.tl _ (.tl _ (.tl _ (.hd _))))
  refine k_next (d3.drop (.tl _ (.tl _ (.tl _ (.hd _))))) b5 (k_all (is:=[13]) (by kernel_rfl) (by simp) (.cons ?_ .nil))
  refine k_op Z Z Z (Ev.of_y2 (y_nilCheck Z)) ?_
  rintro _ _ ⟨rfl,rfl⟩
  refine k_bar (b_all (i:=14) (by kernel_rfl) (by kernel_rfl) (k_op Z Z Z (Ev.of_y2 (y_fieldAddr fo_81_2 Z)) ?_))
  rintro _ _ ⟨rfl,rfl⟩
  refine k_bar (b_all (i:=15) (by kernel_rfl) (by kernel_rfl) (k_op Z Z Z (ev_store d3 Z Z Z sz_79 Z (.next _ (.next _ (.here _ _ (.nil _)))) (.tl _ (.tl _ (.tl _ (.tl _ (.tl _ (.hd _))))))) ?_))
  rintro _ o4 ⟨d4,d5⟩
  refine k_bar (b_done (by kernel_rfl) (x_draw ?_) (by kernel_rfl))
  refine x_next (csr ((g_y (y_loadA (cs:=[.int .i64 a0.2.1.period,.int .i64 a0.2.1.bases.cash,.int .i64 a0.2.1.bases.taxable,.int .i64 a0.2.1.bases.social,.int .i64 a0.2.1.tax,.int .i64 a0.2.1.shortfall,.slice e5 (a0.2.1.shares).length e6,.int .i64 a0.2.1.net,.slice e7 (a0.2.1.taken).length e8,.int .i64 a0.2.1.pay]) sh_51 Z ((blk_cells d4 m1).part (f:=0) (.take _ (.take _ (.take _ (.take _ (.take _ (.take _ (.take _ (.take _ (.take _ (.take _ (.nil _))))))))))))) Z Z (g_e (ev_store d4 Z Z Z sz_51 Z (.here _ _ (.here _ _ (.here _ _ (.here _ _ (.here _ _ (.here _ _ (.here _ _ (.here _ _ (.here _ _ (.here _ _ (.nil _))))))))))) (.tl _ (.tl _ (.tl _ (.tl _ (.tl _ (.tl _ (.hd _)))))))) Z Z ?_))))
  rintro _ h7 ⟨d6,d7⟩
  refine GA Y (gnx ((c_ret ?_)))
  obtain ⟨o5,o6,o7,o8⟩:=empR_inv (d6.ok _ m4)
  have h8:=d6.front (.tl _ (.tl _ (.tl _ (.hd _))))
  have i0:=h8.front (.tl _ (.tl _ (.tl _ (.hd _))))
  have i1:=i0.closeStar
  have i2:=i1.front (.tl _ (.tl _ (.tl _ (.hd _))))
  have i3:=i2.closeStar
  have i4:=i3.front (.tl _ (.tl _ (.tl _ (.hd _))))
  have i5:((⟨a0.1,dk.fixes,(dk.first ++ [a1])⟩:DeskS)).first.length=((⟨a0.1,dk.fixes,(dk.first ++ [a1])⟩:DeskS)).emp.inputs.length:=by (try dsimp only); first | assumption | omega | (simp only [LA,LC,LN,LS]; omega) | (first | (intro f hf; cases hf) | (intro f hf; rcases LP.1 hf with hf | hf; exact ‹∀ f ∈ _,List.length (Fix.elements f)≤32› f hf; (rw [LM.1 hf]; dsimp only; omega)) | (intro i hi; rcases LP.1 hi with hi | hi; exact ‹∀ i ∈ _,List.length (Input.elements i)≤32› i hi; (rw [LM.1 hi]; exact ‹∀ i ∈ EmpS.inputs _,List.length (Input.elements i)≤32› _ (by assumption))) | (intro f hf; (have h9:=‹∀ f ∈ _,1≤Fix.period f∧Fix.period f≤_› f hf; (try simp only [LA,LC,LN]); omega)) | (intro f hf; rcases LP.1 hf with hf | hf; (have h9:=‹∀ f ∈ _,1≤Fix.period f∧Fix.period f≤_› f hf; (try simp only [LA,LC,LN]); omega); (rw [LM.1 hf]; dsimp only; omega)))
  have i6:((⟨a0.1,dk.fixes,(dk.first ++ [a1])⟩:DeskS)).first.length≤53:=by (try dsimp only); first | assumption | omega | (simp only [LA,LC,LN,LS]; omega) | (first | (intro f hf; cases hf) | (intro f hf; rcases LP.1 hf with hf | hf; exact ‹∀ f ∈ _,List.length (Fix.elements f)≤32› f hf; (rw [LM.1 hf]; dsimp only; omega)) | (intro i hi; rcases LP.1 hi with hi | hi; exact ‹∀ i ∈ _,List.length (Input.elements i)≤32› i hi; (rw [LM.1 hi]; exact ‹∀ i ∈ EmpS.inputs _,List.length (Input.elements i)≤32› _ (by assumption))) | (intro f hf; (have h9:=‹∀ f ∈ _,1≤Fix.period f∧Fix.period f≤_› f hf; (try simp only [LA,LC,LN]); omega)) | (intro f hf; rcases LP.1 hf with hf | hf; (have h9:=‹∀ f ∈ _,1≤Fix.period f∧Fix.period f≤_› f hf; (try simp only [LA,LC,LN]); omega); (rw [LM.1 hf]; dsimp only; omega)))
  have i7:((⟨a0.1,dk.fixes,(dk.first ++ [a1])⟩:DeskS)).fixes.length≤256:=by (try dsimp only); first | assumption | omega | (simp only [LA,LC,LN,LS]; omega) | (first | (intro f hf; cases hf) | (intro f hf; rcases LP.1 hf with hf | hf; exact ‹∀ f ∈ _,List.length (Fix.elements f)≤32› f hf; (rw [LM.1 hf]; dsimp only; omega)) | (intro i hi; rcases LP.1 hi with hi | hi; exact ‹∀ i ∈ _,List.length (Input.elements i)≤32› i hi; (rw [LM.1 hi]; exact ‹∀ i ∈ EmpS.inputs _,List.length (Input.elements i)≤32› _ (by assumption))) | (intro f hf; (have h9:=‹∀ f ∈ _,1≤Fix.period f∧Fix.period f≤_› f hf; (try simp only [LA,LC,LN]); omega)) | (intro f hf; rcases LP.1 hf with hf | hf; (have h9:=‹∀ f ∈ _,1≤Fix.period f∧Fix.period f≤_› f hf; (try simp only [LA,LC,LN]); omega); (rw [LM.1 hf]; dsimp only; omega)))
  have i8:∀ f ∈ ((⟨a0.1,dk.fixes,(dk.first ++ [a1])⟩:DeskS)).fixes,1≤f.period∧f.period≤(((⟨a0.1,dk.fixes,(dk.first ++ [a1])⟩:DeskS)).first.length:Int):=by (try dsimp only); first | assumption | omega | (simp only [LA,LC,LN,LS]; omega) | (first | (intro f hf; cases hf) | (intro f hf; rcases LP.1 hf with hf | hf; exact ‹∀ f ∈ _,List.length (Fix.elements f)≤32› f hf; (rw [LM.1 hf]; dsimp only; omega)) | (intro i hi; rcases LP.1 hi with hi | hi; exact ‹∀ i ∈ _,List.length (Input.elements i)≤32› i hi; (rw [LM.1 hi]; exact ‹∀ i ∈ EmpS.inputs _,List.length (Input.elements i)≤32› _ (by assumption))) | (intro f hf; (have h9:=‹∀ f ∈ _,1≤Fix.period f∧Fix.period f≤_› f hf; (try simp only [LA,LC,LN]); omega)) | (intro f hf; rcases LP.1 hf with hf | hf; (have h9:=‹∀ f ∈ _,1≤Fix.period f∧Fix.period f≤_› f hf; (try simp only [LA,LC,LN]); omega); (rw [LM.1 hf]; dsimp only; omega)))
  have i9:∀ f ∈ ((⟨a0.1,dk.fixes,(dk.first ++ [a1])⟩:DeskS)).fixes,f.elements.length≤32:=by (try dsimp only); first | assumption | omega | (simp only [LA,LC,LN,LS]; omega) | (first | (intro f hf; cases hf) | (intro f hf; rcases LP.1 hf with hf | hf; exact ‹∀ f ∈ _,List.length (Fix.elements f)≤32› f hf; (rw [LM.1 hf]; dsimp only; omega)) | (intro i hi; rcases LP.1 hi with hi | hi; exact ‹∀ i ∈ _,List.length (Input.elements i)≤32› i hi; (rw [LM.1 hi]; exact ‹∀ i ∈ EmpS.inputs _,List.length (Input.elements i)≤32› _ (by assumption))) | (intro f hf; (have h9:=‹∀ f ∈ _,1≤Fix.period f∧Fix.period f≤_› f hf; (try simp only [LA,LC,LN]); omega)) | (intro f hf; rcases LP.1 hf with hf | hf; (have h9:=‹∀ f ∈ _,1≤Fix.period f∧Fix.period f≤_› f hf; (try simp only [LA,LC,LN]); omega); (rw [LM.1 hf]; dsimp only; omega)))
  have j0:∀ i ∈ ((⟨a0.1,dk.fixes,(dk.first ++ [a1])⟩:DeskS)).first,i.elements.length≤32:=by (try dsimp only); first | assumption | omega | (simp only [LA,LC,LN,LS]; omega) | (first | (intro f hf; cases hf) | (intro f hf; rcases LP.1 hf with hf | hf; exact ‹∀ f ∈ _,List.length (Fix.elements f)≤32› f hf; (rw [LM.1 hf]; dsimp only; omega)) | (intro i hi; rcases LP.1 hi with hi | hi; exact ‹∀ i ∈ _,List.length (Input.elements i)≤32› i hi; (rw [LM.1 hi]; exact ‹∀ i ∈ EmpS.inputs _,List.length (Input.elements i)≤32› _ (by assumption))) | (intro f hf; (have h9:=‹∀ f ∈ _,1≤Fix.period f∧Fix.period f≤_› f hf; (try simp only [LA,LC,LN]); omega)) | (intro f hf; rcases LP.1 hf with hf | hf; (have h9:=‹∀ f ∈ _,1≤Fix.period f∧Fix.period f≤_› f hf; (try simp only [LA,LC,LN]); omega); (rw [LM.1 hf]; dsimp only; omega)))
  have j1:=i4.closeObj (ty:=(deskTy dk_emp dk_fixesA dk_fixesc d1 d2)) (x:=(⟨a0.1,dk.fixes,(dk.first ++ [a1])⟩:DeskS)) ⟨rfl,i5,i6,i7,i8,i9,j0⟩
  have j2:=j1.closeStar
  have a9:Inv (deskR dk_r dk_emp dk_emp_posted dk_emp_orders dk_fixesA dk_fixesc dk_firstA dk_firstc dk).fp d w h4 (deskR dk_r dk_emp dk_emp_posted b0 dk_fixesA dk_fixesc d1 d2 ((⟨a0.1,dk.fixes,(dk.first ++ [a1])⟩:DeskS)) :: _) h7:=j2
  have j3:dRun dk=((⟨a0.1,dk.fixes,(dk.first ++ [a1])⟩:DeskS),a0.2.1,0):=ET (BE a6) (ET (IN a3) (ET (BE b1) (ET (opt_some b2) (rfl))))
  refine x_ret ⟨_,_,_,rfl,rfl,blk_cells a9 m3,sh_51,⟨_,_,rfl,rfl,rfl⟩⟩ (⟨_,_,rfl,a9.fr,a9.grow,by rw [j3]; exact ⟨_,_,_,_,rfl,a9.turned m0,⟨_,_,rfl,(b8.mono (((((((c0.t c1).t c5).t c6).t b3).t b5).t d5).t d7)),(b9.mono (((((((c0.t c1).t c5).t c6).t b3).t b5).t d5).t d7))⟩⟩⟩)
def dFix (dk:DeskS) (k:Int) (list:(List Elem)):DeskS × Int:=
 (if ((dk.fixes.length:Int)=256) then (dk,2)
 else (bnd (eReplace dk.emp k list) fun a0=>
 (if (a0.2≠0) then ((⟨a0.1,dk.fixes,dk.first⟩:DeskS),a0.2)
 else (bnd (clElem list) fun a1=>
 ((⟨a0.1,(dk.fixes ++ [(⟨k,a1,(dk.first.length:Int)⟩:Fix)]),dk.first⟩:DeskS),0)))))
theorem dFix_c {dk:DeskS} {dk_r:Nat} {dk_emp:Nat} {dk_emp_posted:Nat} {dk_emp_orders:Nat} {dk_fixesA:Option Addr} {dk_fixesc:Nat} {dk_firstA:Option Addr} {dk_firstc:Nat} {k:Int} {list:(List Elem)} {v_list:Value} {d:Dat} {w:World} (hd:∀ b,d b→b < w.heap.size) (h_dk:(deskR dk_r dk_emp dk_emp_posted dk_emp_orders dk_fixesA dk_fixesc dk_firstA dk_firstc dk).ok d w) (hn_dk:∀ q0 ∈ (deskR dk_r dk_emp dk_emp_posted dk_emp_orders dk_fixesA dk_fixesc dk_firstA dk_firstc dk).fp,¬ d q0) (h_list:Sl elemTy d w v_list list):Ret Tryz.prog 50 [.pointer (some ⟨dk_r,0,none⟩),.int .i64 k,v_list] w (deskR dk_r dk_emp dk_emp_posted dk_emp_orders dk_fixesA dk_fixesc dk_firstA dk_firstc dk).fp d (fun u d' w'=>∃ (n_fixesA:Option Addr) (n_fixesc:Nat),u=.int .i64 ((dFix dk k list).2)∧Turn (deskR dk_r dk_emp dk_emp_posted dk_emp_orders dk_fixesA dk_fixesc dk_firstA dk_firstc dk) (deskR dk_r dk_emp dk_emp_posted dk_emp_orders n_fixesA n_fixesc dk_firstA dk_firstc ((dFix dk k list).1)) d' w w'):=by
 obtain ⟨A1,c2,rfl,hn3,hb4⟩:=h_list.fm
 refine ret_enter (n:=42) Tryz.func50 Z Z (ble Z) ?_
 have hI0:=Inv.startM hd h_dk hn_dk
 refine csr ((GA Y (gnx ((c_seq (csr ((GM Y (g_y (y_nilCheck Z) Z Z (gfa fo_81_1 Z Z Z ?_))))))))))
 obtain ⟨o8,c5,c6⟩:=hI0.openStar.openObj
 have c7:=(c5.front (.tl _ (.hd _))).openStar
 have a2:=(c7.front (.tl _ (.hd _))).openStar
 have c8:=row_len (a2.ok _ m0); unfold big at c8
 have c9:=row_len (a2.ok _ m1); unfold big at c9
 obtain ⟨o9,p0,p1,p2⟩:=empR_inv (a2.ok _ m2)
 obtain ⟨rfl,p3,p4,p5,p6,p7,p8⟩:=c6
 refine gld sh_78 Z a2 m3 (i:=1) Z Z Z (gln el_78 Z Z Z (g_y (y_eql Z Z) Z Z (gnx ((c_cond Z (fun a3=>?_) (fun a3=>?_))))))
 ·replace a3:=OT a3
  refine csr ((GA Y (gnx ((c_ret ?_)))))
  obtain ⟨p9,q1,q2,q3⟩:=empR_inv (a2.ok _ m2)
  have d0:=a2.front (.tl _ (.hd _))
  have d1:=d0.front (.tl _ (.hd _))
  have d2:=d1.closeStar
  have d3:=d2.front (.tl _ (.hd _))
  have d4:=d3.closeStar
  have d5:=d4.front (.tl _ (.hd _))
  have d6:dk.first.length=dk.emp.inputs.length:=by (try dsimp only); first | assumption | omega | (simp only [LA,LC,LN,LS]; omega) | (first | (intro f hf; cases hf) | (intro f hf; rcases LP.1 hf with hf | hf; exact ‹∀ f ∈ _,List.length (Fix.elements f)≤32› f hf; (rw [LM.1 hf]; dsimp only; omega)) | (intro i hi; rcases LP.1 hi with hi | hi; exact ‹∀ i ∈ _,List.length (Input.elements i)≤32› i hi; (rw [LM.1 hi]; exact ‹∀ i ∈ EmpS.inputs _,List.length (Input.elements i)≤32› _ (by assumption))) | (intro f hf; (have h9:=‹∀ f ∈ _,1≤Fix.period f∧Fix.period f≤_› f hf; (try simp only [LA,LC,LN]); omega)) | (intro f hf; rcases LP.1 hf with hf | hf; (have h9:=‹∀ f ∈ _,1≤Fix.period f∧Fix.period f≤_› f hf; (try simp only [LA,LC,LN]); omega); (rw [LM.1 hf]; dsimp only; omega)))
  have d7:dk.first.length≤53:=by (try dsimp only); first | assumption | omega | (simp only [LA,LC,LN,LS]; omega) | (first | (intro f hf; cases hf) | (intro f hf; rcases LP.1 hf with hf | hf; exact ‹∀ f ∈ _,List.length (Fix.elements f)≤32› f hf; (rw [LM.1 hf]; dsimp only; omega)) | (intro i hi; rcases LP.1 hi with hi | hi; exact ‹∀ i ∈ _,List.length (Input.elements i)≤32› i hi; (rw [LM.1 hi]; exact ‹∀ i ∈ EmpS.inputs _,List.length (Input.elements i)≤32› _ (by assumption))) | (intro f hf; (have h9:=‹∀ f ∈ _,1≤Fix.period f∧Fix.period f≤_› f hf; (try simp only [LA,LC,LN]); omega)) | (intro f hf; rcases LP.1 hf with hf | hf; (have h9:=‹∀ f ∈ _,1≤Fix.period f∧Fix.period f≤_› f hf; (try simp only [LA,LC,LN]); omega); (rw [LM.1 hf]; dsimp only; omega)))
  have d8:dk.fixes.length≤256:=by (try dsimp only); first | assumption | omega | (simp only [LA,LC,LN,LS]; omega) | (first | (intro f hf; cases hf) | (intro f hf; rcases LP.1 hf with hf | hf; exact ‹∀ f ∈ _,List.length (Fix.elements f)≤32› f hf; (rw [LM.1 hf]; dsimp only; omega)) | (intro i hi; rcases LP.1 hi with hi | hi; exact ‹∀ i ∈ _,List.length (Input.elements i)≤32› i hi; (rw [LM.1 hi]; exact ‹∀ i ∈ EmpS.inputs _,List.length (Input.elements i)≤32› _ (by assumption))) | (intro f hf; (have h9:=‹∀ f ∈ _,1≤Fix.period f∧Fix.period f≤_› f hf; (try simp only [LA,LC,LN]); omega)) | (intro f hf; rcases LP.1 hf with hf | hf; (have h9:=‹∀ f ∈ _,1≤Fix.period f∧Fix.period f≤_› f hf; (try simp only [LA,LC,LN]); omega); (rw [LM.1 hf]; dsimp only; omega)))
  have d9:∀ f ∈ dk.fixes,1≤f.period∧f.period≤(dk.first.length:Int):=by (try dsimp only); first | assumption | omega | (simp only [LA,LC,LN,LS]; omega) | (first | (intro f hf; cases hf) | (intro f hf; rcases LP.1 hf with hf | hf; exact ‹∀ f ∈ _,List.length (Fix.elements f)≤32› f hf; (rw [LM.1 hf]; dsimp only; omega)) | (intro i hi; rcases LP.1 hi with hi | hi; exact ‹∀ i ∈ _,List.length (Input.elements i)≤32› i hi; (rw [LM.1 hi]; exact ‹∀ i ∈ EmpS.inputs _,List.length (Input.elements i)≤32› _ (by assumption))) | (intro f hf; (have h9:=‹∀ f ∈ _,1≤Fix.period f∧Fix.period f≤_› f hf; (try simp only [LA,LC,LN]); omega)) | (intro f hf; rcases LP.1 hf with hf | hf; (have h9:=‹∀ f ∈ _,1≤Fix.period f∧Fix.period f≤_› f hf; (try simp only [LA,LC,LN]); omega); (rw [LM.1 hf]; dsimp only; omega)))
  have e0:∀ f ∈ dk.fixes,f.elements.length≤32:=by (try dsimp only); first | assumption | omega | (simp only [LA,LC,LN,LS]; omega) | (first | (intro f hf; cases hf) | (intro f hf; rcases LP.1 hf with hf | hf; exact ‹∀ f ∈ _,List.length (Fix.elements f)≤32› f hf; (rw [LM.1 hf]; dsimp only; omega)) | (intro i hi; rcases LP.1 hi with hi | hi; exact ‹∀ i ∈ _,List.length (Input.elements i)≤32› i hi; (rw [LM.1 hi]; exact ‹∀ i ∈ EmpS.inputs _,List.length (Input.elements i)≤32› _ (by assumption))) | (intro f hf; (have h9:=‹∀ f ∈ _,1≤Fix.period f∧Fix.period f≤_› f hf; (try simp only [LA,LC,LN]); omega)) | (intro f hf; rcases LP.1 hf with hf | hf; (have h9:=‹∀ f ∈ _,1≤Fix.period f∧Fix.period f≤_› f hf; (try simp only [LA,LC,LN]); omega); (rw [LM.1 hf]; dsimp only; omega)))
  have e1:∀ i ∈ dk.first,i.elements.length≤32:=by (try dsimp only); first | assumption | omega | (simp only [LA,LC,LN,LS]; omega) | (first | (intro f hf; cases hf) | (intro f hf; rcases LP.1 hf with hf | hf; exact ‹∀ f ∈ _,List.length (Fix.elements f)≤32› f hf; (rw [LM.1 hf]; dsimp only; omega)) | (intro i hi; rcases LP.1 hi with hi | hi; exact ‹∀ i ∈ _,List.length (Input.elements i)≤32› i hi; (rw [LM.1 hi]; exact ‹∀ i ∈ EmpS.inputs _,List.length (Input.elements i)≤32› _ (by assumption))) | (intro f hf; (have h9:=‹∀ f ∈ _,1≤Fix.period f∧Fix.period f≤_› f hf; (try simp only [LA,LC,LN]); omega)) | (intro f hf; rcases LP.1 hf with hf | hf; (have h9:=‹∀ f ∈ _,1≤Fix.period f∧Fix.period f≤_› f hf; (try simp only [LA,LC,LN]); omega); (rw [LM.1 hf]; dsimp only; omega)))
  have e2:=d5.closeObj (ty:=(deskTy dk_emp dk_fixesA dk_fixesc dk_firstA dk_firstc)) (x:=dk) ⟨rfl,d6,d7,d8,d9,e0,e1⟩
  have e3:=e2.closeStar
  have b0:Inv (deskR dk_r dk_emp dk_emp_posted dk_emp_orders dk_fixesA dk_fixesc dk_firstA dk_firstc dk).fp d w d (deskR dk_r dk_emp dk_emp_posted dk_emp_orders dk_fixesA dk_fixesc dk_firstA dk_firstc dk :: _) w:=e3
  have e4:dFix dk k list=(dk,2):=ET (IP a3) (rfl)
  refine x_thenR (x_ret ⟨_,_,rfl,rfl,rfl⟩ ?_)
  exact ⟨_,_,rfl,b0.fr,b0.grow,by rw [e4]; exact ⟨_,_,rfl,b0.turned m0⟩⟩
 ·replace a3:=OF a3
  refine c_skip (x_next ?_)
  obtain ⟨q4,q5,q6,q7⟩:=empR_inv (a2.ok _ m2)
  have e5:=a2.front (.tl _ (.hd _))
  have e6:=e5.front (.tl _ (.hd _))
  have e7:=e6.closeStar
  have e8:=e7.front (.tl _ (.hd _))
  have e9:=e8.closeStar
  have f0:=e9.front (.tl _ (.hd _))
  have f1:dk.first.length=dk.emp.inputs.length:=by (try dsimp only); first | assumption | omega | (simp only [LA,LC,LN,LS]; omega) | (first | (intro f hf; cases hf) | (intro f hf; rcases LP.1 hf with hf | hf; exact ‹∀ f ∈ _,List.length (Fix.elements f)≤32› f hf; (rw [LM.1 hf]; dsimp only; omega)) | (intro i hi; rcases LP.1 hi with hi | hi; exact ‹∀ i ∈ _,List.length (Input.elements i)≤32› i hi; (rw [LM.1 hi]; exact ‹∀ i ∈ EmpS.inputs _,List.length (Input.elements i)≤32› _ (by assumption))) | (intro f hf; (have h9:=‹∀ f ∈ _,1≤Fix.period f∧Fix.period f≤_› f hf; (try simp only [LA,LC,LN]); omega)) | (intro f hf; rcases LP.1 hf with hf | hf; (have h9:=‹∀ f ∈ _,1≤Fix.period f∧Fix.period f≤_› f hf; (try simp only [LA,LC,LN]); omega); (rw [LM.1 hf]; dsimp only; omega)))
  have f2:dk.first.length≤53:=by (try dsimp only); first | assumption | omega | (simp only [LA,LC,LN,LS]; omega) | (first | (intro f hf; cases hf) | (intro f hf; rcases LP.1 hf with hf | hf; exact ‹∀ f ∈ _,List.length (Fix.elements f)≤32› f hf; (rw [LM.1 hf]; dsimp only; omega)) | (intro i hi; rcases LP.1 hi with hi | hi; exact ‹∀ i ∈ _,List.length (Input.elements i)≤32› i hi; (rw [LM.1 hi]; exact ‹∀ i ∈ EmpS.inputs _,List.length (Input.elements i)≤32› _ (by assumption))) | (intro f hf; (have h9:=‹∀ f ∈ _,1≤Fix.period f∧Fix.period f≤_› f hf; (try simp only [LA,LC,LN]); omega)) | (intro f hf; rcases LP.1 hf with hf | hf; (have h9:=‹∀ f ∈ _,1≤Fix.period f∧Fix.period f≤_› f hf; (try simp only [LA,LC,LN]); omega); (rw [LM.1 hf]; dsimp only; omega)))
  have f3:dk.fixes.length≤256:=by (try dsimp only); first | assumption | omega | (simp only [LA,LC,LN,LS]; omega) | (first | (intro f hf; cases hf) | (intro f hf; rcases LP.1 hf with hf | hf; exact ‹∀ f ∈ _,List.length (Fix.elements f)≤32› f hf; (rw [LM.1 hf]; dsimp only; omega)) | (intro i hi; rcases LP.1 hi with hi | hi; exact ‹∀ i ∈ _,List.length (Input.elements i)≤32› i hi; (rw [LM.1 hi]; exact ‹∀ i ∈ EmpS.inputs _,List.length (Input.elements i)≤32› _ (by assumption))) | (intro f hf; (have h9:=‹∀ f ∈ _,1≤Fix.period f∧Fix.period f≤_› f hf; (try simp only [LA,LC,LN]); omega)) | (intro f hf; rcases LP.1 hf with hf | hf; (have h9:=‹∀ f ∈ _,1≤Fix.period f∧Fix.period f≤_› f hf; (try simp only [LA,LC,LN]); omega); (rw [LM.1 hf]; dsimp only; omega)))
  have f4:∀ f ∈ dk.fixes,1≤f.period∧f.period≤(dk.first.length:Int):=by (try dsimp only); first | assumption | omega | (simp only [LA,LC,LN,LS]; omega) | (first | (intro f hf; cases hf) | (intro f hf; rcases LP.1 hf with hf | hf; exact ‹∀ f ∈ _,List.length (Fix.elements f)≤32› f hf; (rw [LM.1 hf]; dsimp only; omega)) | (intro i hi; rcases LP.1 hi with hi | hi; exact ‹∀ i ∈ _,List.length (Input.elements i)≤32› i hi; (rw [LM.1 hi]; exact ‹∀ i ∈ EmpS.inputs _,List.length (Input.elements i)≤32› _ (by assumption))) | (intro f hf; (have h9:=‹∀ f ∈ _,1≤Fix.period f∧Fix.period f≤_› f hf; (try simp only [LA,LC,LN]); omega)) | (intro f hf; rcases LP.1 hf with hf | hf; (have h9:=‹∀ f ∈ _,1≤Fix.period f∧Fix.period f≤_› f hf; (try simp only [LA,LC,LN]); omega); (rw [LM.1 hf]; dsimp only; omega)))
  have f5:∀ f ∈ dk.fixes,f.elements.length≤32:=by (try dsimp only); first | assumption | omega | (simp only [LA,LC,LN,LS]; omega) | (first | (intro f hf; cases hf) | (intro f hf; rcases LP.1 hf with hf | hf; exact ‹∀ f ∈ _,List.length (Fix.elements f)≤32› f hf; (rw [LM.1 hf]; dsimp only; omega)) | (intro i hi; rcases LP.1 hi with hi | hi; exact ‹∀ i ∈ _,List.length (Input.elements i)≤32› i hi; (rw [LM.1 hi]; exact ‹∀ i ∈ EmpS.inputs _,List.length (Input.elements i)≤32› _ (by assumption))) | (intro f hf; (have h9:=‹∀ f ∈ _,1≤Fix.period f∧Fix.period f≤_› f hf; (try simp only [LA,LC,LN]); omega)) | (intro f hf; rcases LP.1 hf with hf | hf; (have h9:=‹∀ f ∈ _,1≤Fix.period f∧Fix.period f≤_› f hf; (try simp only [LA,LC,LN]); omega); (rw [LM.1 hf]; dsimp only; omega)))
  have f6:∀ i ∈ dk.first,i.elements.length≤32:=by (try dsimp only); first | assumption | omega | (simp only [LA,LC,LN,LS]; omega) | (first | (intro f hf; cases hf) | (intro f hf; rcases LP.1 hf with hf | hf; exact ‹∀ f ∈ _,List.length (Fix.elements f)≤32› f hf; (rw [LM.1 hf]; dsimp only; omega)) | (intro i hi; rcases LP.1 hi with hi | hi; exact ‹∀ i ∈ _,List.length (Input.elements i)≤32› i hi; (rw [LM.1 hi]; exact ‹∀ i ∈ EmpS.inputs _,List.length (Input.elements i)≤32› _ (by assumption))) | (intro f hf; (have h9:=‹∀ f ∈ _,1≤Fix.period f∧Fix.period f≤_› f hf; (try simp only [LA,LC,LN]); omega)) | (intro f hf; rcases LP.1 hf with hf | hf; (have h9:=‹∀ f ∈ _,1≤Fix.period f∧Fix.period f≤_› f hf; (try simp only [LA,LC,LN]); omega); (rw [LM.1 hf]; dsimp only; omega)))
  have f7:=f0.closeObj (ty:=(deskTy dk_emp dk_fixesA dk_fixesc dk_firstA dk_firstc)) (x:=dk) ⟨rfl,f1,f2,f3,f4,f5,f6⟩
  have f8:=f7.closeStar
  have f9:Inv (deskR dk_r dk_emp dk_emp_posted dk_emp_orders dk_fixesA dk_fixesc dk_firstA dk_firstc dk).fp d w d (deskR dk_r dk_emp dk_emp_posted dk_emp_orders dk_fixesA dk_fixesc dk_firstA dk_firstc dk :: _) w:=f8
  refine c_seq (csr ((GM Y (g_y (y_nilCheck Z) Z Z (gfa fo_81_0 Z Z Z ?_)))))
  obtain ⟨q8,g0,g1⟩:=f9.openStar.openObj
  have g2:=(g0.front (.tl _ (.hd _))).openStar
  have a4:=(g2.front (.tl _ (.hd _))).openStar
  have g3:=row_len (a4.ok _ m0); unfold big at g3
  have g4:=row_len (a4.ok _ m1); unfold big at g4
  obtain ⟨q9,r0,r1,r2⟩:=empR_inv (a4.ok _ m2)
  obtain ⟨rfl,r3,r4,r5,r6,r7,r8⟩:=g1
  refine gld sh_30 Z a4 m3 (i:=0) Z Z Z (GM Y (GM Y ?_))
  have b7:=eReplace_c (p:=dk.emp) (p_r:=dk_emp) (p_posted:=dk_emp_posted) (p_orders:=dk_emp_orders) (k:=k) (list:=list) a4.lt (a4.ok _ m2) (a4.nod _ m2) h_list
  obtain ⟨a0,a8⟩:∃ r,eReplace dk.emp k list=r:=⟨_,rfl⟩
  rw [a8] at b7
  have h8r168:=eReplace_len (p:=dk.emp) (k:=k) (l:=list); rw [a8] at h8r168
  refine g_e (ev_call pf_75 Z b7) Z Z ?_
  rintro _ b1 ⟨b2,g5,g6,rfl,g7⟩
  obtain ⟨a7,g8⟩:=a4.turn (.tl _ (.tl _ (.hd _))) g5 g6 g7
  obtain ⟨r9,s0,s1,s2⟩:=empR_inv (a7.ok _ m2)
  refine GA Y (gnx ((csr ((GM Y (g_y (y_neq Z Z) Z Z (gnx ((c_cond Z (fun a5=>?_) (fun a5=>?_))))))))))
  ·replace a5:=OT a5
   refine csr ((GM Y (GA Y (gnx ((c_ret ?_))))))
   obtain ⟨s3,s4,s5,s6⟩:=empR_inv (a7.ok _ m2)
   have g9:=a7.front (.tl _ (.hd _))
   have h0:=g9.front (.tl _ (.hd _))
   have h1:=h0.closeStar
   have h2:=h1.front (.tl _ (.hd _))
   have h3:=h2.closeStar
   have h4:=h3.front (.tl _ (.hd _))
   have h5:((⟨a0.1,dk.fixes,dk.first⟩:DeskS)).first.length=((⟨a0.1,dk.fixes,dk.first⟩:DeskS)).emp.inputs.length:=by (try dsimp only); first | assumption | omega | (simp only [LA,LC,LN,LS]; omega) | (first | (intro f hf; cases hf) | (intro f hf; rcases LP.1 hf with hf | hf; exact ‹∀ f ∈ _,List.length (Fix.elements f)≤32› f hf; (rw [LM.1 hf]; dsimp only; omega)) | (intro i hi; rcases LP.1 hi with hi | hi; exact ‹∀ i ∈ _,List.length (Input.elements i)≤32› i hi; (rw [LM.1 hi]; exact ‹∀ i ∈ EmpS.inputs _,List.length (Input.elements i)≤32› _ (by assumption))) | (intro f hf; (have h9:=‹∀ f ∈ _,1≤Fix.period f∧Fix.period f≤_› f hf; (try simp only [LA,LC,LN]); omega)) | (intro f hf; rcases LP.1 hf with hf | hf; (have h9:=‹∀ f ∈ _,1≤Fix.period f∧Fix.period f≤_› f hf; (try simp only [LA,LC,LN]); omega); (rw [LM.1 hf]; dsimp only; omega)))
   have h6:((⟨a0.1,dk.fixes,dk.first⟩:DeskS)).first.length≤53:=by (try dsimp only); first | assumption | omega | (simp only [LA,LC,LN,LS]; omega) | (first | (intro f hf; cases hf) | (intro f hf; rcases LP.1 hf with hf | hf; exact ‹∀ f ∈ _,List.length (Fix.elements f)≤32› f hf; (rw [LM.1 hf]; dsimp only; omega)) | (intro i hi; rcases LP.1 hi with hi | hi; exact ‹∀ i ∈ _,List.length (Input.elements i)≤32› i hi; (rw [LM.1 hi]; exact ‹∀ i ∈ EmpS.inputs _,List.length (Input.elements i)≤32› _ (by assumption))) | (intro f hf; (have h9:=‹∀ f ∈ _,1≤Fix.period f∧Fix.period f≤_› f hf; (try simp only [LA,LC,LN]); omega)) | (intro f hf; rcases LP.1 hf with hf | hf; (have h9:=‹∀ f ∈ _,1≤Fix.period f∧Fix.period f≤_› f hf; (try simp only [LA,LC,LN]); omega); (rw [LM.1 hf]; dsimp only; omega)))
   have h7:((⟨a0.1,dk.fixes,dk.first⟩:DeskS)).fixes.length≤256:=by (try dsimp only); first | assumption | omega | (simp only [LA,LC,LN,LS]; omega) | (first | (intro f hf; cases hf) | (intro f hf; rcases LP.1 hf with hf | hf; exact ‹∀ f ∈ _,List.length (Fix.elements f)≤32› f hf; (rw [LM.1 hf]; dsimp only; omega)) | (intro i hi; rcases LP.1 hi with hi | hi; exact ‹∀ i ∈ _,List.length (Input.elements i)≤32› i hi; (rw [LM.1 hi]; exact ‹∀ i ∈ EmpS.inputs _,List.length (Input.elements i)≤32› _ (by assumption))) | (intro f hf; (have h9:=‹∀ f ∈ _,1≤Fix.period f∧Fix.period f≤_› f hf; (try simp only [LA,LC,LN]); omega)) | (intro f hf; rcases LP.1 hf with hf | hf; (have h9:=‹∀ f ∈ _,1≤Fix.period f∧Fix.period f≤_› f hf; (try simp only [LA,LC,LN]); omega); (rw [LM.1 hf]; dsimp only; omega)))
   have h8:∀ f ∈ ((⟨a0.1,dk.fixes,dk.first⟩:DeskS)).fixes,1≤f.period∧f.period≤(((⟨a0.1,dk.fixes,dk.first⟩:DeskS)).first.length:Int):=by (try dsimp only); first | assumption | omega | (simp only [LA,LC,LN,LS]; omega) | (first | (intro f hf; cases hf) | (intro f hf; rcases LP.1 hf with hf | hf; exact ‹∀ f ∈ _,List.length (Fix.elements f)≤32› f hf; (rw [LM.1 hf]; dsimp only; omega)) | (intro i hi; rcases LP.1 hi with hi | hi; exact ‹∀ i ∈ _,List.length (Input.elements i)≤32› i hi; (rw [LM.1 hi]; exact ‹∀ i ∈ EmpS.inputs _,List.length (Input.elements i)≤32› _ (by assumption))) | (intro f hf; (have h9:=‹∀ f ∈ _,1≤Fix.period f∧Fix.period f≤_› f hf; (try simp only [LA,LC,LN]); omega)) | (intro f hf; rcases LP.1 hf with hf | hf; (have h9:=‹∀ f ∈ _,1≤Fix.period f∧Fix.period f≤_› f hf; (try simp only [LA,LC,LN]); omega); (rw [LM.1 hf]; dsimp only; omega)))
   have i0:∀ f ∈ ((⟨a0.1,dk.fixes,dk.first⟩:DeskS)).fixes,f.elements.length≤32:=by (try dsimp only); first | assumption | omega | (simp only [LA,LC,LN,LS]; omega) | (first | (intro f hf; cases hf) | (intro f hf; rcases LP.1 hf with hf | hf; exact ‹∀ f ∈ _,List.length (Fix.elements f)≤32› f hf; (rw [LM.1 hf]; dsimp only; omega)) | (intro i hi; rcases LP.1 hi with hi | hi; exact ‹∀ i ∈ _,List.length (Input.elements i)≤32› i hi; (rw [LM.1 hi]; exact ‹∀ i ∈ EmpS.inputs _,List.length (Input.elements i)≤32› _ (by assumption))) | (intro f hf; (have h9:=‹∀ f ∈ _,1≤Fix.period f∧Fix.period f≤_› f hf; (try simp only [LA,LC,LN]); omega)) | (intro f hf; rcases LP.1 hf with hf | hf; (have h9:=‹∀ f ∈ _,1≤Fix.period f∧Fix.period f≤_› f hf; (try simp only [LA,LC,LN]); omega); (rw [LM.1 hf]; dsimp only; omega)))
   have i1:∀ i ∈ ((⟨a0.1,dk.fixes,dk.first⟩:DeskS)).first,i.elements.length≤32:=by (try dsimp only); first | assumption | omega | (simp only [LA,LC,LN,LS]; omega) | (first | (intro f hf; cases hf) | (intro f hf; rcases LP.1 hf with hf | hf; exact ‹∀ f ∈ _,List.length (Fix.elements f)≤32› f hf; (rw [LM.1 hf]; dsimp only; omega)) | (intro i hi; rcases LP.1 hi with hi | hi; exact ‹∀ i ∈ _,List.length (Input.elements i)≤32› i hi; (rw [LM.1 hi]; exact ‹∀ i ∈ EmpS.inputs _,List.length (Input.elements i)≤32› _ (by assumption))) | (intro f hf; (have h9:=‹∀ f ∈ _,1≤Fix.period f∧Fix.period f≤_› f hf; (try simp only [LA,LC,LN]); omega)) | (intro f hf; rcases LP.1 hf with hf | hf; (have h9:=‹∀ f ∈ _,1≤Fix.period f∧Fix.period f≤_› f hf; (try simp only [LA,LC,LN]); omega); (rw [LM.1 hf]; dsimp only; omega)))
   have i2:=h4.closeObj (ty:=(deskTy dk_emp dk_fixesA dk_fixesc dk_firstA dk_firstc)) (x:=(⟨a0.1,dk.fixes,dk.first⟩:DeskS)) ⟨rfl,h5,h6,h7,h8,i0,i1⟩
   have i3:=i2.closeStar
   have b3:Inv (deskR dk_r dk_emp dk_emp_posted dk_emp_orders dk_fixesA dk_fixesc dk_firstA dk_firstc dk).fp d w b2 (deskR dk_r dk_emp dk_emp_posted dk_emp_orders dk_fixesA dk_fixesc dk_firstA dk_firstc ((⟨a0.1,dk.fixes,dk.first⟩:DeskS)) :: _) b1:=i3
   have i4:dFix dk k list=((⟨a0.1,dk.fixes,dk.first⟩:DeskS),a0.2):=ET (IN a3) (ET (BE a8) (ET (IP a5) (rfl)))
   refine x_thenR (x_ret ⟨_,_,rfl,rfl,rfl⟩ ?_)
   exact ⟨_,_,rfl,b3.fr,b3.grow,by rw [i4]; exact ⟨_,_,rfl,b3.turned m0⟩⟩
  ·replace a5:=OF a5
   refine c_skip (x_next ?_)
   obtain ⟨s7,s8,s9,t0⟩:=empR_inv (a7.ok _ m2)
   have i5:=a7.front (.tl _ (.hd _))
   have i6:=i5.front (.tl _ (.hd _))
   have i7:=i6.closeStar
   have i8:=i7.front (.tl _ (.hd _))
   have i9:=i8.closeStar
   have j0:=i9.front (.tl _ (.hd _))
   have j1:((⟨a0.1,dk.fixes,dk.first⟩:DeskS)).first.length=((⟨a0.1,dk.fixes,dk.first⟩:DeskS)).emp.inputs.length:=by (try dsimp only); first | assumption | omega | (simp only [LA,LC,LN,LS]; omega) | (first | (intro f hf; cases hf) | (intro f hf; rcases LP.1 hf with hf | hf; exact ‹∀ f ∈ _,List.length (Fix.elements f)≤32› f hf; (rw [LM.1 hf]; dsimp only; omega)) | (intro i hi; rcases LP.1 hi with hi | hi; exact ‹∀ i ∈ _,List.length (Input.elements i)≤32› i hi; (rw [LM.1 hi]; exact ‹∀ i ∈ EmpS.inputs _,List.length (Input.elements i)≤32› _ (by assumption))) | (intro f hf; (have h9:=‹∀ f ∈ _,1≤Fix.period f∧Fix.period f≤_› f hf; (try simp only [LA,LC,LN]); omega)) | (intro f hf; rcases LP.1 hf with hf | hf; (have h9:=‹∀ f ∈ _,1≤Fix.period f∧Fix.period f≤_› f hf; (try simp only [LA,LC,LN]); omega); (rw [LM.1 hf]; dsimp only; omega)))
   have j2:((⟨a0.1,dk.fixes,dk.first⟩:DeskS)).first.length≤53:=by (try dsimp only); first | assumption | omega | (simp only [LA,LC,LN,LS]; omega) | (first | (intro f hf; cases hf) | (intro f hf; rcases LP.1 hf with hf | hf; exact ‹∀ f ∈ _,List.length (Fix.elements f)≤32› f hf; (rw [LM.1 hf]; dsimp only; omega)) | (intro i hi; rcases LP.1 hi with hi | hi; exact ‹∀ i ∈ _,List.length (Input.elements i)≤32› i hi; (rw [LM.1 hi]; exact ‹∀ i ∈ EmpS.inputs _,List.length (Input.elements i)≤32› _ (by assumption))) | (intro f hf; (have h9:=‹∀ f ∈ _,1≤Fix.period f∧Fix.period f≤_› f hf; (try simp only [LA,LC,LN]); omega)) | (intro f hf; rcases LP.1 hf with hf | hf; (have h9:=‹∀ f ∈ _,1≤Fix.period f∧Fix.period f≤_› f hf; (try simp only [LA,LC,LN]); omega); (rw [LM.1 hf]; dsimp only; omega)))
   have j3:((⟨a0.1,dk.fixes,dk.first⟩:DeskS)).fixes.length≤256:=by (try dsimp only); first | assumption | omega | (simp only [LA,LC,LN,LS]; omega) | (first | (intro f hf; cases hf) | (intro f hf; rcases LP.1 hf with hf | hf; exact ‹∀ f ∈ _,List.length (Fix.elements f)≤32› f hf; (rw [LM.1 hf]; dsimp only; omega)) | (intro i hi; rcases LP.1 hi with hi | hi; exact ‹∀ i ∈ _,List.length (Input.elements i)≤32› i hi; (rw [LM.1 hi]; exact ‹∀ i ∈ EmpS.inputs _,List.length (Input.elements i)≤32› _ (by assumption))) | (intro f hf; (have h9:=‹∀ f ∈ _,1≤Fix.period f∧Fix.period f≤_› f hf; (try simp only [LA,LC,LN]); omega)) | (intro f hf; rcases LP.1 hf with hf | hf; (have h9:=‹∀ f ∈ _,1≤Fix.period f∧Fix.period f≤_› f hf; (try simp only [LA,LC,LN]); omega); (rw [LM.1 hf]; dsimp only; omega)))
   have j4:∀ f ∈ ((⟨a0.1,dk.fixes,dk.first⟩:DeskS)).fixes,1≤f.period∧f.period≤(((⟨a0.1,dk.fixes,dk.first⟩:DeskS)).first.length:Int):=by (try dsimp only); first | assumption | omega | (simp only [LA,LC,LN,LS]; omega) | (first | (intro f hf; cases hf) | (intro f hf; rcases LP.1 hf with hf | hf; exact ‹∀ f ∈ _,List.length (Fix.elements f)≤32› f hf; (rw [LM.1 hf]; dsimp only; omega)) | (intro i hi; rcases LP.1 hi with hi | hi; exact ‹∀ i ∈ _,List.length (Input.elements i)≤32› i hi; (rw [LM.1 hi]; exact ‹∀ i ∈ EmpS.inputs _,List.length (Input.elements i)≤32› _ (by assumption))) | (intro f hf; (have h9:=‹∀ f ∈ _,1≤Fix.period f∧Fix.period f≤_› f hf; (try simp only [LA,LC,LN]); omega)) | (intro f hf; rcases LP.1 hf with hf | hf; (have h9:=‹∀ f ∈ _,1≤Fix.period f∧Fix.period f≤_› f hf; (try simp only [LA,LC,LN]); omega); (rw [LM.1 hf]; dsimp only; omega)))
   have j5:∀ f ∈ ((⟨a0.1,dk.fixes,dk.first⟩:DeskS)).fixes,f.elements.length≤32:=by (try dsimp only); first | assumption | omega | (simp only [LA,LC,LN,LS]; omega) | (first | (intro f hf; cases hf) | (intro f hf; rcases LP.1 hf with hf | hf; exact ‹∀ f ∈ _,List.length (Fix.elements f)≤32› f hf; (rw [LM.1 hf]; dsimp only; omega)) | (intro i hi; rcases LP.1 hi with hi | hi; exact ‹∀ i ∈ _,List.length (Input.elements i)≤32› i hi; (rw [LM.1 hi]; exact ‹∀ i ∈ EmpS.inputs _,List.length (Input.elements i)≤32› _ (by assumption))) | (intro f hf; (have h9:=‹∀ f ∈ _,1≤Fix.period f∧Fix.period f≤_› f hf; (try simp only [LA,LC,LN]); omega)) | (intro f hf; rcases LP.1 hf with hf | hf; (have h9:=‹∀ f ∈ _,1≤Fix.period f∧Fix.period f≤_› f hf; (try simp only [LA,LC,LN]); omega); (rw [LM.1 hf]; dsimp only; omega)))
   have j6:∀ i ∈ ((⟨a0.1,dk.fixes,dk.first⟩:DeskS)).first,i.elements.length≤32:=by (try dsimp only); first | assumption | omega | (simp only [LA,LC,LN,LS]; omega) | (first | (intro f hf; cases hf) | (intro f hf; rcases LP.1 hf with hf | hf; exact ‹∀ f ∈ _,List.length (Fix.elements f)≤32› f hf; (rw [LM.1 hf]; dsimp only; omega)) | (intro i hi; rcases LP.1 hi with hi | hi; exact ‹∀ i ∈ _,List.length (Input.elements i)≤32› i hi; (rw [LM.1 hi]; exact ‹∀ i ∈ EmpS.inputs _,List.length (Input.elements i)≤32› _ (by assumption))) | (intro f hf; (have h9:=‹∀ f ∈ _,1≤Fix.period f∧Fix.period f≤_› f hf; (try simp only [LA,LC,LN]); omega)) | (intro f hf; rcases LP.1 hf with hf | hf; (have h9:=‹∀ f ∈ _,1≤Fix.period f∧Fix.period f≤_› f hf; (try simp only [LA,LC,LN]); omega); (rw [LM.1 hf]; dsimp only; omega)))
   have j7:=j0.closeObj (ty:=(deskTy dk_emp dk_fixesA dk_fixesc dk_firstA dk_firstc)) (x:=(⟨a0.1,dk.fixes,dk.first⟩:DeskS)) ⟨rfl,j1,j2,j3,j4,j5,j6⟩
   have j8:=j7.closeStar
   have j9:Inv (deskR dk_r dk_emp dk_emp_posted dk_emp_orders dk_fixesA dk_fixesc dk_firstA dk_firstc dk).fp d w b2 (deskR dk_r dk_emp dk_emp_posted dk_emp_orders dk_fixesA dk_fixesc dk_firstA dk_firstc ((⟨a0.1,dk.fixes,dk.first⟩:DeskS)) :: _) b1:=j8
   refine c_seq ?_
   obtain ⟨t1,k0,k1⟩:=j9.openStar.openObj
   have k2:=(k0.front (.tl _ (.hd _))).openStar
   have a9:=(k2.front (.tl _ (.hd _))).openStar
   have k3:=row_len (a9.ok _ m0); unfold big at k3
   have k4:=row_len (a9.ok _ m1); unfold big at k4
   obtain ⟨t2,t3,t4,t5⟩:=empR_inv (a9.ok _ m2)
   obtain ⟨rfl,k5,k6,k7,k8,k9,l0⟩:=k1
   dsimp only at k5 k6 k7 k8 k9 l0
   have b4:=a9.drew; have l1:=Le.drew b2 b1
   refine c_drawK 16 follows_mixed (b4.drop (.hd _)) (k_y 0 (by kernel_rfl) Z Z Z (fun _ _=>(y_move Z)) (k_y 1 (by kernel_rfl) Z Z Z (fun _ _=>(y_move Z)) (k_y 2 (by kernel_rfl) Z Z Z (fun _ _=>(y_nilCheck Z)) (k_y 3 (by kernel_rfl) Z Z Z (fun _ _=>(y_fieldAddr fo_81_1 Z)) (k_y 4 (by kernel_rfl) Z Z Z (fun t6 ⟨t7,l2,t8⟩=>(y_load1 sh_78 Z ((blk_cells l2 m2).nth_ (i:=1) Z))) (k_y 5 (by kernel_rfl) Z Z Z (fun _ _=>(y_move Z)) (k_y 6 (by kernel_rfl) Z Z Z (fun _ _=>(y_move Z)) (k_y 8 (by kernel_rfl) Z Z Z (fun _ _=>(y_move Z)) (k_y 9 (by kernel_rfl) Z Z Z (fun _ _=>(y_nilCheck Z)) (k_y 10 (by kernel_rfl) Z Z Z (fun _ _=>(y_fieldAddr fo_81_2 Z)) (k_y 11 (by kernel_rfl) Z Z Z (fun t9 ⟨u0,l3,u1⟩=>(y_load1 sh_79 Z ((blk_cells l3 m2).nth_ (i:=2) Z))) (k_y 12 (by kernel_rfl) Z Z Z (fun _ _=>(y_lenS (by rw [el_79]; rfl) Z)) (k_all (is:=[7]) (by kernel_rfl) (by simp) (.cons ?_ .nil))))))))))))))
   have b8:=clElem_c (s:=list) b4.lt (h_list.mono (g8.t l1))
   obtain ⟨a1,b5⟩:∃ r,clElem list=r:=⟨_,rfl⟩
   rw [b5] at b8
   have h8r514:a1.length=list.length:=by rw [← b5,clElem_eq]
   refine k_op Z Z Z (ev_row b4 pf_136 Z b8) ?_
   rintro _ u2 ⟨u3,l4,l5,rfl,a6,l6⟩
   have l7:=row_len (a6.ok _ m0); unfold big at l7
   refine k_next ((a6.drop (.hd _)).drop (.hd _)) l6 (k_y 13 (by kernel_rfl) Z Z Z (fun _ _=>(y_build ze_156 pl_156 (.cons Z Z Z Z (.here _ _ (.nil _)) (ble Z) (.cons Z Z Z Z (.next _ (.here _ _ (.nil _))) (ble Z) (.cons Z Z Z Z (.next _ (.next _ (.here _ _ (.nil _)))) (ble Z) (.nil _)))))) (k_all (is:=[14]) (by kernel_rfl) (by simp) (.cons ?_ .nil)))
   obtain ⟨u4,l8,l9,m6⟩:=pub_row a6 (.hd _) (notM_app (a6.apart2 (.hd _) m3 rfl) (notM_app (a6.apart2 (.hd _) m2 rfl) (notM_app (a6.apart2 (.hd _) m0 rfl) (a6.apart2 (.hd _) m1 rfl))))
   refine k_op Z Z Z (ev_buildSl (T:=fixTy) (xs:=[(⟨k,a1,(dk.first.length:Int)⟩:Fix)]) l8 el_78 ze_156 Z Z (ble Z) (ble Z) (.cons Z Z Z Z (.here _ _ (.here _ _ (.here _ _ (.nil _)))) (ble Z) (.nil _)) (.cons (x:=(⟨k,a1,(dk.first.length:Int)⟩:Fix)) (cs:=[.int .i64 k,.slice l4 (a1).length l5,.int .i64 (dk.first.length:Int)]) ⟨_,rfl,m6⟩ .nil)) ?_
   rintro _ u5 ⟨m7,b9,m8,m9,u6,rfl⟩
   refine k_next (b9.drop (.hd _)) (l9.t m8) (k_all (is:=[15]) (by kernel_rfl) (by simp) (.cons ?_ .nil))
   refine k_op Z Z Z (ev_append b9 ei_78 Z Z m0 m9 (by simp only [LA,LC,LN,big] at *; omega) (by simp only [LA,LC,LN,big] at *; omega)) ?_
   rintro _ u7 ⟨n0,n1,c0,c1,rfl⟩
   have c3:=n0 _ (.hd _)
   refine k_next (c3.drop (.hd _)) n1 (k_all (is:=[16]) (by kernel_rfl) (by simp) (.cons ?_ .nil))
   refine k_op Z Z Z (Ev.of_y2 (y_nilCheck Z)) ?_
   rintro _ _ ⟨rfl,rfl⟩
   refine k_bar (b_all (i:=17) (by kernel_rfl) (by kernel_rfl) (k_op Z Z Z (Ev.of_y2 (y_fieldAddr fo_81_1 Z)) ?_))
   rintro _ _ ⟨rfl,rfl⟩
   refine k_bar (b_all (i:=18) (by kernel_rfl) (by kernel_rfl) (k_op Z Z Z (ev_store c3 Z Z Z sz_78 Z (.next _ (.here _ _ (.nil _))) (.tl _ (.tl _ (.tl _ (.hd _))))) ?_))
   rintro _ n2 ⟨c4,u8⟩
   refine k_bar (b_done (by kernel_rfl) (x_draw ?_) (by kernel_rfl))
   refine x_next (csr ((GA Y (gnx ((c_ret ?_))))))
   obtain ⟨u9,v0,v1,v2⟩:=empR_inv (c4.ok _ m2)
   have n3:=c4.front (.tl _ (.hd _))
   have n4:=n3.front (.tl _ (.hd _))
   have n5:=n4.closeStar
   have n6:=n5.front (.tl _ (.hd _))
   have n7:=n6.closeStar
   have n8:=n7.front (.tl _ (.hd _))
   have n9:((⟨a0.1,(dk.fixes ++ [(⟨k,a1,(dk.first.length:Int)⟩:Fix)]),dk.first⟩:DeskS)).first.length=((⟨a0.1,(dk.fixes ++ [(⟨k,a1,(dk.first.length:Int)⟩:Fix)]),dk.first⟩:DeskS)).emp.inputs.length:=by (try dsimp only); first | assumption | omega | (simp only [LA,LC,LN,LS]; omega) | (first | (intro f hf; cases hf) | (intro f hf; rcases LP.1 hf with hf | hf; exact ‹∀ f ∈ _,List.length (Fix.elements f)≤32› f hf; (rw [LM.1 hf]; dsimp only; omega)) | (intro i hi; rcases LP.1 hi with hi | hi; exact ‹∀ i ∈ _,List.length (Input.elements i)≤32› i hi; (rw [LM.1 hi]; exact ‹∀ i ∈ EmpS.inputs _,List.length (Input.elements i)≤32› _ (by assumption))) | (intro f hf; (have h9:=‹∀ f ∈ _,1≤Fix.period f∧Fix.period f≤_› f hf; (try simp only [LA,LC,LN]); omega)) | (intro f hf; rcases LP.1 hf with hf | hf; (have h9:=‹∀ f ∈ _,1≤Fix.period f∧Fix.period f≤_› f hf; (try simp only [LA,LC,LN]); omega); (rw [LM.1 hf]; dsimp only; omega)))
   have o0:((⟨a0.1,(dk.fixes ++ [(⟨k,a1,(dk.first.length:Int)⟩:Fix)]),dk.first⟩:DeskS)).first.length≤53:=by (try dsimp only); first | assumption | omega | (simp only [LA,LC,LN,LS]; omega) | (first | (intro f hf; cases hf) | (intro f hf; rcases LP.1 hf with hf | hf; exact ‹∀ f ∈ _,List.length (Fix.elements f)≤32› f hf; (rw [LM.1 hf]; dsimp only; omega)) | (intro i hi; rcases LP.1 hi with hi | hi; exact ‹∀ i ∈ _,List.length (Input.elements i)≤32› i hi; (rw [LM.1 hi]; exact ‹∀ i ∈ EmpS.inputs _,List.length (Input.elements i)≤32› _ (by assumption))) | (intro f hf; (have h9:=‹∀ f ∈ _,1≤Fix.period f∧Fix.period f≤_› f hf; (try simp only [LA,LC,LN]); omega)) | (intro f hf; rcases LP.1 hf with hf | hf; (have h9:=‹∀ f ∈ _,1≤Fix.period f∧Fix.period f≤_› f hf; (try simp only [LA,LC,LN]); omega); (rw [LM.1 hf]; dsimp only; omega)))
   have o1:((⟨a0.1,(dk.fixes ++ [(⟨k,a1,(dk.first.length:Int)⟩:Fix)]),dk.first⟩:DeskS)).fixes.length≤256:=by (try dsimp only); first | assumption | omega | (simp only [LA,LC,LN,LS]; omega) | (first | (intro f hf; cases hf) | (intro f hf; rcases LP.1 hf with hf | hf; exact ‹∀ f ∈ _,List.length (Fix.elements f)≤32› f hf; (rw [LM.1 hf]; dsimp only; omega)) | (intro i hi; rcases LP.1 hi with hi | hi; exact ‹∀ i ∈ _,List.length (Input.elements i)≤32› i hi; (rw [LM.1 hi]; exact ‹∀ i ∈ EmpS.inputs _,List.length (Input.elements i)≤32› _ (by assumption))) | (intro f hf; (have h9:=‹∀ f ∈ _,1≤Fix.period f∧Fix.period f≤_› f hf; (try simp only [LA,LC,LN]); omega)) | (intro f hf; rcases LP.1 hf with hf | hf; (have h9:=‹∀ f ∈ _,1≤Fix.period f∧Fix.period f≤_› f hf; (try simp only [LA,LC,LN]); omega); (rw [LM.1 hf]; dsimp only; omega)))
   have o2:∀ f ∈ ((⟨a0.1,(dk.fixes ++ [(⟨k,a1,(dk.first.length:Int)⟩:Fix)]),dk.first⟩:DeskS)).fixes,1≤f.period∧f.period≤(((⟨a0.1,(dk.fixes ++ [(⟨k,a1,(dk.first.length:Int)⟩:Fix)]),dk.first⟩:DeskS)).first.length:Int):=by (try dsimp only); first | assumption | omega | (simp only [LA,LC,LN,LS]; omega) | (first | (intro f hf; cases hf) | (intro f hf; rcases LP.1 hf with hf | hf; exact ‹∀ f ∈ _,List.length (Fix.elements f)≤32› f hf; (rw [LM.1 hf]; dsimp only; omega)) | (intro i hi; rcases LP.1 hi with hi | hi; exact ‹∀ i ∈ _,List.length (Input.elements i)≤32› i hi; (rw [LM.1 hi]; exact ‹∀ i ∈ EmpS.inputs _,List.length (Input.elements i)≤32› _ (by assumption))) | (intro f hf; (have h9:=‹∀ f ∈ _,1≤Fix.period f∧Fix.period f≤_› f hf; (try simp only [LA,LC,LN]); omega)) | (intro f hf; rcases LP.1 hf with hf | hf; (have h9:=‹∀ f ∈ _,1≤Fix.period f∧Fix.period f≤_› f hf; (try simp only [LA,LC,LN]); omega); (rw [LM.1 hf]; dsimp only; omega)))
   have o3:∀ f ∈ ((⟨a0.1,(dk.fixes ++ [(⟨k,a1,(dk.first.length:Int)⟩:Fix)]),dk.first⟩:DeskS)).fixes,f.elements.length≤32:=by (try dsimp only); first | assumption | omega | (simp only [LA,LC,LN,LS]; omega) | (first | (intro f hf; cases hf) | (intro f hf; rcases LP.1 hf with hf | hf; exact ‹∀ f ∈ _,List.length (Fix.elements f)≤32› f hf; (rw [LM.1 hf]; dsimp only; omega)) | (intro i hi; rcases LP.1 hi with hi | hi; exact ‹∀ i ∈ _,List.length (Input.elements i)≤32› i hi; (rw [LM.1 hi]; exact ‹∀ i ∈ EmpS.inputs _,List.length (Input.elements i)≤32› _ (by assumption))) | (intro f hf; (have h9:=‹∀ f ∈ _,1≤Fix.period f∧Fix.period f≤_› f hf; (try simp only [LA,LC,LN]); omega)) | (intro f hf; rcases LP.1 hf with hf | hf; (have h9:=‹∀ f ∈ _,1≤Fix.period f∧Fix.period f≤_› f hf; (try simp only [LA,LC,LN]); omega); (rw [LM.1 hf]; dsimp only; omega)))
   have o4:∀ i ∈ ((⟨a0.1,(dk.fixes ++ [(⟨k,a1,(dk.first.length:Int)⟩:Fix)]),dk.first⟩:DeskS)).first,i.elements.length≤32:=by (try dsimp only); first | assumption | omega | (simp only [LA,LC,LN,LS]; omega) | (first | (intro f hf; cases hf) | (intro f hf; rcases LP.1 hf with hf | hf; exact ‹∀ f ∈ _,List.length (Fix.elements f)≤32› f hf; (rw [LM.1 hf]; dsimp only; omega)) | (intro i hi; rcases LP.1 hi with hi | hi; exact ‹∀ i ∈ _,List.length (Input.elements i)≤32› i hi; (rw [LM.1 hi]; exact ‹∀ i ∈ EmpS.inputs _,List.length (Input.elements i)≤32› _ (by assumption))) | (intro f hf; (have h9:=‹∀ f ∈ _,1≤Fix.period f∧Fix.period f≤_› f hf; (try simp only [LA,LC,LN]); omega)) | (intro f hf; rcases LP.1 hf with hf | hf; (have h9:=‹∀ f ∈ _,1≤Fix.period f∧Fix.period f≤_› f hf; (try simp only [LA,LC,LN]); omega); (rw [LM.1 hf]; dsimp only; omega)))
   have o5:=n8.closeObj (ty:=(deskTy dk_emp c0 c1 dk_firstA dk_firstc)) (x:=(⟨a0.1,(dk.fixes ++ [(⟨k,a1,(dk.first.length:Int)⟩:Fix)]),dk.first⟩:DeskS)) ⟨rfl,n9,o0,o1,o2,o3,o4⟩
   have o6:=o5.closeStar
   have b6:Inv (deskR dk_r dk_emp dk_emp_posted dk_emp_orders dk_fixesA dk_fixesc dk_firstA dk_firstc dk).fp d w m7 (deskR dk_r dk_emp dk_emp_posted dk_emp_orders c0 c1 dk_firstA dk_firstc ((⟨a0.1,(dk.fixes ++ [(⟨k,a1,(dk.first.length:Int)⟩:Fix)]),dk.first⟩:DeskS)) :: _) n2:=o6
   have o7:dFix dk k list=((⟨a0.1,(dk.fixes ++ [(⟨k,a1,(dk.first.length:Int)⟩:Fix)]),dk.first⟩:DeskS),0):=ET (IN a3) (ET (BE a8) (ET (IN a5) (ET (BE b5) (rfl))))
   refine x_ret ⟨_,_,rfl,rfl,rfl⟩ (⟨_,_,rfl,b6.fr,b6.grow,by rw [o7]; exact ⟨_,_,rfl,b6.turned m0⟩⟩)
def dAs_m1 (p:Int) (a1:List Input) (a0:Fix):List Input:=
 (if (a0.at_ < p) then (if (a0.period≤p) then (bnd (clElem a0.elements) fun a2=>
 (opt (a1)[((a0.period - 1)).toNat]? fun a3=>
 (a1.set (((a0.period - 1)).toNat) ((⟨a3.code,a2⟩:Input)))))
 else a1)
 else a1)
def dAs_l1 (p:Int):List Fix→Nat→(List Input)→List Input
 | [],a1,a0=>a0
 | a2 :: tl1,a1,a0=>(bnd (dAs_m1 p a0 a2) fun a3=>
 (dAs_l1 p tl1 (a1 + 1) a3))
def dAs (dk:DeskS) (p:Int):(List Input) × Int:=
 (if (p < 0) then (([]:List Input),230)
 else (if ((dk.first.length:Int) < p) then (([]:List Input),230)
 else (bnd (reCopied ((dk.first.take p.toNat))) fun a0=>
 (bnd (dAs_l1 p dk.fixes 0 a0) fun a1=>
 (a1,0)))))
theorem dAs_c {dk:DeskS} {dk_r:Nat} {dk_emp:Nat} {dk_emp_posted:Nat} {dk_emp_orders:Nat} {dk_fixesA:Option Addr} {dk_fixesc:Nat} {dk_firstA:Option Addr} {dk_firstc:Nat} {p:Int} {d:Dat} {w:World} (hd:∀ b,d b→b < w.heap.size) (h_dk:(deskR dk_r dk_emp dk_emp_posted dk_emp_orders dk_fixesA dk_fixesc dk_firstA dk_firstc dk).ok d w):Ret Tryz.prog 46 [.pointer (some ⟨dk_r,0,none⟩),.int .i64 p] w [] d (fun u d' w'=>∃ (v0:Value),u=.tuple #[v0,.int .i64 ((dAs dk p).2)]∧Sl inputTy d' w' v0 (dAs dk p).1):=by
 refine ret_enter (n:=57) Tryz.func46 Z Z (ble Z) ?_
 have hI0:=Inv.start hd
 refine csr ((GA Y (GA Y (gnx ((c_seq (csr ((GM Y (g_y (y_lss Z Z) Z Z (GM Y (g_split (t:=11) Z (fun a6=>?_) (fun a6=>?_)))))))))))))
 ·replace a6:=OT a6
  refine gsk Z Z (gsk Z Z (gsk Z Z (gsk Z Z (gsk Z Z (gsk Z Z (gsk Z Z (g_y (y_pickT Z Z) Z Z (gnx ((c_condT Z (csr ((GA Y ?_)))))))))))))
  refine GA Y (gnx ((c_ret ?_)))
  have f0:dAs dk p=(([]:List Input),230):=ET (IP a6) (rfl)
  refine x_thenR (x_ret ⟨_,_,rfl,rfl,⟨_,_,rfl,rfl,rfl⟩⟩ ?_)
  exact ⟨_,_,rfl,hI0.fr,hI0.grow,by rw [f0]; exact ⟨_,rfl,(Sl.nil_ _ _ _ none 0)⟩⟩
 ·replace a6:=OF a6
  refine GM Y (GM Y (g_y (y_nilCheck Z) Z Z (gfa fo_81_2 Z Z Z ?_)))
  obtain ⟨j5,c5,f1⟩:=obj_kp (M:=[]) (star_ok1 h_dk) (by simp)
  have j6:(empR dk_emp dk_emp_posted dk_emp_orders dk.emp).ok d w:=(star_ok1 (star_ok2 h_dk))
  have d7:(row fixTy 156 (.slice dk_fixesA dk.fixes.length dk_fixesc) dk.fixes).ok d w:=(star_ok1 (star_ok2 (star_ok2 h_dk)))
  have f2:=row_len d7; unfold big at f2
  have c6:(row inputTy 112 (.slice dk_firstA dk.first.length dk_firstc) dk.first).ok d w:=(star_ok2 (star_ok2 (star_ok2 h_dk)))
  have f3:=row_len c6; unfold big at f3
  obtain ⟨rfl,j7,j8,j9,k0,k1,k2⟩:=f1
  refine g_y (y_load1 sh_79 Z ((c5.at_ hI0).nth_ (i:=2) Z)) Z Z (gln el_79 Z Z Z (g_y (y_gtr Z Z) Z Z (g_y (y_pickF Z Z) Z Z (gnx ((c_cond Z (fun a8=>?_) (fun a8=>?_)))))))
  ·replace a8:=OT a8
   refine csr ((GA Y (GA Y (gnx ((c_ret ?_))))))
   have f4:dAs dk p=(([]:List Input),230):=ET (IN a6) (ET (IP a8) (rfl))
   refine x_thenR (x_ret ⟨_,_,rfl,rfl,⟨_,_,rfl,rfl,rfl⟩⟩ ?_)
   exact ⟨_,_,rfl,hI0.fr,hI0.grow,by rw [f4]; exact ⟨_,rfl,(Sl.nil_ _ _ _ none 0)⟩⟩
  ·replace a8:=OF a8
   refine c_skip (x_next (csr ((GM Y (g_y (y_nilCheck Z) Z Z (gfa fo_81_2 Z Z Z (g_y (y_load1 sh_79 Z ((c5.at_ hI0).nth_ (i:=2) Z)) Z Z (GM Y ?_))))))))
   have f5:(dk.first.take p.toNat).length=p.toNat:=by rw [List.length_take]; omega
   have k3:=row_cap c6
   have f6:=row_take (i:=p.toNat) c6 (by omega)
   refine g_y (y_slice_toL (i:=p.toNat) el_79 Z Z ((Int.toNat_of_nonneg (by omega)).symm) (by omega) f5) Z Z ?_
   have d8:=reCopied_c (list:=(dk.first.take p.toNat)) hI0.lt f6
   obtain ⟨a1,c7⟩:∃ r,reCopied ((dk.first.take p.toNat))=r:=⟨_,rfl⟩
   rw [c7] at d8
   have h8r39:a1.length=((dk.first.take p.toNat)).length:=by rw [← c7,reCopied_eq]
   refine g_e (ev_row hI0 pf_135 Z d8) Z Z ?_
   rintro _ d9 ⟨c8,b0,b1,rfl,c9,f7⟩
   have f8:=row_len (c9.ok _ m0); unfold big at f8
   refine GA Y (gnx ((c_seq (csr ((GM Y (g_y (y_nilCheck Z) Z Z (gfa fo_81_1 Z Z Z (g_y (y_load1 sh_78 Z ((c5.at_ c9).nth_ (i:=1) Z)) Z Z (gln el_78 Z Z Z (GM Y (gnx (?_)))))))))))))
   refine c_cut1 (ι:=List Input × Dat) (fun ⟨b2,b8⟩=>[(6,.slice b0 a1.length b1)]) (fun ⟨b2,b8⟩ d0=>Inv [] d w b8 [row inputTy 112 (.slice b0 a1.length b1) (b2)] d0∧Le c8 d9 b8 d0∧dAs_l1 p dk.fixes 0 a1=b2∧b2.length=a1.length) ?_ ?_
   ·refine c_block (c_loop (ι:=List Input × Nat × Dat) (fun ⟨a0,a2,a4⟩=>[(1,.int .i64 p),(6,.slice b0 a1.length b1),(30,.slice dk_fixesA dk.fixes.length dk_fixesc),(31,.int .i64 (dk.fixes.length:Int)),(32,.int .i64 (a2:Int))]) (fun ⟨a0,a2,a4⟩ b9=>Inv [] d w a4 [row inputTy 112 (.slice b0 a1.length b1) (a0)] b9∧Le c8 d9 a4 b9∧dAs_l1 p dk.fixes 0 a1=dAs_l1 p (dk.fixes.drop a2) a2 a0∧a2≤dk.fixes.length∧a0.length=a1.length) (fun ⟨a0,a2,a4⟩=>dk.fixes.length - a2) (a1,0,c8) (.cons Z (.cons Z (.cons Z (.cons Z (.cons Z (.nil _)))))) ⟨c9,Le.refl _ _,rfl,Nat.zero_le _,by omega⟩ ?_)
    rintro ⟨a0,a2,a4⟩ b9 ⟨c0,d1,e0,k4,k5⟩
    have f9:=row_len (c0.ok _ m0); unfold big at f9
    refine csr ((g_y (y_lss Z Z) Z Z (gnx ((c_seq (c_cond Z (fun b4=>?_) (fun b4=>?_)))))))
    ·replace b4:=OT b4
     obtain ⟨a3,d2⟩:=has (xs:=dk.fixes) (k:=a2) (by omega)
     try have k6:=‹∀ f ∈ _,1≤Fix.period f∧Fix.period f≤_› a3 (List.mem_of_getElem? d2)
     refine c_skip (x_next (c_cut (ι:=List Input × Dat) (fun ⟨b3,b5⟩=>[(1,.int .i64 p),(6,.slice b0 a1.length b1),(30,.slice dk_fixesA dk.fixes.length dk_fixesc),(31,.int .i64 (dk.fixes.length:Int)),(32,.int .i64 (a2:Int))]) (fun ⟨b3,b5⟩ d3=>Inv [] d w b5 [row inputTy 112 (.slice b0 a1.length b1) (b3)] d3∧Le a4 b9 b5 d3∧dAs_m1 p a0 a3=b3∧b3.length=a1.length) ?_ ?_))
     ·refine c_block (csr (?_))
      obtain ⟨k7,k8,g0,g1,g2⟩:=row_at0 (Res.keepB _ d7 (f7.t d1) c0 (by simp)) d2
      obtain ⟨k9,rfl,e1⟩:=g1
      obtain ⟨g3,g4,rfl,l0,l1⟩:=e1.fm
      refine g_y (y_indexAddr (i:=a2) el_78 Z g0 Z (rfl) (by omega)) Z Z (g_y (y_loadA (cs:=[.int .i64 a3.period,.slice g3 (a3.elements).length g4,.int .i64 a3.at_]) sh_156 Z (g2.part (f:=0) (.take _ (.take _ (.take _ (.nil _)))))) Z Z (g_e (ev_alloc c0 ze_156) Z Z ?_))
      rintro _ l2 ⟨l3,rfl,g5,c1⟩
      refine g_e (ev_store g5 Z Z Z sz_156 Z (.here _ _ (.here _ _ (.here _ _ (.nil _)))) (.hd _)) Z Z ?_
      rintro _ g6 ⟨b6,c2⟩
      refine gnx ((csr ((gfa fo_156_2 Z Z Z (gld sh_3 Z b6 m0 (i:=2) Z Z Z (GM Y (g_y (y_lss Z Z) Z Z (GM Y (g_split (t:=40) Z (fun a7=>?_) (fun a7=>?_))))))))))
      ·replace a7:=OT a7
       refine gfa fo_156_0 Z Z Z (gld sh_3 Z b6 m0 (i:=0) Z Z Z (GM Y (g_y (y_leq Z Z) Z Z (g_y (y_pickT Z Z) Z Z (gnx ((c_cond Z (fun a9=>?_) (fun a9=>?_))))))))
       ·replace a9:=OT a9
        have d4:=b6.drew; have e2:=Le.drew a4 g6
        refine c_drawK 7 follows_mixed d4 (k_y 0 (by kernel_rfl) Z Z Z (fun _ _=>(y_move Z)) (k_y 1 (by kernel_rfl) Z Z Z (fun _ _=>(y_fieldAddr fo_156_0 Z)) (k_y 2 (by kernel_rfl) Z Z Z (fun l4 ⟨l5,g7,l6⟩=>(y_load1 sh_3 Z ((blk_cells g7 m0).nth_ (i:=0) Z))) (k_y 3 (by kernel_rfl) Z Z Z (fun _ _=>(y_sub Z Z (by omega))) (k_y 4 (by kernel_rfl) Z Z Z (fun _ _=>(y_fieldAddr fo_156_1 Z)) (k_y 5 (by kernel_rfl) Z Z Z (fun l7 ⟨l8,g8,l9⟩=>(y_load1 sh_43 Z ((blk_cells g8 m0).nth_ (i:=1) Z))) (k_all (is:=[6]) (by kernel_rfl) (by simp) (.cons ?_ .nil))))))))
        have e3:=clElem_c (s:=a3.elements) d4.lt (e1.mono ((c1.t c2).t e2))
        obtain ⟨c3,d5⟩:∃ r,clElem a3.elements=r:=⟨_,rfl⟩
        rw [d5] at e3
        have h8r433:c3.length=a3.elements.length:=by rw [← d5,clElem_eq]
        refine k_op Z Z Z (ev_row d4 pf_136 Z e3) ?_
        rintro _ m6 ⟨m7,m8,m9,rfl,c4,e4⟩
        have g9:=row_len (c4.ok _ m0); unfold big at g9
        refine k_next (c4.drop (.hd _)) e4 (k_all (is:=[7]) (by kernel_rfl) (by simp) (.cons ?_ .nil))
        obtain ⟨a5,b7⟩:=has (xs:=a0) (k:=((a3.period - 1)).toNat) (by omega)
        try have n0:=‹∀ f ∈ _,1≤Fix.period f∧Fix.period f≤_› a5 (List.mem_of_getElem? b7)
        obtain ⟨h0,n1,d6,h1,n2⟩:=row_at0 (c4.ok _ m2) b7
        obtain ⟨n3,rfl,h2⟩:=h1
        obtain ⟨n4,n5,rfl,n6,n7⟩:=h2.fm
        refine k_op Z Z Z (Ev.of_y2 (y_indexAddr (i:=((a3.period - 1)).toNat) el_79 Z d6 Z ((Int.toNat_of_nonneg (by omega)).symm) (by omega))) ?_
        rintro _ _ ⟨rfl,rfl⟩
        refine k_bar (b_all (i:=8) (by kernel_rfl) (by kernel_rfl) (k_op Z Z Z (Ev.of_y2 (y_fieldAddr fo_112_1 Z)) ?_))
        rintro _ _ ⟨rfl,rfl⟩
        refine k_bar (b_all (i:=9) (by kernel_rfl) (by kernel_rfl) ?_)
        obtain ⟨h3,e5,h4,h5⟩:=pub_row c4 (.hd _) (by simp)
        obtain ⟨h6,n8,e6,h7,h8⟩:=row_at0 (e5.ok _ m1) b7
        have h9:h6=h0:=by rw [d6] at e6; cases e6; rfl
        subst h9
        obtain ⟨n9,rfl,i0⟩:=h7
        obtain ⟨i1,i2,rfl,o0,o1⟩:=i0.fm
        refine k_op Z Z Z (ev_storeRow (i:=((a3.period - 1)).toNat) (off:=5) (cs:=[.int .i64 a5.code.scheme,.int .i64 a5.code.kind,.int .i64 a5.code.amount,.int .i64 a5.code.flat,.bool a5.code.alone,.slice i1 (a5.elements).length i2]) (y':=(⟨a5.code,c3⟩:Input)) e5 d6 Z Z Z sz_43 Z (.next _ (.next _ (.next _ (.next _ (.next _ (.here _ _ (.nil _))))))) (.tl _ (.hd _)) b7 h8 Z ⟨_,rfl,h5⟩ (ble Z)) ?_
        rintro _ o2 ⟨i3,i4⟩
        have o3:(a0.set (((a3.period - 1)).toNat) ((⟨a5.code,c3⟩:Input))).length=a1.length:=by (try simp only [LS]); omega
        refine k_bar (b_done (by kernel_rfl) (x_draw ?_) (by kernel_rfl))
        have i5:=i3.drop (.hd _)
        refine x_blockN (x_cut ((a0.set (((a3.period - 1)).toNat) ((⟨a5.code,c3⟩:Input))),h3) (.cons Z (.cons Z (.cons Z (.cons Z (.cons Z (.nil _)))))) ⟨i5,(((((c1.t c2).t e2).t e4).t h4).t i4),ET (IP a7) (ET (IP a9) (ET (BE d5) (ET (opt_some b7) (rfl)))),by omega⟩)
       ·replace a9:=OF a9
        refine c_skip ?_
        have i6:=b6.drop (.hd _)
        refine x_blockN (x_cut (a0,a4) (.cons Z (.cons Z (.cons Z (.cons Z (.cons Z (.nil _)))))) ⟨i6,(c1.t c2),ET (IP a7) (ET (IN a9) (rfl)),by omega⟩)
      ·replace a7:=OF a7
       refine gsk Z Z (gsk Z Z (gsk Z Z (gsk Z Z (g_y (y_pickF Z Z) Z Z (gnx ((c_condF Z (c_skip ?_))))))))
       have i7:=b6.drop (.hd _)
       refine x_blockN (x_cut (a0,a4) (.cons Z (.cons Z (.cons Z (.cons Z (.cons Z (.nil _)))))) ⟨i7,(c1.t c2),ET (IN a7) (rfl),by omega⟩)
     ·rintro ⟨b3,b5⟩ d3 ⟨e7,i8,i9,o4⟩
      have j0:=row_len (e7.ok _ m0); unfold big at j0
      refine c_region (g_y (y_add Z Z (by omega)) Z Z (GM Y (g_nil (x_round (b3,a2 + 1,b5) (by dsimp only; omega) (.cons Z (.cons Z (.cons Z (.cons Z (.cons Z (.nil _)))))) ⟨e7,(d1.t i8),e0.trans (ET (congrArg (fun l=>dAs_l1 p l a2 a0) (drop_cons d2)) (ET (BE i9) (rfl))),by omega,by omega⟩))))
    ·replace b4:=OF b4
     refine c_exit (x_thenE (x_rndE (x_blockE (x_cut (a0,a4) (.cons Z (.nil _)) ⟨c0,d1,e0.trans (ET (congrArg (fun l=>dAs_l1 p l a2 a0) (drop_nil (by omega))) (rfl)),by omega⟩))))
   ·rintro ⟨b2,b8⟩ d0 ⟨e8,o5,j1,o6⟩
    have j2:=row_len (e8.ok _ m0); unfold big at j2
    refine x_next (csr ((GM Y (GA Y (GA Y (gnx ((c_ret ?_))))))))
    obtain ⟨o7,e9,o8,j3⟩:=pub_row e8 (.hd _) (by simp)
    have j4:dAs dk p=(b2,0):=ET (IN a6) (ET (IN a8) (ET (BE c7) (ET (BE j1) (rfl))))
    refine x_ret ⟨_,_,rfl,rfl,⟨_,_,rfl,rfl,rfl⟩⟩ (⟨_,_,rfl,e9.fr,e9.grow,by rw [j4]; exact ⟨_,rfl,j3⟩⟩)
theorem dAs_m1_el {p:Int} {xs:List Input} {f:Fix} (h:∀ i ∈ xs,i.elements.length≤32) (hf:f.elements.length≤32):∀ i ∈ dAs_m1 p xs f,i.elements.length≤32:=by
 unfold dAs_m1
 split
 ·split
  ·simp only [bnd,clElem_eq]
   cases hx:xs[(f.period - 1).toNat]? with
   | none=>intro i hi; cases hi
   | some x=>
    intro i hi
    simp only [opt] at hi
    rcases List.mem_or_eq_of_mem_set hi with hi | hi
    ·exact h i hi
    ·rw [hi]; exact hf
  ·exact h
 ·exact h
theorem dAs_l1_el {p:Int}:∀ (l:List Fix) (k:Nat) (xs:List Input),(∀ i ∈ xs,i.elements.length≤32)→(∀ f ∈ l,f.elements.length≤32)→∀ i ∈ dAs_l1 p l k xs,i.elements.length≤32
 | [],_,_,h,_=>h
 | f :: l,k,xs,h,hf=>by
  unfold dAs_l1
  exact dAs_l1_el l (k + 1) _ (dAs_m1_el h (hf f (.head _))) fun g hg=>hf g (.tail _ hg)
theorem dAs_el {dk:DeskS} {p:Int} (h1:∀ f ∈ dk.fixes,f.elements.length≤32) (h2:∀ i ∈ dk.first,i.elements.length≤32):∀ i ∈ (dAs dk p).1,i.elements.length≤32:=by
 unfold dAs
 split
 ·intro i hi; cases hi
 split
 ·intro i hi; cases hi
 simp only [bnd,reCopied_eq]
 exact dAs_l1_el _ _ _ (fun i hi=>h2 i (List.mem_of_mem_take hi)) h1
end Go.Proofs.YtclblpmjamcknaaGreat
