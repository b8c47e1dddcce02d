import Derived.Test.YtclblpmjamcknaaGreatA10
set_option linter.unusedVariables false
set_option linter.unusedSimpArgs false
set_option maxRecDepth 8000
set_option maxHeartbeats 1000000
namespace Go.Proofs.YtclblpmjamcknaaGreat
open Go.Sx
def CleanChecks (t:Table) (c:Code) (ops:(List Opn)):Bool:=
 (bnd (compares24) fun a3=>
 (cond a3 ((bnd (desk24 t c ops) fun a4=>
 (ocase a4 true
 fun a0=>
 (bnd (clCheck a0) fun a1=>
 (if (a1.1≠0) then false
 else (if (a1.2≠0) then false
 else (bnd (ePosted a0.emp) fun a5=>
 (bnd (yCount a5) fun a2=>
 (bnd (clUpto a0 ((wI (a2 + 1)))) fun a6=>
 (bnd (clFrom a0 ((wI (a2 + 1)))) fun a7=>
 (bnd (clLate a0 ((-1))) fun a8=>
 (if (a6.2=3) then (if (a7.2=230) then (decide (a8.2=3))
 else false)
 else false))))))))))))
 false))
theorem CleanChecks_c {t:Table} {cs_t:List Value} {c:Code} {ops:(List Opn)} {v_ops:Value} {d:Dat} {w:World} (hd:∀ b,d b→b < w.heap.size) (h_t:tableTy.rel d w t cs_t) (h_ops:Sl opnTy d w v_ops ops):Ret Tryz.prog 4 [.agg cs_t.toArray,.agg #[.int .i64 c.scheme,.int .i64 c.kind,.int .i64 c.amount,.int .i64 c.flat,.bool c.alone],v_ops] w [] d (fun u d' w'=>u=.bool ((CleanChecks t c ops))):=by
 obtain ⟨v1,v2,v3,rfl,hS4,hS5,hS6⟩:=h_t
 obtain ⟨A7,c8,rfl,hn9,k2⟩:=hS4.fm
 obtain ⟨f1,f2,rfl,k3,k4⟩:=hS5.fm
 obtain ⟨f3,f4,rfl,k5,k6⟩:=hS6.fm
 obtain ⟨k7,k8,rfl,k9,l0⟩:=h_ops.fm
 refine ret_enter (n:=71) Tryz.func4 Z Z (ble Z) ?_
 have hI0:=Inv.start hd
 refine csr ((g_e (ev_box hI0 Z) Z Z ?_))
 rintro _ l1 ⟨l2,rfl,f5,c4⟩
 refine g_e (ev_box f5 Z) Z Z ?_
 rintro _ l3 ⟨l4,rfl,d8,c5⟩
 refine GA Y (gnx ((c_seq (csr (?_)))))
 have d9:=compares24_c d8.lt
 obtain ⟨l5,a4⟩:∃ r,compares24=r:=⟨_,rfl⟩
 rw [a4] at d9
 refine g_e (ev_pure d8 pf_32 Z d9) Z Z ?_
 rintro _ l6 ⟨l7,a7,c6,rfl⟩
 refine g_y (y_not Z) Z Z (gnx ((c_cond Z (fun a1=>?_) (fun a1=>?_))))
 ·replace a1:=not_t a1
  refine csr ((GA Y (gnx ((c_ret ?_)))))
  have f6:CleanChecks t c ops=false:=ET (BE a4) (ET (cond_f a1) (rfl))
  refine x_thenR (x_ret ⟨_,_,rfl,rfl,rfl⟩ ?_)
  exact ⟨_,_,rfl,a7.fr,a7.grow,by rw [f6]; exact rfl⟩
 ·replace a1:=not_f a1
  refine c_skip (x_next (csr ((g_y (y_loadA (cs:=[.slice A7 (t.schemes).length c8,.slice f1 (t.contribs).length f2,.slice f3 (t.kinds).length f4,.int .i64 t.limit,.int .i64 t.round]) sh_26 Z ((blk_cells a7 m1).part (f:=0) (.take _ (.take _ (.take _ (.take _ (.take _ (.nil _)))))))) Z Z (g_y (y_loadA (cs:=[.int .i64 c.scheme,.int .i64 c.kind,.int .i64 c.amount,.int .i64 c.flat,.bool c.alone]) sh_28 Z ((blk_cells a7 m0).part (f:=0) (.take _ (.take _ (.take _ (.take _ (.take _ (.nil _)))))))) Z Z (GM Y ?_))))))
  have e0:=desk24_c (t:=t) (c:=c) (ops:=ops) a7.lt (show tableTy.rel _ _ t _ from ⟨_,_,_,rfl,(hS4.mono ((c4.t c5).t c6)),(hS5.mono ((c4.t c5).t c6)),(hS6.mono ((c4.t c5).t c6))⟩) (h_ops.mono ((c4.t c5).t c6))
  obtain ⟨f7,a8⟩:∃ r,desk24 t c ops=r:=⟨_,rfl⟩
  rw [a8] at e0
  refine g_e (ev_call pf_33 Z e0) Z Z ?_
  rintro _ l8 ⟨l9,e1,e2,f8,f9⟩
  rcases a5:f7 with _ | a0
  ·obtain rfl:=f8 a5
   obtain ⟨e3,m6⟩:=a7.pure e1 e2
   refine GA Y (gnx ((c_seq (csr ((GM Y (g_y (y_nilEqNil Tryz.underlying74 Z Z) Z Z (gnx ((c_condT Z (csr ((GA Y ?_)))))))))))))
   refine gnx ((c_ret ?_))
   have g0:CleanChecks t c ops=true:=ET (BE a4) (ET (cond_t a1) (ET (BE a8) (ET (ocase_none a5) (rfl))))
   refine x_thenR (x_ret ⟨_,_,rfl,rfl,rfl⟩ ?_)
   exact ⟨_,_,rfl,e3.fr,e3.grow,by rw [g0]; exact rfl⟩
  ·obtain ⟨c0,a9,b2,b3,b4,b5,b6,b7,rfl,g1⟩:=f9 _ a5
   obtain ⟨d3,m7⟩:=a7.take e1 e2 g1
   refine GA Y (gnx ((c_seq (csr ((GM Y (g_y (y_ptrEqNil Tryz.underlying74 Z Z) Z Z (gnx ((c_condF Z (c_skip (x_next (c_seq ?_)))))))))))))
   refine c_region (GM Y ?_)
   have e4:=clCheck_c (dk:=a0) (dk_r:=c0) (dk_emp:=a9) (dk_emp_posted:=b2) (dk_emp_orders:=b3) (dk_fixesA:=b4) (dk_fixesc:=b5) (dk_firstA:=b6) (dk_firstc:=b7) d3.lt (d3.ok _ m0)
   obtain ⟨m8,b8⟩:∃ r,clCheck a0=r:=⟨_,rfl⟩
   rw [b8] at e4
   refine g_e (ev_pure d3 pf_34 Z e4) Z Z ?_
   rintro _ m9 ⟨n0,c1,n1,rfl⟩
   refine GM Y (g_y (y_extract Z Z) Z Z (g_y (y_extract Z Z) Z Z (GA Y (GA Y (gnx ((c_seq (csr ((GM Y (g_y (y_neq Z Z) Z Z (GM Y (g_split (t:=32) Z (fun a2=>?_) (fun a2=>?_))))))))))))))
   ·replace a2:=OT a2
    refine gsk Z Z (gsk Z Z (g_y (y_pickT Z Z) Z Z (gnx ((c_condT Z (csr ((GA Y (gnx ((c_ret ?_)))))))))))
    have g2:CleanChecks t c ops=false:=ET (BE a4) (ET (cond_t a1) (ET (BE a8) (ET (ocase_some a5) (ET (BE b8) (ET (IP a2) (rfl))))))
    refine x_thenR (x_ret ⟨_,_,rfl,rfl,rfl⟩ ?_)
    exact ⟨_,_,rfl,c1.fr,c1.grow,by rw [g2]; exact rfl⟩
   ·replace a2:=OF a2
    refine GM Y (g_y (y_neq Z Z) Z Z (g_y (y_pickF Z Z) Z Z (gnx ((c_cond Z (fun a3=>?_) (fun a3=>?_))))))
    ·replace a3:=OT a3
     refine csr ((GA Y (gnx ((c_ret ?_)))))
     have g3:CleanChecks t c ops=false:=ET (BE a4) (ET (cond_t a1) (ET (BE a8) (ET (ocase_some a5) (ET (BE b8) (ET (IN a2) (ET (IP a3) (rfl)))))))
     refine x_thenR (x_ret ⟨_,_,rfl,rfl,rfl⟩ ?_)
     exact ⟨_,_,rfl,c1.fr,c1.grow,by rw [g3]; exact rfl⟩
    ·replace a3:=OF a3
     refine c_skip (x_next (csr ((GM Y (g_y (y_nilCheck Z) Z Z (gfa fo_81_0 Z Z Z ?_))))))
     obtain ⟨n2,g4,g5⟩:=c1.openStar.openObj
     have g6:=(g4.front (.tl _ (.hd _))).openStar
     have b0:=(g6.front (.tl _ (.hd _))).openStar
     have g7:=row_len (b0.ok _ m0); unfold big at g7
     have g8:=row_len (b0.ok _ m1); unfold big at g8
     obtain ⟨n3,n4,n5,n6⟩:=empR_inv (b0.ok _ m2)
     obtain ⟨rfl,n7,n8,n9,o0,o1,o2⟩:=g5
     refine gld sh_30 Z b0 m3 (i:=0) Z Z Z ?_
     have e5:=ePosted_c (p:=a0.emp) (p_r:=a9) (p_posted:=b2) (p_orders:=b3) b0.lt (b0.ok _ m2)
     obtain ⟨d4,c7⟩:∃ r,ePosted a0.emp=r:=⟨_,rfl⟩
     rw [c7] at e5
     refine g_e (ev_call pf_27 Z e5) Z Z ?_
     rintro _ o3 ⟨o4,g9,h0,h1,rfl,h2⟩
     obtain ⟨c9,o5⟩:=b0.take g9 h0 h2
     have o6:=yearR_inv (c9.ok _ m0)
     have e6:=yCount_c (y:=d4) (y_r:=h1) c9.lt (c9.ok _ m0)
     obtain ⟨c2,c3⟩:∃ r,yCount d4=r:=⟨_,rfl⟩
     rw [c3] at e6
     have h8r106:c2=(d4.slips.length:Int):=by rw [← c3]; rfl
     refine g_e (ev_pure c9 pf_35 Z e6) Z Z ?_
     rintro _ h3 ⟨h4,e7,o7,rfl⟩
     refine GA Y (gnx ((csr ((GM Y (GM Y (g_y (y_addW Z Z) Z Z ?_)))))))
     obtain ⟨o8,o9,p0,p1⟩:=empR_inv (e7.ok _ m3)
     have h5:=e7.front (.tl _ (.tl _ (.hd _)))
     have h6:=h5.front (.tl _ (.tl _ (.hd _)))
     have h7:=h6.closeStar
     have h8:=h7.front (.tl _ (.tl _ (.hd _)))
     have i0:=h8.closeStar
     have i1:=i0.front (.tl _ (.tl _ (.hd _)))
     have i2:a0.first.length=a0.emp.inputs.length:=by (try dsimp only); first | assumption | omega | (simp only [LA,LC,LN,LS]; omega) | (first | (intro f hf; cases hf) | (intro f hf; rcases LP.1 hf with hf | hf; exact ‹∀ f ∈ _,List.length (Fix.elements f)≤32› f hf; (rw [LM.1 hf]; dsimp only; omega)) | (intro i hi; rcases LP.1 hi with hi | hi; exact ‹∀ i ∈ _,List.length (Input.elements i)≤32› i hi; (rw [LM.1 hi]; exact ‹∀ i ∈ EmpS.inputs _,List.length (Input.elements i)≤32› _ (by assumption))) | (intro f hf; (have h9:=‹∀ f ∈ _,1≤Fix.period f∧Fix.period f≤_› f hf; (try simp only [LA,LC,LN]); omega)) | (intro f hf; rcases LP.1 hf with hf | hf; (have h9:=‹∀ f ∈ _,1≤Fix.period f∧Fix.period f≤_› f hf; (try simp only [LA,LC,LN]); omega); (rw [LM.1 hf]; dsimp only; omega)))
     have i3:a0.first.length≤53:=by (try dsimp only); first | assumption | omega | (simp only [LA,LC,LN,LS]; omega) | (first | (intro f hf; cases hf) | (intro f hf; rcases LP.1 hf with hf | hf; exact ‹∀ f ∈ _,List.length (Fix.elements f)≤32› f hf; (rw [LM.1 hf]; dsimp only; omega)) | (intro i hi; rcases LP.1 hi with hi | hi; exact ‹∀ i ∈ _,List.length (Input.elements i)≤32› i hi; (rw [LM.1 hi]; exact ‹∀ i ∈ EmpS.inputs _,List.length (Input.elements i)≤32› _ (by assumption))) | (intro f hf; (have h9:=‹∀ f ∈ _,1≤Fix.period f∧Fix.period f≤_› f hf; (try simp only [LA,LC,LN]); omega)) | (intro f hf; rcases LP.1 hf with hf | hf; (have h9:=‹∀ f ∈ _,1≤Fix.period f∧Fix.period f≤_› f hf; (try simp only [LA,LC,LN]); omega); (rw [LM.1 hf]; dsimp only; omega)))
     have i4:a0.fixes.length≤256:=by (try dsimp only); first | assumption | omega | (simp only [LA,LC,LN,LS]; omega) | (first | (intro f hf; cases hf) | (intro f hf; rcases LP.1 hf with hf | hf; exact ‹∀ f ∈ _,List.length (Fix.elements f)≤32› f hf; (rw [LM.1 hf]; dsimp only; omega)) | (intro i hi; rcases LP.1 hi with hi | hi; exact ‹∀ i ∈ _,List.length (Input.elements i)≤32› i hi; (rw [LM.1 hi]; exact ‹∀ i ∈ EmpS.inputs _,List.length (Input.elements i)≤32› _ (by assumption))) | (intro f hf; (have h9:=‹∀ f ∈ _,1≤Fix.period f∧Fix.period f≤_› f hf; (try simp only [LA,LC,LN]); omega)) | (intro f hf; rcases LP.1 hf with hf | hf; (have h9:=‹∀ f ∈ _,1≤Fix.period f∧Fix.period f≤_› f hf; (try simp only [LA,LC,LN]); omega); (rw [LM.1 hf]; dsimp only; omega)))
     have i5:∀ f ∈ a0.fixes,1≤f.period∧f.period≤(a0.first.length:Int):=by (try dsimp only); first | assumption | omega | (simp only [LA,LC,LN,LS]; omega) | (first | (intro f hf; cases hf) | (intro f hf; rcases LP.1 hf with hf | hf; exact ‹∀ f ∈ _,List.length (Fix.elements f)≤32› f hf; (rw [LM.1 hf]; dsimp only; omega)) | (intro i hi; rcases LP.1 hi with hi | hi; exact ‹∀ i ∈ _,List.length (Input.elements i)≤32› i hi; (rw [LM.1 hi]; exact ‹∀ i ∈ EmpS.inputs _,List.length (Input.elements i)≤32› _ (by assumption))) | (intro f hf; (have h9:=‹∀ f ∈ _,1≤Fix.period f∧Fix.period f≤_› f hf; (try simp only [LA,LC,LN]); omega)) | (intro f hf; rcases LP.1 hf with hf | hf; (have h9:=‹∀ f ∈ _,1≤Fix.period f∧Fix.period f≤_› f hf; (try simp only [LA,LC,LN]); omega); (rw [LM.1 hf]; dsimp only; omega)))
     have i6:∀ f ∈ a0.fixes,f.elements.length≤32:=by (try dsimp only); first | assumption | omega | (simp only [LA,LC,LN,LS]; omega) | (first | (intro f hf; cases hf) | (intro f hf; rcases LP.1 hf with hf | hf; exact ‹∀ f ∈ _,List.length (Fix.elements f)≤32› f hf; (rw [LM.1 hf]; dsimp only; omega)) | (intro i hi; rcases LP.1 hi with hi | hi; exact ‹∀ i ∈ _,List.length (Input.elements i)≤32› i hi; (rw [LM.1 hi]; exact ‹∀ i ∈ EmpS.inputs _,List.length (Input.elements i)≤32› _ (by assumption))) | (intro f hf; (have h9:=‹∀ f ∈ _,1≤Fix.period f∧Fix.period f≤_› f hf; (try simp only [LA,LC,LN]); omega)) | (intro f hf; rcases LP.1 hf with hf | hf; (have h9:=‹∀ f ∈ _,1≤Fix.period f∧Fix.period f≤_› f hf; (try simp only [LA,LC,LN]); omega); (rw [LM.1 hf]; dsimp only; omega)))
     have i7:∀ i ∈ a0.first,i.elements.length≤32:=by (try dsimp only); first | assumption | omega | (simp only [LA,LC,LN,LS]; omega) | (first | (intro f hf; cases hf) | (intro f hf; rcases LP.1 hf with hf | hf; exact ‹∀ f ∈ _,List.length (Fix.elements f)≤32› f hf; (rw [LM.1 hf]; dsimp only; omega)) | (intro i hi; rcases LP.1 hi with hi | hi; exact ‹∀ i ∈ _,List.length (Input.elements i)≤32› i hi; (rw [LM.1 hi]; exact ‹∀ i ∈ EmpS.inputs _,List.length (Input.elements i)≤32› _ (by assumption))) | (intro f hf; (have h9:=‹∀ f ∈ _,1≤Fix.period f∧Fix.period f≤_› f hf; (try simp only [LA,LC,LN]); omega)) | (intro f hf; rcases LP.1 hf with hf | hf; (have h9:=‹∀ f ∈ _,1≤Fix.period f∧Fix.period f≤_› f hf; (try simp only [LA,LC,LN]); omega); (rw [LM.1 hf]; dsimp only; omega)))
     have i8:=i1.closeObj (ty:=(deskTy a9 b4 b5 b6 b7)) (x:=a0) ⟨rfl,i2,i3,i4,i5,i6,i7⟩
     have i9:=i8.closeStar
     have d5:Inv [] d w h4 (deskR c0 a9 b2 b3 b4 b5 b6 b7 a0 :: _) h3:=i9
     have e8:=clUpto_c (dk:=a0) (dk_r:=c0) (dk_emp:=a9) (dk_emp_posted:=b2) (dk_emp_orders:=b3) (dk_fixesA:=b4) (dk_fixesc:=b5) (dk_firstA:=b6) (dk_firstc:=b7) (k:=(wI (c2 + 1))) d5.lt (d5.ok _ m0)
     obtain ⟨p2,d0⟩:∃ r,clUpto a0 ((wI (c2 + 1)))=r:=⟨_,rfl⟩
     rw [d0] at e8
     refine g_e (ev_pure d5 pf_36 Z e8) Z Z ?_
     rintro _ p3 ⟨p4,j0,p5,⟨p6,rfl,j1⟩⟩
     obtain ⟨p7,rfl,j2⟩:=j1
     obtain ⟨p8,p9,rfl,q0,q1⟩:=j2.fm
     refine GM Y (g_y (y_extract Z Z) Z Z (g_y (y_extract Z Z) Z Z (g_e (ev_alloc j0 ze_84) Z Z ?_)))
     rintro _ q2 ⟨q3,rfl,j3,q4⟩
     refine g_e (ev_store j3 Z Z Z sz_84 Z (.here _ _ (.here _ _ (.here _ _ (.here _ _ (.here _ _ (.nil _)))))) (.hd _)) Z Z ?_
     rintro _ q5 ⟨d6,q6⟩
     refine GA Y (gnx ((csr ((GM Y (GM Y (g_y (y_addW Z Z) Z Z ?_)))))))
     have e9:=clFrom_c (dk:=a0) (dk_r:=c0) (dk_emp:=a9) (dk_emp_posted:=b2) (dk_emp_orders:=b3) (dk_fixesA:=b4) (dk_fixesc:=b5) (dk_firstA:=b6) (dk_firstc:=b7) (k:=(wI (c2 + 1))) d6.lt (d6.ok _ m1)
     obtain ⟨q7,d1⟩:∃ r,clFrom a0 ((wI (c2 + 1)))=r:=⟨_,rfl⟩
     rw [d1] at e9
     refine g_e (ev_pure d6 pf_37 Z e9) Z Z ?_
     rintro _ q8 ⟨q9,j4,r0,⟨r1,rfl,j5⟩⟩
     obtain ⟨r2,rfl,j6⟩:=j5
     obtain ⟨r3,r4,rfl,r5,r6⟩:=j6.fm
     refine GM Y (g_y (y_extract Z Z) Z Z (g_y (y_extract Z Z) Z Z (g_e (ev_alloc j4 ze_84) Z Z ?_)))
     rintro _ r7 ⟨r8,rfl,j7,r9⟩
     refine g_e (ev_store j7 Z Z Z sz_84 Z (.here _ _ (.here _ _ (.here _ _ (.here _ _ (.here _ _ (.nil _)))))) (.hd _)) Z Z ?_
     rintro _ s0 ⟨d7,s1⟩
     refine GA Y (gnx ((csr ((GM Y ?_)))))
     have f0:=clLate_c (dk:=a0) (dk_r:=c0) (dk_emp:=a9) (dk_emp_posted:=b2) (dk_emp_orders:=b3) (dk_fixesA:=b4) (dk_fixesc:=b5) (dk_firstA:=b6) (dk_firstc:=b7) (k:=(-1)) d7.lt (d7.ok _ m2)
     obtain ⟨j8,d2⟩:∃ r,clLate a0 ((-1))=r:=⟨_,rfl⟩
     rw [d2] at f0
     refine g_e (ev_pure d7 pf_38 Z f0) Z Z ?_
     rintro _ s2 ⟨s3,b9,s4,rfl⟩
     refine GM Y (g_y (y_extract Z Z) Z Z (g_y (y_extract Z Z) Z Z (GA Y (GA Y (gnx ((csr ((GM Y (g_y (y_eql Z Z) Z Z (GM Y (g_split (t:=63) Z (fun a6=>?_) (fun a6=>?_)))))))))))))
     ·replace a6:=OT a6
      refine GM Y (g_y (y_eql Z Z) Z Z (g_y (y_pickT Z Z) Z Z (GM Y (g_split (t:=67) Z (fun b1=>?_) (fun b1=>?_)))))
      ·replace b1:=OT b1
       refine GM Y (g_y (y_eql Z Z) Z Z (g_y (y_pickT Z Z) Z Z (GA Y (gnx ((c_ret ?_))))))
       have j9:CleanChecks t c ops=(decide (j8.2=3)):=ET (BE a4) (ET (cond_t a1) (ET (BE a8) (ET (ocase_some a5) (ET (BE b8) (ET (IN a2) (ET (IN a3) (ET (BE c7) (ET (BE c3) (ET (BE d0) (ET (BE d1) (ET (BE d2) (ET (IP a6) (ET (IP b1) (rfl))))))))))))))
       refine x_ret ⟨_,_,rfl,rfl,rfl⟩ (⟨_,_,rfl,b9.fr,b9.grow,by rw [j9]; exact rfl⟩)
      ·replace b1:=OF b1
       refine gsk Z Z (gsk Z Z (g_y (y_pickF Z Z) Z Z (GA Y (gnx ((c_ret ?_))))))
       have k0:CleanChecks t c ops=false:=ET (BE a4) (ET (cond_t a1) (ET (BE a8) (ET (ocase_some a5) (ET (BE b8) (ET (IN a2) (ET (IN a3) (ET (BE c7) (ET (BE c3) (ET (BE d0) (ET (BE d1) (ET (BE d2) (ET (IP a6) (ET (IN b1) (rfl))))))))))))))
       refine x_ret ⟨_,_,rfl,rfl,rfl⟩ (⟨_,_,rfl,b9.fr,b9.grow,by rw [k0]; exact rfl⟩)
     ·replace a6:=OF a6
      refine gsk Z Z (gsk Z Z (g_y (y_pickF Z Z) Z Z (GM Y (gsk Z Z (gsk Z Z (g_y (y_pickF Z Z) Z Z (GA Y (gnx ((c_ret ?_))))))))))
      have k1:CleanChecks t c ops=false:=ET (BE a4) (ET (cond_t a1) (ET (BE a8) (ET (ocase_some a5) (ET (BE b8) (ET (IN a2) (ET (IN a3) (ET (BE c7) (ET (BE c3) (ET (BE d0) (ET (BE d1) (ET (BE d2) (ET (IN a6) (rfl)))))))))))))
      refine x_ret ⟨_,_,rfl,rfl,rfl⟩ (⟨_,_,rfl,b9.fr,b9.grow,by rw [k1]; exact rfl⟩)
end Go.Proofs.YtclblpmjamcknaaGreat
