import Derived.Test.YtclblpmjamcknaaGreatA7
set_option linter.unusedVariables false
set_option linter.unusedSimpArgs false
set_option maxRecDepth 8000
set_option maxHeartbeats 1000000
namespace Go.Proofs.YtclblpmjamcknaaGreat
open Go.Sx
theorem eCheckAll_len {t:Table} {l:List Elem} (h:eCheckAll t l=0):l.length≤32:=by
 unfold eCheckAll at h
 by_cases h1:32 < (l.length:Int)
 ·rw [IP h1] at h; cases h
 ·omega
def ePeriod (p:EmpS):Int:=
 (bnd (pyCount p.year) fun a0=>
 (if ((p.inputs.length:Int)=a0) then 0
 else ((p.inputs.length:Int) + 1)))
theorem ePeriod_c {p:EmpS} {p_r:Nat} {p_posted:Nat} {p_orders:Nat} {d:Dat} {w:World} (hd:∀ b,d b→b < w.heap.size) (h_p:(empR p_r p_posted p_orders p).ok d w):Ret Tryz.prog 51 [.pointer (some ⟨p_r,0,none⟩)] w [] d (fun u d' w'=>u=.int .i64 ((ePeriod p))):=by
 refine ret_enter (n:=20) Tryz.func51 Z Z (ble Z) ?_
 have hI0:=Inv.start hd
 refine csr ((GA Y (gnx ((c_seq (c_seq ?_))))))
 have a2:=hI0.drew; have a6:=Le.drew d w
 refine c_drawK 11 follows_mixed a2 (k_y 0 (by kernel_rfl) Z Z Z (fun _ _=>(y_move Z)) (k_y 1 (by kernel_rfl) Z Z Z (fun _ _=>(y_nilCheck Z)) (k_y 2 (by kernel_rfl) Z Z Z (fun _ _=>(y_fieldAddr fo_214_5 Z)) ?_)))
 obtain ⟨c1,a3,a7⟩:=obj_kp (M:=[]) (star_ok1 h_p) (by simp)
 have c2:(yearR p_posted p.posted).ok d w:=(star_ok1 (star_ok2 h_p))
 have c3:(bookR p_orders p.orders).ok d w:=(star_ok2 (star_ok2 h_p))
 obtain ⟨c4,c5,c6,c7,c8,c9,rfl,a8,a9,b0,b1,b2,b3,d0,d1,d2,d3⟩:=a7
 obtain ⟨d4,d5,rfl,d6,d7⟩:=a8.fm
 obtain ⟨d8,d9,rfl,e0,e1⟩:=a9.fm
 obtain ⟨e2,e3,rfl,e4,e5⟩:=b0.fm
 obtain ⟨e6,e7,rfl,b4,b5⟩:=b1
 obtain rfl:=b5
 obtain ⟨e8,e9,rfl,f0,f1⟩:=b2.fm
 obtain ⟨f2,f3,rfl,f4,f5⟩:=b3.fm
 refine k_y 3 (by kernel_rfl) Z Z Z (fun f6 ⟨f7,b6,f8⟩=>(y_load1 sh_79 Z ((a3.at_ b6).nth_ (i:=13) Z))) (k_y 4 (by kernel_rfl) Z Z Z (fun _ _=>(y_lenS (by rw [el_79]; rfl) Z)) (k_y 5 (by kernel_rfl) Z Z Z (fun _ _=>(y_move Z)) (k_y 6 (by kernel_rfl) Z Z Z (fun _ _=>(y_nilCheck Z)) (k_y 7 (by kernel_rfl) Z Z Z (fun _ _=>(y_fieldAddr fo_214_1 Z)) (k_y 8 (by kernel_rfl) Z Z Z (fun f9 ⟨g0,b7,g1⟩=>(y_load1 sh_93 Z ((a3.at_ b7).nth_ (i:=5) Z))) (k_all (is:=[9]) (by kernel_rfl) (by simp) (.cons ?_ .nil)))))))
 have a5:=pyCount_c (y:=p.year) a2.lt (show PtrD pYearTy _ _ _ p.year from ⟨_,_,rfl,(b4.mono a6),rfl⟩)
 obtain ⟨g2,a4⟩:∃ r,pyCount p.year=r:=⟨_,rfl⟩
 rw [a4] at a5
 refine k_op Z Z Z (ev_pure a2 pf_66 Z a5) ?_
 rintro _ g3 ⟨g4,a1,b8,rfl⟩
 refine k_next a1 b8 (k_y 10 (by kernel_rfl) Z Z Z (fun _ _=>(y_eql Z Z)) (k_done (by kernel_rfl) (x_draw ?_)))
 refine x_next (c_cond Z (fun a0=>?_) (fun a0=>?_))
 ·replace a0:=OT a0
  refine csr ((GA Y (gnx ((c_ret ?_)))))
  have b9:ePeriod p=0:=ET (BE a4) (ET (IP a0) (rfl))
  refine x_thenR (x_ret ⟨_,_,rfl,rfl,rfl⟩ ?_)
  exact ⟨_,_,rfl,a1.fr,a1.grow,by rw [b9]; exact rfl⟩
 ·replace a0:=OF a0
  refine c_skip (x_next (csr ((GM Y (g_y (y_nilCheck Z) Z Z (gfa fo_214_5 Z Z Z (g_y (y_load1 sh_79 Z ((a3.at_ a1).nth_ (i:=13) Z)) Z Z (gln el_79 Z Z Z (g_y (y_add Z Z (by omega)) Z Z (GA Y (gnx ((c_ret ?_)))))))))))))
  have c0:ePeriod p=((p.inputs.length:Int) + 1):=ET (BE a4) (ET (IN a0) (rfl))
  refine x_ret ⟨_,_,rfl,rfl,rfl⟩ (⟨_,_,rfl,a1.fr,a1.grow,by rw [c0]; exact rfl⟩)
def eOpen (p:EmpS):Int:=
 (bnd (ePeriod p) fun a0=>
 (if (a0=0) then 210
 else 0))
theorem eOpen_c {p:EmpS} {p_r:Nat} {p_posted:Nat} {p_orders:Nat} {d:Dat} {w:World} (hd:∀ b,d b→b < w.heap.size) (h_p:(empR p_r p_posted p_orders p).ok d w):Ret Tryz.prog 107 [.pointer (some ⟨p_r,0,none⟩)] w [] d (fun u d' w'=>u=.int .i64 ((eOpen p))):=by
 refine ret_enter (n:=6) Tryz.func107 Z Z (ble Z) ?_
 have hI0:=Inv.start hd
 refine csr ((GA Y (gnx ((c_seq (csr ((GM Y ?_))))))))
 have hq9:=ePeriod_c (p:=p) (p_r:=p_r) (p_posted:=p_posted) (p_orders:=p_orders) hI0.lt h_p
 obtain ⟨a5,a2⟩:∃ r,ePeriod p=r:=⟨_,rfl⟩
 rw [a2] at hq9
 refine g_e (ev_pure hI0 pf_51 Z hq9) Z Z ?_
 rintro _ a6 ⟨a7,a1,a8,rfl⟩
 refine g_y (y_eql Z Z) Z Z (gnx ((c_cond Z (fun a0=>?_) (fun a0=>?_))))
 ·replace a0:=OT a0
  refine csr ((GA Y (gnx ((c_ret ?_)))))
  have a3:eOpen p=210:=ET (BE a2) (ET (IP a0) (rfl))
  refine x_thenR (x_ret ⟨_,_,rfl,rfl,rfl⟩ ?_)
  exact ⟨_,_,rfl,a1.fr,a1.grow,by rw [a3]; exact rfl⟩
 ·replace a0:=OF a0
  refine c_skip (x_next (csr ((GA Y (gnx ((c_ret ?_)))))))
  have a4:eOpen p=0:=ET (BE a2) (ET (IN a0) (rfl))
  refine x_ret ⟨_,_,rfl,rfl,rfl⟩ (⟨_,_,rfl,a1.fr,a1.grow,by rw [a4]; exact rfl⟩)
def eYear (p:EmpS):PYear:=
 p.year
theorem eYear_c {p:EmpS} {p_r:Nat} {p_posted:Nat} {p_orders:Nat} {d:Dat} {w:World} (hd:∀ b,d b→b < w.heap.size) (h_p:(empR p_r p_posted p_orders p).ok d w):Ret Tryz.prog 65 [.pointer (some ⟨p_r,0,none⟩)] w [] d (fun u d' w'=>∃ (v0:Value),u=v0∧PtrD pYearTy d' w' v0 (eYear p)):=by
 refine ret_enter (n:=7) Tryz.func65 Z Z (ble Z) ?_
 have hI0:=Inv.start hd
 refine csr ((GA Y (gnx ((csr ((GM Y (g_y (y_nilCheck Z) Z Z (gfa fo_214_1 Z Z Z ?_)))))))))
 obtain ⟨cs1,hk2,hr3⟩:=obj_kp (M:=[]) (star_ok1 h_p) (by simp)
 have hB4:(yearR p_posted p.posted).ok d w:=(star_ok1 (star_ok2 h_p))
 have hB5:(bookR p_orders p.orders).ok d w:=(star_ok2 (star_ok2 h_p))
 obtain ⟨a9,b0,b1,b2,b3,b4,rfl,a0,a1,a2,a3,a4,a5,hi6,hi7,hi8,hi9⟩:=hr3
 obtain ⟨b5,b6,rfl,b7,b8⟩:=a0.fm
 obtain ⟨b9,c0,rfl,c1,c2⟩:=a1.fm
 obtain ⟨c3,c4,rfl,c5,c6⟩:=a2.fm
 obtain ⟨c7,c8,rfl,a6,a7⟩:=a3
 obtain rfl:=a7
 obtain ⟨c9,d0,rfl,d1,d2⟩:=a4.fm
 obtain ⟨d3,d4,rfl,d5,d6⟩:=a5.fm
 refine g_y (y_load1 sh_93 Z ((hk2.at_ hI0).nth_ (i:=5) Z)) Z Z (GA Y (gnx ((c_ret ?_))))
 have a8:eYear p=p.year:=rfl
 refine x_ret ⟨_,_,rfl,rfl,rfl⟩ (⟨_,_,rfl,hI0.fr,hI0.grow,by rw [a8]; exact ⟨_,rfl,⟨_,_,rfl,a6,rfl⟩⟩⟩)
def eTable (p:EmpS):Table:=
 (bnd (tClone p.table) fun a0=>
 a0)
theorem eTable_c {p:EmpS} {p_r:Nat} {p_posted:Nat} {p_orders:Nat} {d:Dat} {w:World} (hd:∀ b,d b→b < w.heap.size) (h_p:(empR p_r p_posted p_orders p).ok d w):Ret Tryz.prog 64 [.pointer (some ⟨p_r,0,none⟩)] w [] d (fun u d' w'=>∃ (cs0:List Value),u=.agg cs0.toArray∧tableTy.rel d' w' (eTable p) cs0):=by
 refine ret_enter (n:=8) Tryz.func64 Z Z (ble Z) ?_
 have hI0:=Inv.start hd
 refine csr ((g_e (ev_alloc hI0 ze_26) Z Z ?_))
 rintro _ w1 ⟨b4,rfl,hI2,hle3⟩
 refine gnx ((csr ((GM Y (g_y (y_nilCheck Z) Z Z (gfa fo_214_0 Z Z Z ?_))))))
 obtain ⟨cs5,hk6,hr7⟩:=obj_kp (M:=[]) (star_ok1 h_p) (by simp)
 have hB8:(yearR p_posted p.posted).ok d w:=(star_ok1 (star_ok2 h_p))
 have hB9:(bookR p_orders p.orders).ok d w:=(star_ok2 (star_ok2 h_p))
 obtain ⟨c5,c6,c7,c8,c9,d0,rfl,a2,a3,a4,b0,b1,b2,d1,d2,d3,d4⟩:=hr7
 obtain ⟨b3,b5,rfl,d5,d6⟩:=a2.fm
 obtain ⟨b6,b7,rfl,d7,d8⟩:=a3.fm
 obtain ⟨b8,b9,rfl,d9,e0⟩:=a4.fm
 obtain ⟨e1,e2,rfl,e3,c0⟩:=b0
 obtain rfl:=c0
 obtain ⟨e4,e5,rfl,e6,e7⟩:=b1.fm
 obtain ⟨e8,e9,rfl,f0,f1⟩:=b2.fm
 refine g_y (y_loadA (cs:=[.slice b3 (p.table.schemes).length b5,.slice b6 (p.table.contribs).length b7,.slice b8 (p.table.kinds).length b9,.int .i64 p.table.limit,.int .i64 p.table.round]) sh_26 Z ((hk6.at_ hI2).part (f:=0) (.take _ (.take _ (.take _ (.take _ (.take _ (.nil _)))))))) Z Z ?_
 have a5:=tClone_c (t:=p.table) hI2.lt (show tableTy.rel _ _ p.table _ from ⟨_,_,_,rfl,(a2.mono hle3),(a3.mono hle3),(a4.mono hle3)⟩)
 obtain ⟨c1,a6⟩:∃ r,tClone p.table=r:=⟨_,rfl⟩
 rw [a6] at a5
 refine g_e (ev_pure hI2 pf_142 Z a5) Z Z ?_
 rintro _ f2 ⟨f3,c2,f4,⟨f5,rfl,c3⟩⟩
 obtain ⟨f6,f7,f8,rfl,a7,a8,a9⟩:=c3
 obtain ⟨f9,g0,rfl,g1,g2⟩:=a7.fm
 obtain ⟨g3,g4,rfl,g5,g6⟩:=a8.fm
 obtain ⟨g7,g8,rfl,g9,h0⟩:=a9.fm
 refine g_e (ev_store c2 Z Z Z sz_26 Z (.here _ _ (.here _ _ (.here _ _ (.here _ _ (.here _ _ (.nil _)))))) (.hd _)) Z Z ?_
 rintro _ h1 ⟨a0,a1⟩
 refine gnx ((c_ret ?_))
 have c4:eTable p=c1:=ET (BE a6) (rfl)
 refine x_ret ⟨_,_,_,rfl,rfl,blk_cells a0 m0,sh_26,rfl⟩ (⟨_,_,rfl,a0.fr,a0.grow,by rw [c4]; exact ⟨_,rfl,⟨_,_,_,rfl,(a7.mono a1),(a8.mono a1),(a9.mono a1)⟩⟩⟩)
def eInputs (p:EmpS):(List Input):=
 (bnd (rCopied p.inputs) fun a0=>
 a0)
theorem eInputs_c {p:EmpS} {p_r:Nat} {p_posted:Nat} {p_orders:Nat} {d:Dat} {w:World} (hd:∀ b,d b→b < w.heap.size) (h_p:(empR p_r p_posted p_orders p).ok d w):Ret Tryz.prog 39 [.pointer (some ⟨p_r,0,none⟩)] w [] d (fun u d' w'=>Fresh (row inputTy 112 u (eInputs p)) d' w w'):=by
 refine ret_enter (n:=8) Tryz.func39 Z Z (ble Z) ?_
 have hI0:=Inv.start hd
 refine csr ((GA Y (gnx ((csr ((GM Y (g_y (y_nilCheck Z) Z Z (gfa fo_214_5 Z Z Z ?_)))))))))
 obtain ⟨cs1,hk2,hr3⟩:=obj_kp (M:=[]) (star_ok1 h_p) (by simp)
 have hB4:(yearR p_posted p.posted).ok d w:=(star_ok1 (star_ok2 h_p))
 have hB5:(bookR p_orders p.orders).ok d w:=(star_ok2 (star_ok2 h_p))
 obtain ⟨b3,b4,b5,b6,b7,b8,rfl,a5,a6,a7,a8,a9,a2,hi6,hi7,hi8,hi9⟩:=hr3
 obtain ⟨b9,c0,rfl,c1,c2⟩:=a5.fm
 obtain ⟨c3,c4,rfl,c5,c6⟩:=a6.fm
 obtain ⟨c7,c8,rfl,c9,d0⟩:=a7.fm
 obtain ⟨d1,d2,rfl,d3,b0⟩:=a8
 obtain rfl:=b0
 obtain ⟨d4,d5,rfl,d6,d7⟩:=a9.fm
 obtain ⟨d8,d9,rfl,e0,e1⟩:=a2.fm
 refine g_y (y_load1 sh_79 Z ((hk2.at_ hI0).nth_ (i:=13) Z)) Z Z ?_
 have a3:=rCopied_c (list:=p.inputs) hI0.lt a2
 obtain ⟨a4,a1⟩:∃ r,rCopied p.inputs=r:=⟨_,rfl⟩
 rw [a1] at a3
 have h8r47:a4.length=p.inputs.length:=by rw [← a1,rCopied_eq]
 refine g_e (ev_row hI0 pf_128 Z a3) Z Z ?_
 rintro _ e2 ⟨e3,e4,e5,rfl,a0,e6⟩
 have b1:=row_len (a0.ok _ m0); unfold big at b1
 refine GA Y (gnx ((c_ret ?_)))
 have b2:eInputs p=a4:=ET (BE a1) (rfl)
 refine x_ret ⟨_,_,rfl,rfl,rfl⟩ (⟨_,_,rfl,a0.fr,a0.grow,by rw [b2]; exact a0.fresh m0⟩)
theorem eInputs_eq {p:EmpS}:eInputs p=p.inputs:=by
 unfold eInputs; simp only [bnd,rCopied_eq]
def ePosted (p:EmpS):YearS:=
 (bnd (yClone p.posted) fun a0=>
 a0)
theorem ePosted_c {p:EmpS} {p_r:Nat} {p_posted:Nat} {p_orders:Nat} {d:Dat} {w:World} (hd:∀ b,d b→b < w.heap.size) (h_p:(empR p_r p_posted p_orders p).ok d w):Ret Tryz.prog 27 [.pointer (some ⟨p_r,0,none⟩)] w [] d (fun u d' w'=>∃ (b0:Nat),u=.pointer (some ⟨b0,0,none⟩)∧Fresh (yearR b0 ((ePosted p))) d' w w'):=by
 refine ret_enter (n:=8) Tryz.func27 Z Z (ble Z) ?_
 have hI0:=Inv.start hd
 refine csr ((GA Y (gnx ((csr ((GM Y (g_y (y_nilCheck Z) Z Z (gfa fo_214_6 Z Z Z ?_)))))))))
 obtain ⟨cs1,hk2,hr3⟩:=obj_kp (M:=[]) (star_ok1 h_p) (by simp)
 have hB4:(yearR p_posted p.posted).ok d w:=(star_ok1 (star_ok2 h_p))
 have hB5:(bookR p_orders p.orders).ok d w:=(star_ok2 (star_ok2 h_p))
 obtain ⟨b6,b7,b8,b9,c0,c1,rfl,a4,a5,a6,a7,a8,a9,hi6,hi7,hi8,hi9⟩:=hr3
 obtain ⟨c2,c3,rfl,c4,c5⟩:=a4.fm
 obtain ⟨c6,c7,rfl,c8,c9⟩:=a5.fm
 obtain ⟨d0,d1,rfl,d2,d3⟩:=a6.fm
 obtain ⟨d4,d5,rfl,d6,b1⟩:=a7
 obtain rfl:=b1
 obtain ⟨d7,d8,rfl,d9,e0⟩:=a8.fm
 obtain ⟨e1,e2,rfl,e3,e4⟩:=a9.fm
 refine g_y (y_load1 sh_58 Z ((hk2.at_ hI0).nth_ (i:=14) Z)) Z Z ?_
 have a2:=yClone_c (y:=p.posted) (y_r:=p_posted) hI0.lt hB4
 obtain ⟨a3,a1⟩:∃ r,yClone p.posted=r:=⟨_,rfl⟩
 rw [a1] at a2
 have h8r47:a3.slips.length=p.posted.slips.length:=by rw [← a1,yClone_eq]
 refine g_e (ev_call pf_121 Z a2) Z Z ?_
 rintro _ e5 ⟨e6,b2,b3,e7,rfl,b4⟩
 obtain ⟨a0,e8⟩:=hI0.take b2 b3 b4
 have e9:=yearR_inv (a0.ok _ m0)
 refine GA Y (gnx ((c_ret ?_)))
 have b5:ePosted p=a3:=ET (BE a1) (rfl)
 refine x_ret ⟨_,_,rfl,rfl,rfl⟩ (⟨_,_,rfl,a0.fr,a0.grow,by rw [b5]; exact ⟨_,rfl,a0.fresh m0⟩⟩)
def eInputsWith (p:EmpS):(List Input):=
 (bnd (clInput p.inputs) fun a0=>
 (a0 ++ [(⟨p.code,p.next⟩:Input)]))
theorem eInputsWith_c {p:EmpS} {p_r:Nat} {p_posted:Nat} {p_orders:Nat} {d:Dat} {w:World} (hd:∀ b,d b→b < w.heap.size) (h_p:(empR p_r p_posted p_orders p).ok d w):Ret Tryz.prog 113 [.pointer (some ⟨p_r,0,none⟩)] w [] d (fun u d' w'=>∃ (v0:Value),u=v0∧Sl inputTy d' w' v0 (eInputsWith p)):=by
 refine ret_enter (n:=19) Tryz.func113 Z Z (ble Z) ?_
 have hI0:=Inv.start hd
 refine csr ((GA Y (gnx ((c_seq ?_)))))
 have a0:=hI0.drew; have a1:=Le.drew d w
 refine c_drawK 16 follows_mixed a0 (k_y 0 (by kernel_rfl) Z Z Z (fun _ _=>(y_move Z)) (k_y 1 (by kernel_rfl) Z Z Z (fun _ _=>(y_nilCheck Z)) (k_y 2 (by kernel_rfl) Z Z Z (fun _ _=>(y_fieldAddr fo_214_5 Z)) ?_)))
 obtain ⟨e6,a2,c4⟩:=obj_kp (M:=[]) (star_ok1 h_p) (by simp)
 have e7:(yearR p_posted p.posted).ok d w:=(star_ok1 (star_ok2 h_p))
 have e8:(bookR p_orders p.orders).ok d w:=(star_ok2 (star_ok2 h_p))
 obtain ⟨e9,f0,f1,f2,f3,f4,rfl,c5,c6,c7,c8,a3,a4,f5,f6,f7,f8⟩:=c4
 obtain ⟨f9,g0,rfl,g1,g2⟩:=c5.fm
 obtain ⟨g3,g4,rfl,g5,g6⟩:=c6.fm
 obtain ⟨g7,g8,rfl,g9,h0⟩:=c7.fm
 obtain ⟨h1,h2,rfl,h3,c9⟩:=c8
 obtain rfl:=c9
 obtain ⟨b0,b1,rfl,h4,h5⟩:=a3.fm
 obtain ⟨h6,h7,rfl,h8,h9⟩:=a4.fm
 refine k_y 3 (by kernel_rfl) Z Z Z (fun i0 ⟨i1,d0,i2⟩=>(y_load1 sh_79 Z ((a2.at_ d0).nth_ (i:=13) Z))) (k_y 5 (by kernel_rfl) Z Z Z (fun _ _=>(y_move Z)) (k_y 6 (by kernel_rfl) Z Z Z (fun _ _=>(y_nilCheck Z)) (k_y 7 (by kernel_rfl) Z Z Z (fun _ _=>(y_fieldAddr fo_214_2 Z)) (k_y 8 (by kernel_rfl) Z Z Z (fun i3 ⟨i4,d1,i5⟩=>(y_loadA (cs:=[.int .i64 p.code.scheme,.int .i64 p.code.kind,.int .i64 p.code.amount,.int .i64 p.code.flat,.bool p.code.alone]) sh_28 Z ((a2.at_ d1).part (f:=6) (.skip _ (.skip _ (.skip _ (.skip _ (.skip _ (.skip _ (.take _ (.take _ (.take _ (.take _ (.take _ (.nil _))))))))))))))) (k_y 9 (by kernel_rfl) Z Z Z (fun _ _=>(y_move Z)) (k_y 10 (by kernel_rfl) Z Z Z (fun _ _=>(y_nilCheck Z)) (k_y 11 (by kernel_rfl) Z Z Z (fun _ _=>(y_fieldAddr fo_214_4 Z)) (k_y 12 (by kernel_rfl) Z Z Z (fun i6 ⟨i7,d2,i8⟩=>(y_load1 sh_43 Z ((a2.at_ d2).nth_ (i:=12) Z))) (k_y 13 (by kernel_rfl) Z Z Z (fun _ _=>(y_build ze_112 pl_112 (.cons Z Z Z Z (.here _ _ (.here _ _ (.here _ _ (.here _ _ (.here _ _ (.nil _)))))) (ble Z) (.cons Z Z Z Z (.next _ (.next _ (.next _ (.next _ (.next _ (.here _ _ (.nil _))))))) (ble Z) (.nil _))))) (k_all (is:=[4,14]) (by kernel_rfl) (by simp) (.cons ?_ (.cons ?_ .nil))))))))))))
 ·have b2:=clInput_c (s:=p.inputs) a0.lt (a4.mono a1)
  obtain ⟨b3,a5⟩:∃ r,clInput p.inputs=r:=⟨_,rfl⟩
  rw [a5] at b2
  have h8r239:b3.length=p.inputs.length:=by rw [← a5,clInput_eq]
  refine k_op Z Z Z (ev_row a0 pf_156 Z b2) ?_
  rintro _ i9 ⟨j0,j1,j2,rfl,a6,b4⟩
  have d3:=row_len (a6.ok _ m0); unfold big at d3
  refine k_next (a6.drop (.hd _)) b4 (k_all (is:=[14]) (by kernel_rfl) (by simp) (.cons ?_ .nil))
  refine k_op Z Z Z (ev_buildSl (T:=inputTy) (xs:=[(⟨p.code,p.next⟩:Input)]) a6 el_79 ze_112 Z Z (ble Z) (ble Z) (.cons Z Z Z Z (.here _ _ (.here _ _ (.here _ _ (.here _ _ (.here _ _ (.here _ _ (.nil _))))))) (ble Z) (.nil _)) (.cons (x:=(⟨p.code,p.next⟩:Input)) (cs:=[.int .i64 p.code.scheme,.int .i64 p.code.kind,.int .i64 p.code.amount,.int .i64 p.code.flat,.bool p.code.alone,.slice b0 (p.next).length b1]) ⟨_,rfl,(a3.mono (a1.t b4))⟩ .nil)) ?_
  rintro _ j3 ⟨j4,b5,d4,d5,j5,rfl⟩
  refine k_next (b5.drop (.hd _)) d4 (k_all (is:=[15]) (by kernel_rfl) (by simp) (.cons ?_ .nil))
  refine k_op Z Z Z (ev_append b5 ei_79 Z Z m0 d5 (by simp only [LA,LC,LN,big] at *; omega) (by simp only [LA,LC,LN,big] at *; omega)) ?_
  rintro _ j6 ⟨d6,d7,j7,j8,rfl⟩
  have b6:=d6 _ (.hd _)
  refine k_next (b6.drop (.hd _)) d7 (k_all (is:=[16]) (by kernel_rfl) (by simp) (.cons ?_ .nil))
  refine k_op Z Z Z (Ev.of_y2 (y_assign Z)) ?_
  rintro _ _ ⟨rfl,rfl⟩
  refine k_bar (b_done (by kernel_rfl) (x_draw ?_) (by kernel_rfl))
  refine x_next (c_ret ?_)
  obtain ⟨j9,b7,k0,d8⟩:=pub_row b6 (.hd _) (by simp)
  have d9:eInputsWith p=(b3 ++ [(⟨p.code,p.next⟩:Input)]):=ET (BE a5) (rfl)
  refine x_ret ⟨_,_,rfl,rfl,rfl⟩ (⟨_,_,rfl,b7.fr,b7.grow,by rw [d9]; exact ⟨_,rfl,d8⟩⟩)
 ·refine k_op Z Z Z (ev_buildSl (T:=inputTy) (xs:=[(⟨p.code,p.next⟩:Input)]) a0 el_79 ze_112 Z Z (ble Z) (ble Z) (.cons Z Z Z Z (.here _ _ (.here _ _ (.here _ _ (.here _ _ (.here _ _ (.here _ _ (.nil _))))))) (ble Z) (.nil _)) (.cons (x:=(⟨p.code,p.next⟩:Input)) (cs:=[.int .i64 p.code.scheme,.int .i64 p.code.kind,.int .i64 p.code.amount,.int .i64 p.code.flat,.bool p.code.alone,.slice b0 (p.next).length b1]) ⟨_,rfl,(a3.mono a1)⟩ .nil)) ?_
  rintro _ k1 ⟨k2,a7,b8,e0,k3,rfl⟩
  refine k_next a7 b8 (k_all (is:=[4]) (by kernel_rfl) (by simp) (.cons ?_ .nil))
  have b9:=clInput_c (s:=p.inputs) a7.lt (a4.mono (a1.t b8))
  obtain ⟨c0,a8⟩:∃ r,clInput p.inputs=r:=⟨_,rfl⟩
  rw [a8] at b9
  have h8r272:c0.length=p.inputs.length:=by rw [← a8,clInput_eq]
  refine k_op Z Z Z (ev_row a7 pf_156 Z b9) ?_
  rintro _ k4 ⟨k5,k6,k7,rfl,a9,c1⟩
  have e1:=row_len (a9.ok _ m0); unfold big at e1
  refine k_next (a9.drop (.hd _)) c1 (k_all (is:=[15]) (by kernel_rfl) (by simp) (.cons ?_ .nil))
  refine k_op Z Z Z (ev_append a9 ei_79 Z Z m0 (e0.mono c1) (by simp only [LA,LC,LN,big] at *; omega) (by simp only [LA,LC,LN,big] at *; omega)) ?_
  rintro _ k8 ⟨e2,e3,k9,l0,rfl⟩
  have c2:=e2 _ (.hd _)
  refine k_next (c2.drop (.hd _)) e3 (k_all (is:=[16]) (by kernel_rfl) (by simp) (.cons ?_ .nil))
  refine k_op Z Z Z (Ev.of_y2 (y_assign Z)) ?_
  rintro _ _ ⟨rfl,rfl⟩
  refine k_bar (b_done (by kernel_rfl) (x_draw ?_) (by kernel_rfl))
  refine x_next (c_ret ?_)
  obtain ⟨l1,c3,l2,e4⟩:=pub_row c2 (.hd _) (by simp)
  have e5:eInputsWith p=(c0 ++ [(⟨p.code,p.next⟩:Input)]):=ET (BE a8) (rfl)
  refine x_ret ⟨_,_,rfl,rfl,rfl⟩ (⟨_,_,rfl,c3.fr,c3.grow,by rw [e5]; exact ⟨_,rfl,e4⟩⟩)
theorem eInputsWith_eq {p:EmpS}:eInputsWith p=p.inputs ++ [⟨p.code,p.next⟩]:=by
 unfold eInputsWith; simp only [bnd,clInput_eq]
def eTry_m1 (p:EmpS) (gross:Int):Int × List Bases × Int × Int × Int × Int × List Share:=
 (bnd (eInputsWith p) fun a1=>
 (bnd (rReckon p.table p.year gross a1) fun a0=>
 (a0.2,a0.1.periods,a0.1.sum.cash,a0.1.sum.taxable,a0.1.sum.social,a0.1.tax,a0.1.shares)))
def eTry_m2 (p:EmpS) (a1:List Bases) (a2:Int) (a3:Int) (a4:Int) (a5:Int) (a6:List Share):Int × Int × Int × Int × Int × Int × Int × List Share × Int × List Taken × Int:=
 (bnd (yTotals p.posted) fun a7=>
 (bnd (ePeriod p) fun a8=>
 (bnd (rSlip p.table a7 ((⟨a1,(⟨a2,a3,a4⟩:Bases),a5,a6⟩:Clean)) a8 ((!p.code.alone))) fun a0=>
 (a0.2,a0.1.period,a0.1.bases.cash,a0.1.bases.taxable,a0.1.bases.social,a0.1.tax,a0.1.shortfall,a0.1.shares,a0.1.net,a0.1.taken,a0.1.pay))))
def eTry_m3 (p:EmpS) (a0:Int) (a1:Int) (a2:Int) (a3:Int) (a4:Int) (a5:Int) (a6:List Share) (a7:Int) (a8:List Taken) (a9:Int):Int:=
 (bnd (yTry p.posted ((⟨a0,(⟨a1,a2,a3⟩:Bases),a4,a5,a6,a7,a8,a9⟩:Slip))) fun b0=>
 b0.2)
def eTry (p:EmpS) (gross:Int):Slip × Int:=
 (bnd (eOpen p) fun a0=>
 (if (a0≠0) then ((⟨0,(⟨0,0,0⟩:Bases),0,0,([]:List Share),0,([]:List Taken),0⟩:Slip),a0)
 else (bnd (eTry_m1 p gross) fun ⟨a1,b4,b5,b6,b7,b8,b9⟩=>
 (if (a1≠0) then ((⟨0,(⟨0,0,0⟩:Bases),0,0,([]:List Share),0,([]:List Taken),0⟩:Slip),a1)
 else (bnd (eTry_m2 p b4 b5 b6 b7 b8 b9) fun ⟨a2,a3,a4,a5,a6,a7,a8,a9,b0,b1,b2⟩=>
 (if (a2≠0) then ((⟨0,(⟨0,0,0⟩:Bases),0,0,([]:List Share),0,([]:List Taken),0⟩:Slip),a2)
 else (bnd (eTry_m3 p a3 a4 a5 a6 a7 a8 a9 b0 b1 b2) fun b3=>
 (if (b3≠0) then ((⟨0,(⟨0,0,0⟩:Bases),0,0,([]:List Share),0,([]:List Taken),0⟩:Slip),b3)
 else ((⟨a3,(⟨a4,a5,a6⟩:Bases),a7,a8,a9,b0,b1,b2⟩:Slip),0)))))))))
theorem eTry_c {p:EmpS} {p_r:Nat} {p_posted:Nat} {p_orders:Nat} {gross:Int} {d:Dat} {w:World} (hd:∀ b,d b→b < w.heap.size) (h_p:(empR p_r p_posted p_orders p).ok d w):Ret Tryz.prog 76 [.pointer (some ⟨p_r,0,none⟩),.int .i64 gross] w [] d (fun u d' w'=>∃ (cs0:List Value),u=.tuple #[.agg cs0.toArray,.int .i64 ((eTry p gross).2)]∧slipTy.rel d' w' (eTry p gross).1 cs0):=by
 refine ret_enter (n:=77) Tryz.func76 Z Z (ble Z) ?_
 have hI0:=Inv.start hd
 refine csr ((g_e (ev_alloc hI0 ze_51) Z Z ?_))
 rintro _ w1 ⟨b4,rfl,hI2,hle3⟩
 refine GA Y (gnx ((c_seq (csr ((GM Y ?_))))))
 have m8:=eOpen_c (p:=p) (p_r:=p_r) (p_posted:=p_posted) (p_orders:=p_orders) hI2.lt (Res.keepB _ h_p hle3 hI2 (by simp))
 obtain ⟨w0,f7⟩:∃ r,eOpen p=r:=⟨_,rfl⟩
 rw [f7] at m8
 refine g_e (ev_pure hI2 pf_107 Z m8) Z Z ?_
 rintro _ m9 ⟨n0,n1,a0,rfl⟩
 refine GA Y (gnx ((csr ((GM Y (g_y (y_neq Z Z) Z Z (gnx ((c_cond Z (fun c8=>?_) (fun c8=>?_))))))))))
 ·replace c8:=OT c8
  refine csr ((g_y (y_build ze_51 pl_51 (.nil _)) Z Z (GM Y (g_e (ev_store n1 Z Z Z sz_51 Z (.here _ _ (.here _ _ (.here _ _ (.here _ _ (.here _ _ (.here _ _ (.here _ _ (.here _ _ (.here _ _ (.here _ _ (.nil _))))))))))) (.hd _)) Z Z ?_))))
  rintro _ a26 ⟨k2,a27⟩
  refine GA Y (gnx ((c_ret ?_)))
  have w2:eTry p gross=((⟨0,(⟨0,0,0⟩:Bases),0,0,([]:List Share),0,([]:List Taken),0⟩:Slip),w0):=ET (BE f7) (ET (IP c8) (rfl))
  refine x_thenR (x_ret ⟨_,_,_,rfl,rfl,blk_cells k2 m0,sh_51,⟨_,_,rfl,rfl,rfl⟩⟩ ?_)
  exact ⟨_,_,rfl,k2.fr,k2.grow,by rw [w2]; exact ⟨_,rfl,⟨_,_,rfl,(Sl.nil_ _ _ _ none 0),(Sl.nil_ _ _ _ none 0)⟩⟩⟩
 ·replace c8:=OF c8
  refine c_skip (x_next (c_cut (ι:=Int × Nat × List Bases × Option Addr × Nat × Int × Int × Int × Int × List Share × Option Addr × Nat × Dat) (fun ⟨g1,f8,a2,e1,e2,a5,a6,a7,a8,a3,e3,e4,d3⟩=>[(0,.pointer (some ⟨p_r,0,none⟩)),(4,.pointer (some ⟨b4,0,none⟩)),(7,.pointer (some ⟨f8,0,none⟩)),(8,.int .i64 g1)]) (fun ⟨g1,f8,a2,e1,e2,a5,a6,a7,a8,a3,e3,e4,d3⟩ e5=>Inv [] d w d3 [blk f8 97 [.slice e1 (a2).length e2,.int .i64 a5,.int .i64 a6,.int .i64 a7,.int .i64 a8,.slice e3 (a3).length e4],blk b4 51 [.int .i64 0,.int .i64 0,.int .i64 0,.int .i64 0,.int .i64 0,.int .i64 0,.slice none 0 0,.int .i64 0,.slice none 0 0,.int .i64 0]] e5∧Le n0 m9 d3 e5∧eTry_m1 p gross=(g1,a2,a5,a6,a7,a8,a3)∧Sl basesTy d3 e5 (.slice e1 a2.length e2) a2∧Sl shareTy d3 e5 (.slice e3 a3.length e4) a3) ?_ ?_))
  ·have g2:=n1.drew; have b0:=Le.drew n0 m9
   refine c_drawK 17 follows_mixed g2 (k_y 0 (by kernel_rfl) Z Z Z (fun _ _=>(y_move Z)) (k_y 1 (by kernel_rfl) Z Z Z (fun _ _=>(y_nilCheck Z)) (k_y 2 (by kernel_rfl) Z Z Z (fun _ _=>(y_fieldAddr fo_214_0 Z)) ?_)))
   obtain ⟨a28,n2,w3⟩:=obj_kp (M:=[]) (star_ok1 h_p) (by simp)
   have a29:(yearR p_posted p.posted).ok d w:=(star_ok1 (star_ok2 h_p))
   have a2a:(bookR p_orders p.orders).ok d w:=(star_ok2 (star_ok2 h_p))
   obtain ⟨a2b,a2c,a2d,a2e,a2f,a2g,rfl,h5,h6,h7,w4,w5,w6,a2h,a2i,a2j,a2k⟩:=w3
   obtain ⟨w7,w8,rfl,a2l,a2m⟩:=h5.fm
   obtain ⟨w9,x0,rfl,a2n,a2o⟩:=h6.fm
   obtain ⟨x1,x2,rfl,a2p,a2q⟩:=h7.fm
   obtain ⟨a2r,a2s,rfl,k3,x3⟩:=w4
   obtain rfl:=x3
   obtain ⟨a2t,a2u,rfl,a2v,a2w⟩:=w5.fm
   obtain ⟨a2x,a2y,rfl,a2z,a30⟩:=w6.fm
   refine k_y 3 (by kernel_rfl) Z Z Z (fun a31 ⟨a32,x4,a33⟩=>(y_loadA (cs:=[.slice w7 (p.table.schemes).length w8,.slice w9 (p.table.contribs).length x0,.slice x1 (p.table.kinds).length x2,.int .i64 p.table.limit,.int .i64 p.table.round]) sh_26 Z ((n2.at_ x4).part (f:=0) (.take _ (.take _ (.take _ (.take _ (.take _ (.nil _))))))))) (k_y 4 (by kernel_rfl) Z Z Z (fun _ _=>(y_move Z)) (k_y 5 (by kernel_rfl) Z Z Z (fun _ _=>(y_nilCheck Z)) (k_y 6 (by kernel_rfl) Z Z Z (fun _ _=>(y_fieldAddr fo_214_1 Z)) (k_y 7 (by kernel_rfl) Z Z Z (fun a34 ⟨a35,x5,a36⟩=>(y_load1 sh_93 Z ((n2.at_ x5).nth_ (i:=5) Z))) (k_y 8 (by kernel_rfl) Z Z Z (fun _ _=>(y_move Z)) (k_y 9 (by kernel_rfl) Z Z Z (fun _ _=>(y_move Z)) (k_all (is:=[10,15]) (by kernel_rfl) (by simp) (.cons ?_ (.cons ?_ .nil)))))))))
   ·have n3:=eInputsWith_c (p:=p) (p_r:=p_r) (p_posted:=p_posted) (p_orders:=p_orders) g2.lt (Res.keepB _ h_p ((hle3.t a0).t b0) g2 (by simp))
    obtain ⟨g3,h8⟩:∃ r,eInputsWith p=r:=⟨_,rfl⟩
    rw [h8] at n3
    have h8r888:g3.length=p.inputs.length + 1:=by rw [← h8]; unfold eInputsWith; simp [bnd,clInput_eq]
    try dsimp only at h8r888
    refine k_op Z Z Z (ev_pure g2 pf_113 Z n3) ?_
    rintro _ a37 ⟨a38,h9,c3,⟨a39,rfl,k4⟩⟩
    obtain ⟨a3a,a3b,rfl,a3c,a3d⟩:=k4.fm
    refine k_next h9 c3 (k_all (is:=[11,15]) (by kernel_rfl) (by simp) (.cons ?_ (.cons ?_ .nil)))
    ·have n4:=rReckon_c (t:=p.table) (y:=p.year) (gross:=gross) (list:=g3) h9.lt (show tableTy.rel _ _ p.table _ from ⟨_,_,_,rfl,(h5.mono (((hle3.t a0).t b0).t c3)),(h6.mono (((hle3.t a0).t b0).t c3)),(h7.mono (((hle3.t a0).t b0).t c3))⟩) (show PtrD pYearTy _ _ _ p.year from ⟨_,_,rfl,(k3.mono (((hle3.t a0).t b0).t c3)),rfl⟩) k4
     obtain ⟨e6,n5⟩:∃ r,rReckon p.table p.year gross g3=r:=⟨_,rfl⟩
     rw [n5] at n4
     refine k_op Z Z Z (ev_pure h9 pf_42 Z n4) ?_
     rintro _ a3e ⟨x6,n6,n7,⟨a3f,rfl,x7⟩⟩
     obtain ⟨a3g,a3h,rfl,n8,n9⟩:=x7
     obtain ⟨x8,x9,rfl,a3i,a3j⟩:=n8.fm
     obtain ⟨y0,y1,rfl,a3k,a3l⟩:=n9.fm
     refine k_next n6 n7 (k_y 12 (by kernel_rfl) Z Z Z (fun _ _=>(y_move Z)) (k_y 13 (by kernel_rfl) Z Z Z (fun _ _=>(y_extract Z Z)) (k_y 14 (by kernel_rfl) Z Z Z (fun _ _=>(y_extract Z Z)) (k_all (is:=[15]) (by kernel_rfl) (by simp) (.cons ?_ .nil)))))
     refine k_op Z Z Z (ev_alloc n6 ze_97) ?_
     rintro _ a3m ⟨y2,rfl,o0,i0⟩
     refine k_next (o0.drop (.hd _)) i0 (k_all (is:=[16]) (by kernel_rfl) (by simp) (.cons ?_ .nil))
     refine k_op Z Z Z (ev_store o0 Z Z Z sz_97 Z (.here _ _ (.here _ _ (.here _ _ (.here _ _ (.here _ _ (.here _ _ (.nil _))))))) (.hd _)) ?_
     rintro _ a3n ⟨o1,i1⟩
     refine k_next (o1.drop (.hd _)) i1 (k_all (is:=[17]) (by kernel_rfl) (by simp) (.cons ?_ .nil))
     refine k_op Z Z Z (Ev.of_y2 (y_assign Z)) ?_
     rintro _ _ ⟨rfl,rfl⟩
     refine k_bar (b_done (by kernel_rfl) (x_draw ?_) (by kernel_rfl))
     have y3:=o1.front (.hd _)
     refine x_cut (e6.2,y2,e6.1.periods,x8,x9,e6.1.sum.cash,e6.1.sum.taxable,e6.1.sum.social,e6.1.tax,e6.1.shares,y0,y1,x6) (.cons Z (.cons Z (.cons Z (.cons Z (.nil _))))) ⟨y3,((((b0.t c3).t n7).t i0).t i1),ET (BE h8) (ET (BE n5) (rfl)),(n8.mono (i0.t i1)),(n9.mono (i0.t i1))⟩
    ·refine k_op Z Z Z (ev_alloc h9 ze_97) ?_
     rintro _ a3o ⟨y4,rfl,k5,e7⟩
     refine k_next (k5.drop (.hd _)) e7 (k_all (is:=[11]) (by kernel_rfl) (by simp) (.cons ?_ .nil))
     have o2:=rReckon_c (t:=p.table) (y:=p.year) (gross:=gross) (list:=g3) k5.lt (show tableTy.rel _ _ p.table _ from ⟨_,_,_,rfl,(h5.mono ((((hle3.t a0).t b0).t c3).t e7)),(h6.mono ((((hle3.t a0).t b0).t c3).t e7)),(h7.mono ((((hle3.t a0).t b0).t c3).t e7))⟩) (show PtrD pYearTy _ _ _ p.year from ⟨_,_,rfl,(k3.mono ((((hle3.t a0).t b0).t c3).t e7)),rfl⟩) (k4.mono e7)
     obtain ⟨e8,o3⟩:∃ r,rReckon p.table p.year gross g3=r:=⟨_,rfl⟩
     rw [o3] at o2
     refine k_op Z Z Z (ev_pure k5 pf_42 Z o2) ?_
     rintro _ a3p ⟨y5,o4,o5,⟨a3q,rfl,y6⟩⟩
     obtain ⟨a3r,a3s,rfl,o6,o7⟩:=y6
     obtain ⟨y7,y8,rfl,a3t,a3u⟩:=o6.fm
     obtain ⟨y9,z0,rfl,a3v,a3w⟩:=o7.fm
     refine k_next (o4.drop (.hd _)) o5 (k_y 12 (by kernel_rfl) Z Z Z (fun _ _=>(y_move Z)) (k_y 13 (by kernel_rfl) Z Z Z (fun _ _=>(y_extract Z Z)) (k_y 14 (by kernel_rfl) Z Z Z (fun _ _=>(y_extract Z Z)) (k_all (is:=[16]) (by kernel_rfl) (by simp) (.cons ?_ .nil)))))
     refine k_op Z Z Z (ev_store o4 Z Z Z sz_97 Z (.here _ _ (.here _ _ (.here _ _ (.here _ _ (.here _ _ (.here _ _ (.nil _))))))) (.hd _)) ?_
     rintro _ a3x ⟨o8,i2⟩
     refine k_next (o8.drop (.hd _)) i2 (k_all (is:=[17]) (by kernel_rfl) (by simp) (.cons ?_ .nil))
     refine k_op Z Z Z (Ev.of_y2 (y_assign Z)) ?_
     rintro _ _ ⟨rfl,rfl⟩
     refine k_bar (b_done (by kernel_rfl) (x_draw ?_) (by kernel_rfl))
     have z1:=o8.front (.hd _)
     refine x_cut (e8.2,y4,e8.1.periods,y7,y8,e8.1.sum.cash,e8.1.sum.taxable,e8.1.sum.social,e8.1.tax,e8.1.shares,y9,z0,y5) (.cons Z (.cons Z (.cons Z (.cons Z (.nil _))))) ⟨z1,((((b0.t c3).t e7).t o5).t i2),ET (BE h8) (ET (BE o3) (rfl)),(o6.mono i2),(o7.mono i2)⟩
   ·refine k_op Z Z Z (ev_alloc g2 ze_97) ?_
    rintro _ a3y ⟨z2,rfl,i3,e9⟩
    refine k_next (i3.drop (.hd _)) e9 (k_all (is:=[10]) (by kernel_rfl) (by simp) (.cons ?_ .nil))
    have o9:=eInputsWith_c (p:=p) (p_r:=p_r) (p_posted:=p_posted) (p_orders:=p_orders) i3.lt (Res.keepB _ h_p (((hle3.t a0).t b0).t e9) i3 (by simp))
    obtain ⟨k6,k7⟩:∃ r,eInputsWith p=r:=⟨_,rfl⟩
    rw [k7] at o9
    have h8r963:k6.length=p.inputs.length + 1:=by rw [← k7]; unfold eInputsWith; simp [bnd,clInput_eq]
    try dsimp only at h8r963
    refine k_op Z Z Z (ev_pure i3 pf_113 Z o9) ?_
    rintro _ a3z ⟨a40,k8,f9,⟨a41,rfl,p0⟩⟩
    obtain ⟨a42,a43,rfl,a44,a45⟩:=p0.fm
    refine k_next (k8.drop (.hd _)) f9 (k_all (is:=[11]) (by kernel_rfl) (by simp) (.cons ?_ .nil))
    have p1:=rReckon_c (t:=p.table) (y:=p.year) (gross:=gross) (list:=k6) k8.lt (show tableTy.rel _ _ p.table _ from ⟨_,_,_,rfl,(h5.mono ((((hle3.t a0).t b0).t e9).t f9)),(h6.mono ((((hle3.t a0).t b0).t e9).t f9)),(h7.mono ((((hle3.t a0).t b0).t e9).t f9))⟩) (show PtrD pYearTy _ _ _ p.year from ⟨_,_,rfl,(k3.mono ((((hle3.t a0).t b0).t e9).t f9)),rfl⟩) p0
    obtain ⟨f0,p2⟩:∃ r,rReckon p.table p.year gross k6=r:=⟨_,rfl⟩
    rw [p2] at p1
    refine k_op Z Z Z (ev_pure k8 pf_42 Z p1) ?_
    rintro _ a46 ⟨z3,p3,p4,⟨a47,rfl,z4⟩⟩
    obtain ⟨a48,a49,rfl,p5,p6⟩:=z4
    obtain ⟨z5,z6,rfl,a4a,a4b⟩:=p5.fm
    obtain ⟨z7,z8,rfl,a4c,a4d⟩:=p6.fm
    refine k_next (p3.drop (.hd _)) p4 (k_y 12 (by kernel_rfl) Z Z Z (fun _ _=>(y_move Z)) (k_y 13 (by kernel_rfl) Z Z Z (fun _ _=>(y_extract Z Z)) (k_y 14 (by kernel_rfl) Z Z Z (fun _ _=>(y_extract Z Z)) (k_all (is:=[16]) (by kernel_rfl) (by simp) (.cons ?_ .nil)))))
    refine k_op Z Z Z (ev_store p3 Z Z Z sz_97 Z (.here _ _ (.here _ _ (.here _ _ (.here _ _ (.here _ _ (.here _ _ (.nil _))))))) (.hd _)) ?_
    rintro _ a4e ⟨p7,i4⟩
    refine k_next (p7.drop (.hd _)) i4 (k_all (is:=[17]) (by kernel_rfl) (by simp) (.cons ?_ .nil))
    refine k_op Z Z Z (Ev.of_y2 (y_assign Z)) ?_
    rintro _ _ ⟨rfl,rfl⟩
    refine k_bar (b_done (by kernel_rfl) (x_draw ?_) (by kernel_rfl))
    have z9:=p7.front (.hd _)
    refine x_cut (f0.2,z2,f0.1.periods,z5,z6,f0.1.sum.cash,f0.1.sum.taxable,f0.1.sum.social,f0.1.tax,f0.1.shares,z7,z8,z3) (.cons Z (.cons Z (.cons Z (.cons Z (.nil _))))) ⟨z9,((((b0.t e9).t f9).t p4).t i4),ET (BE k7) (ET (BE p2) (rfl)),(p5.mono i4),(p6.mono i4)⟩
  ·rintro ⟨g1,f8,a2,e1,e2,a5,a6,a7,a8,a3,e3,e4,d3⟩ e5 ⟨p8,a9,i5,g4,g5⟩
   have a00:=g4.len.2.2; unfold big at a00
   have a01:=g5.len.2.2; unfold big at a01
   refine c_seq (csr ((GM Y (g_y (y_neq Z Z) Z Z (gnx ((c_cond Z (fun c9=>?_) (fun c9=>?_))))))))
   ·replace c9:=OT c9
    refine csr ((g_y (y_build ze_51 pl_51 (.nil _)) Z Z (GM Y (g_e (ev_store p8 Z Z Z sz_51 Z (.here _ _ (.here _ _ (.here _ _ (.here _ _ (.here _ _ (.here _ _ (.here _ _ (.here _ _ (.here _ _ (.here _ _ (.nil _))))))))))) (.tl _ (.hd _))) Z Z ?_))))
    rintro _ a4f ⟨k9,a4g⟩
    refine GA Y (gnx ((c_ret ?_)))
    have a02:eTry p gross=((⟨0,(⟨0,0,0⟩:Bases),0,0,([]:List Share),0,([]:List Taken),0⟩:Slip),g1):=ET (BE f7) (ET (IN c8) (ET (BE i5) (ET (IP c9) (rfl))))
    refine x_thenR (x_ret ⟨_,_,_,rfl,rfl,blk_cells k9 m1,sh_51,⟨_,_,rfl,rfl,rfl⟩⟩ ?_)
    exact ⟨_,_,rfl,k9.fr,k9.grow,by rw [a02]; exact ⟨_,rfl,⟨_,_,rfl,(Sl.nil_ _ _ _ none 0),(Sl.nil_ _ _ _ none 0)⟩⟩⟩
   ·replace c9:=OF c9
    refine c_skip (x_next (c_cut (ι:=Int × Nat × Int × Int × Int × Int × Int × Int × List Share × Option Addr × Nat × Int × List Taken × Option Addr × Nat × Int × Dat) (fun ⟨g6,g0,b3,b5,b6,b7,b8,b9,b1,f1,f2,c0,b2,f3,f4,c1,d4⟩=>[(0,.pointer (some ⟨p_r,0,none⟩)),(4,.pointer (some ⟨b4,0,none⟩)),(8,.int .i64 g6),(9,.pointer (some ⟨g0,0,none⟩))]) (fun ⟨g6,g0,b3,b5,b6,b7,b8,b9,b1,f1,f2,c0,b2,f3,f4,c1,d4⟩ f5=>Inv [] d w d4 [blk g0 51 [.int .i64 b3,.int .i64 b5,.int .i64 b6,.int .i64 b7,.int .i64 b8,.int .i64 b9,.slice f1 (b1).length f2,.int .i64 c0,.slice f3 (b2).length f4,.int .i64 c1],blk f8 97 [.slice e1 (a2).length e2,.int .i64 a5,.int .i64 a6,.int .i64 a7,.int .i64 a8,.slice e3 (a3).length e4],blk b4 51 [.int .i64 0,.int .i64 0,.int .i64 0,.int .i64 0,.int .i64 0,.int .i64 0,.slice none 0 0,.int .i64 0,.slice none 0 0,.int .i64 0]] f5∧Le d3 e5 d4 f5∧eTry_m2 p a2 a5 a6 a7 a8 a3=(g6,b3,b5,b6,b7,b8,b9,b1,c0,b2,c1)∧Sl shareTy d4 f5 (.slice f1 b1.length f2) b1∧Sl takenTy d4 f5 (.slice f3 b2.length f4) b2) ?_ ?_))
    ·have g7:=p8.drew; have a1:=Le.drew d3 e5
     refine c_drawK 24 follows_mixed g7 (k_y 0 (by kernel_rfl) Z Z Z (fun _ _=>(y_move Z)) (k_y 1 (by kernel_rfl) Z Z Z (fun _ _=>(y_nilCheck Z)) (k_y 2 (by kernel_rfl) Z Z Z (fun _ _=>(y_fieldAddr fo_214_0 Z)) ?_)))
     obtain ⟨a4h,l0,a03⟩:=obj_kp (M:=[]) (star_ok1 h_p) (by simp)
     have p9:(yearR p_posted p.posted).ok d w:=(star_ok1 (star_ok2 h_p))
     have a4i:(bookR p_orders p.orders).ok d w:=(star_ok2 (star_ok2 h_p))
     obtain ⟨a4j,a4k,a4l,a4m,a4n,a4o,rfl,g8,g9,h0,a04,a05,a06,a4p,a4q,a4r,a4s⟩:=a03
     obtain ⟨a07,a08,rfl,a4t,a4u⟩:=g8.fm
     obtain ⟨a09,a0a,rfl,a4v,a4w⟩:=g9.fm
     obtain ⟨a0b,a0c,rfl,a4x,a4y⟩:=h0.fm
     obtain ⟨a4z,a50,rfl,a51,a0d⟩:=a04
     obtain rfl:=a0d
     obtain ⟨a52,a53,rfl,a54,a55⟩:=a05.fm
     obtain ⟨a56,a57,rfl,a58,a59⟩:=a06.fm
     refine k_y 3 (by kernel_rfl) Z Z Z (fun a5a ⟨a5b,a0e,a5c⟩=>(y_loadA (cs:=[.slice a07 (p.table.schemes).length a08,.slice a09 (p.table.contribs).length a0a,.slice a0b (p.table.kinds).length a0c,.int .i64 p.table.limit,.int .i64 p.table.round]) sh_26 Z ((l0.at_ a0e).part (f:=0) (.take _ (.take _ (.take _ (.take _ (.take _ (.nil _))))))))) (k_y 4 (by kernel_rfl) Z Z Z (fun _ _=>(y_move Z)) (k_y 5 (by kernel_rfl) Z Z Z (fun _ _=>(y_nilCheck Z)) (k_y 6 (by kernel_rfl) Z Z Z (fun _ _=>(y_fieldAddr fo_214_6 Z)) (k_y 7 (by kernel_rfl) Z Z Z (fun a5d ⟨a5e,a0f,a5f⟩=>(y_load1 sh_58 Z ((l0.at_ a0f).nth_ (i:=14) Z))) (k_y 9 (by kernel_rfl) Z Z Z (fun a5g ⟨a5h,a0g,a5i⟩=>(y_loadA (cs:=[.slice e1 (a2).length e2,.int .i64 a5,.int .i64 a6,.int .i64 a7,.int .i64 a8,.slice e3 (a3).length e4]) sh_97 Z ((blk_cells a0g m0).part (f:=0) (.take _ (.take _ (.take _ (.take _ (.take _ (.take _ (.nil _)))))))))) (k_y 10 (by kernel_rfl) Z Z Z (fun _ _=>(y_move Z)) (k_y 12 (by kernel_rfl) Z Z Z (fun _ _=>(y_move Z)) (k_y 13 (by kernel_rfl) Z Z Z (fun _ _=>(y_nilCheck Z)) (k_y 14 (by kernel_rfl) Z Z Z (fun _ _=>(y_fieldAddr fo_214_2 Z)) (k_y 15 (by kernel_rfl) Z Z Z (fun _ _=>(y_fieldAddr fo_28_4 Z)) (k_y 16 (by kernel_rfl) Z Z Z (fun a5j ⟨a5k,a0h,a5l⟩=>(y_load1 sh_4 Z ((l0.at_ a0h).nth_ (i:=10) Z))) (k_y 17 (by kernel_rfl) Z Z Z (fun _ _=>(y_not Z)) (k_all (is:=[8,22]) (by kernel_rfl) (by simp) (.cons ?_ (.cons ?_ .nil)))))))))))))))
     ·have q0:=yTotals_c (y:=p.posted) (y_r:=p_posted) g7.lt (Res.keepB _ p9 (((hle3.t a0).t a9).t a1) g7 (by simp))
      obtain ⟨d0,i6⟩:∃ r,yTotals p.posted=r:=⟨_,rfl⟩
      rw [i6] at q0
      refine k_op Z Z Z (ev_pure g7 pf_30 Z q0) ?_
      rintro _ a5m ⟨a5n,h1,a4,⟨a5o,rfl,a0i⟩⟩
      obtain ⟨a5p,rfl,i7⟩:=a0i
      obtain ⟨a5q,a5r,rfl,a5s,a5t⟩:=i7.fm
      refine k_next h1 a4 (k_all (is:=[11,22]) (by kernel_rfl) (by simp) (.cons ?_ (.cons ?_ .nil)))
      ·have q1:=ePeriod_c (p:=p) (p_r:=p_r) (p_posted:=p_posted) (p_orders:=p_orders) h1.lt (Res.keepB _ h_p ((((hle3.t a0).t a9).t a1).t a4) h1 (by simp))
       obtain ⟨i8,l1⟩:∃ r,ePeriod p=r:=⟨_,rfl⟩
       rw [l1] at q1
       refine k_op Z Z Z (ev_pure h1 pf_51 Z q1) ?_
       rintro _ a5u ⟨a5v,i9,c2,rfl⟩
       refine k_next i9 c2 (k_all (is:=[18,22]) (by kernel_rfl) (by simp) (.cons ?_ (.cons ?_ .nil)))
       ·have q2:=rSlip_c (t:=p.table) (was:=d0) (c:=(⟨a2,(⟨a5,a6,a7⟩:Bases),a8,a3⟩:Clean)) (k:=i8) (back:=(!p.code.alone)) i9.lt (show tableTy.rel _ _ p.table _ from ⟨_,_,_,rfl,(g8.mono (((((hle3.t a0).t a9).t a1).t a4).t c2)),(g9.mono (((((hle3.t a0).t a9).t a1).t a4).t c2)),(h0.mono (((((hle3.t a0).t a9).t a1).t a4).t c2))⟩) (show totalsTy.rel _ _ d0 _ from ⟨_,rfl,(i7.mono c2)⟩) (show cleanTy.rel _ _ (⟨a2,(⟨a5,a6,a7⟩:Bases),a8,a3⟩:Clean) _ from ⟨_,_,rfl,(g4.mono ((a1.t a4).t c2)),(g5.mono ((a1.t a4).t c2))⟩)
        obtain ⟨c4,q3⟩:∃ r,rSlip p.table d0 ((⟨a2,(⟨a5,a6,a7⟩:Bases),a8,a3⟩:Clean)) i8 ((!p.code.alone))=r:=⟨_,rfl⟩
        rw [q3] at q2
        refine k_op Z Z Z (ev_pure i9 pf_157 Z q2) ?_
        rintro _ a5w ⟨a0j,q4,q5,⟨a5x,rfl,a0k⟩⟩
        obtain ⟨a5y,a5z,rfl,q6,q7⟩:=a0k
        obtain ⟨a0l,a0m,rfl,a60,a61⟩:=q6.fm
        obtain ⟨a0n,a0o,rfl,a62,a63⟩:=q7.fm
        refine k_next q4 q5 (k_y 19 (by kernel_rfl) Z Z Z (fun _ _=>(y_move Z)) (k_y 20 (by kernel_rfl) Z Z Z (fun _ _=>(y_extract Z Z)) (k_y 21 (by kernel_rfl) Z Z Z (fun _ _=>(y_extract Z Z)) (k_all (is:=[22]) (by kernel_rfl) (by simp) (.cons ?_ .nil)))))
        refine k_op Z Z Z (ev_alloc q4 ze_51) ?_
        rintro _ a64 ⟨a0p,rfl,q8,j0⟩
        refine k_next (q8.drop (.hd _)) j0 (k_all (is:=[23]) (by kernel_rfl) (by simp) (.cons ?_ .nil))
        refine k_op Z Z Z (ev_store q8 Z Z Z sz_51 Z (.here _ _ (.here _ _ (.here _ _ (.here _ _ (.here _ _ (.here _ _ (.here _ _ (.here _ _ (.here _ _ (.here _ _ (.nil _))))))))))) (.hd _)) ?_
        rintro _ a65 ⟨q9,j1⟩
        refine k_next (q9.drop (.hd _)) j1 (k_all (is:=[24]) (by kernel_rfl) (by simp) (.cons ?_ .nil))
        refine k_op Z Z Z (Ev.of_y2 (y_assign Z)) ?_
        rintro _ _ ⟨rfl,rfl⟩
        refine k_bar (b_done (by kernel_rfl) (x_draw ?_) (by kernel_rfl))
        have a0q:=q9.front (.hd _)
        refine x_cut (c4.2,a0p,c4.1.period,c4.1.bases.cash,c4.1.bases.taxable,c4.1.bases.social,c4.1.tax,c4.1.shortfall,c4.1.shares,a0l,a0m,c4.1.net,c4.1.taken,a0n,a0o,c4.1.pay,a0j) (.cons Z (.cons Z (.cons Z (.cons Z (.nil _))))) ⟨a0q,(((((a1.t a4).t c2).t q5).t j0).t j1),ET (BE i6) (ET (BE l1) (ET (BE q3) (rfl))),(q6.mono (j0.t j1)),(q7.mono (j0.t j1))⟩
       ·refine k_op Z Z Z (ev_alloc i9 ze_51) ?_
        rintro _ a66 ⟨a0r,rfl,l2,d5⟩
        refine k_next (l2.drop (.hd _)) d5 (k_all (is:=[18]) (by kernel_rfl) (by simp) (.cons ?_ .nil))
        have r0:=rSlip_c (t:=p.table) (was:=d0) (c:=(⟨a2,(⟨a5,a6,a7⟩:Bases),a8,a3⟩:Clean)) (k:=i8) (back:=(!p.code.alone)) l2.lt (show tableTy.rel _ _ p.table _ from ⟨_,_,_,rfl,(g8.mono ((((((hle3.t a0).t a9).t a1).t a4).t c2).t d5)),(g9.mono ((((((hle3.t a0).t a9).t a1).t a4).t c2).t d5)),(h0.mono ((((((hle3.t a0).t a9).t a1).t a4).t c2).t d5))⟩) (show totalsTy.rel _ _ d0 _ from ⟨_,rfl,(i7.mono (c2.t d5))⟩) (show cleanTy.rel _ _ (⟨a2,(⟨a5,a6,a7⟩:Bases),a8,a3⟩:Clean) _ from ⟨_,_,rfl,(g4.mono (((a1.t a4).t c2).t d5)),(g5.mono (((a1.t a4).t c2).t d5))⟩)
        obtain ⟨c5,r1⟩:∃ r,rSlip p.table d0 ((⟨a2,(⟨a5,a6,a7⟩:Bases),a8,a3⟩:Clean)) i8 ((!p.code.alone))=r:=⟨_,rfl⟩
        rw [r1] at r0
        refine k_op Z Z Z (ev_pure l2 pf_157 Z r0) ?_
        rintro _ a67 ⟨a0s,r2,r3,⟨a68,rfl,a0t⟩⟩
        obtain ⟨a69,a6a,rfl,r4,r5⟩:=a0t
        obtain ⟨a0u,a0v,rfl,a6b,a6c⟩:=r4.fm
        obtain ⟨a0w,a0x,rfl,a6d,a6e⟩:=r5.fm
        refine k_next (r2.drop (.hd _)) r3 (k_y 19 (by kernel_rfl) Z Z Z (fun _ _=>(y_move Z)) (k_y 20 (by kernel_rfl) Z Z Z (fun _ _=>(y_extract Z Z)) (k_y 21 (by kernel_rfl) Z Z Z (fun _ _=>(y_extract Z Z)) (k_all (is:=[23]) (by kernel_rfl) (by simp) (.cons ?_ .nil)))))
        refine k_op Z Z Z (ev_store r2 Z Z Z sz_51 Z (.here _ _ (.here _ _ (.here _ _ (.here _ _ (.here _ _ (.here _ _ (.here _ _ (.here _ _ (.here _ _ (.here _ _ (.nil _))))))))))) (.hd _)) ?_
        rintro _ a6f ⟨r6,j2⟩
        refine k_next (r6.drop (.hd _)) j2 (k_all (is:=[24]) (by kernel_rfl) (by simp) (.cons ?_ .nil))
        refine k_op Z Z Z (Ev.of_y2 (y_assign Z)) ?_
        rintro _ _ ⟨rfl,rfl⟩
        refine k_bar (b_done (by kernel_rfl) (x_draw ?_) (by kernel_rfl))
        have a0y:=r6.front (.hd _)
        refine x_cut (c5.2,a0r,c5.1.period,c5.1.bases.cash,c5.1.bases.taxable,c5.1.bases.social,c5.1.tax,c5.1.shortfall,c5.1.shares,a0u,a0v,c5.1.net,c5.1.taken,a0w,a0x,c5.1.pay,a0s) (.cons Z (.cons Z (.cons Z (.cons Z (.nil _))))) ⟨a0y,(((((a1.t a4).t c2).t d5).t r3).t j2),ET (BE i6) (ET (BE l1) (ET (BE r1) (rfl))),(r4.mono j2),(r5.mono j2)⟩
      ·refine k_op Z Z Z (ev_alloc h1 ze_51) ?_
       rintro _ a6g ⟨a0z,rfl,j3,d1⟩
       refine k_next (j3.drop (.hd _)) d1 (k_all (is:=[11]) (by kernel_rfl) (by simp) (.cons ?_ .nil))
       have r7:=ePeriod_c (p:=p) (p_r:=p_r) (p_posted:=p_posted) (p_orders:=p_orders) j3.lt (Res.keepB _ h_p (((((hle3.t a0).t a9).t a1).t a4).t d1) j3 (by simp))
       obtain ⟨r8,r9⟩:∃ r,ePeriod p=r:=⟨_,rfl⟩
       rw [r9] at r7
       refine k_op Z Z Z (ev_pure j3 pf_51 Z r7) ?_
       rintro _ a6h ⟨a6i,l3,d6,rfl⟩
       refine k_next (l3.drop (.hd _)) d6 (k_all (is:=[18]) (by kernel_rfl) (by simp) (.cons ?_ .nil))
       have s0:=rSlip_c (t:=p.table) (was:=d0) (c:=(⟨a2,(⟨a5,a6,a7⟩:Bases),a8,a3⟩:Clean)) (k:=r8) (back:=(!p.code.alone)) l3.lt (show tableTy.rel _ _ p.table _ from ⟨_,_,_,rfl,(g8.mono ((((((hle3.t a0).t a9).t a1).t a4).t d1).t d6)),(g9.mono ((((((hle3.t a0).t a9).t a1).t a4).t d1).t d6)),(h0.mono ((((((hle3.t a0).t a9).t a1).t a4).t d1).t d6))⟩) (show totalsTy.rel _ _ d0 _ from ⟨_,rfl,(i7.mono (d1.t d6))⟩) (show cleanTy.rel _ _ (⟨a2,(⟨a5,a6,a7⟩:Bases),a8,a3⟩:Clean) _ from ⟨_,_,rfl,(g4.mono (((a1.t a4).t d1).t d6)),(g5.mono (((a1.t a4).t d1).t d6))⟩)
       obtain ⟨c6,s1⟩:∃ r,rSlip p.table d0 ((⟨a2,(⟨a5,a6,a7⟩:Bases),a8,a3⟩:Clean)) r8 ((!p.code.alone))=r:=⟨_,rfl⟩
       rw [s1] at s0
       refine k_op Z Z Z (ev_pure l3 pf_157 Z s0) ?_
       rintro _ a6j ⟨a10,s2,s3,⟨a6k,rfl,a11⟩⟩
       obtain ⟨a6l,a6m,rfl,s4,s5⟩:=a11
       obtain ⟨a12,a13,rfl,a6n,a6o⟩:=s4.fm
       obtain ⟨a14,a15,rfl,a6p,a6q⟩:=s5.fm
       refine k_next (s2.drop (.hd _)) s3 (k_y 19 (by kernel_rfl) Z Z Z (fun _ _=>(y_move Z)) (k_y 20 (by kernel_rfl) Z Z Z (fun _ _=>(y_extract Z Z)) (k_y 21 (by kernel_rfl) Z Z Z (fun _ _=>(y_extract Z Z)) (k_all (is:=[23]) (by kernel_rfl) (by simp) (.cons ?_ .nil)))))
       refine k_op Z Z Z (ev_store s2 Z Z Z sz_51 Z (.here _ _ (.here _ _ (.here _ _ (.here _ _ (.here _ _ (.here _ _ (.here _ _ (.here _ _ (.here _ _ (.here _ _ (.nil _))))))))))) (.hd _)) ?_
       rintro _ a6r ⟨s6,j4⟩
       refine k_next (s6.drop (.hd _)) j4 (k_all (is:=[24]) (by kernel_rfl) (by simp) (.cons ?_ .nil))
       refine k_op Z Z Z (Ev.of_y2 (y_assign Z)) ?_
       rintro _ _ ⟨rfl,rfl⟩
       refine k_bar (b_done (by kernel_rfl) (x_draw ?_) (by kernel_rfl))
       have a16:=s6.front (.hd _)
       refine x_cut (c6.2,a0z,c6.1.period,c6.1.bases.cash,c6.1.bases.taxable,c6.1.bases.social,c6.1.tax,c6.1.shortfall,c6.1.shares,a12,a13,c6.1.net,c6.1.taken,a14,a15,c6.1.pay,a10) (.cons Z (.cons Z (.cons Z (.cons Z (.nil _))))) ⟨a16,(((((a1.t a4).t d1).t d6).t s3).t j4),ET (BE i6) (ET (BE r9) (ET (BE s1) (rfl))),(s4.mono j4),(s5.mono j4)⟩
     ·refine k_op Z Z Z (ev_alloc g7 ze_51) ?_
      rintro _ a6s ⟨a17,rfl,j5,d2⟩
      refine k_next (j5.drop (.hd _)) d2 (k_all (is:=[8]) (by kernel_rfl) (by simp) (.cons ?_ .nil))
      have s7:=yTotals_c (y:=p.posted) (y_r:=p_posted) j5.lt (Res.keepB _ p9 ((((hle3.t a0).t a9).t a1).t d2) j5 (by simp))
      obtain ⟨l4,s8⟩:∃ r,yTotals p.posted=r:=⟨_,rfl⟩
      rw [s8] at s7
      refine k_op Z Z Z (ev_pure j5 pf_30 Z s7) ?_
      rintro _ a6t ⟨a6u,j6,d7,⟨a6v,rfl,a18⟩⟩
      obtain ⟨a6w,rfl,s9⟩:=a18
      obtain ⟨a6x,a6y,rfl,a6z,a70⟩:=s9.fm
      refine k_next (j6.drop (.hd _)) d7 (k_all (is:=[11]) (by kernel_rfl) (by simp) (.cons ?_ .nil))
      have t0:=ePeriod_c (p:=p) (p_r:=p_r) (p_posted:=p_posted) (p_orders:=p_orders) j6.lt (Res.keepB _ h_p (((((hle3.t a0).t a9).t a1).t d2).t d7) j6 (by simp))
      obtain ⟨t1,t2⟩:∃ r,ePeriod p=r:=⟨_,rfl⟩
      rw [t2] at t0
      refine k_op Z Z Z (ev_pure j6 pf_51 Z t0) ?_
      rintro _ a71 ⟨a72,l5,d8,rfl⟩
      refine k_next (l5.drop (.hd _)) d8 (k_all (is:=[18]) (by kernel_rfl) (by simp) (.cons ?_ .nil))
      have t3:=rSlip_c (t:=p.table) (was:=l4) (c:=(⟨a2,(⟨a5,a6,a7⟩:Bases),a8,a3⟩:Clean)) (k:=t1) (back:=(!p.code.alone)) l5.lt (show tableTy.rel _ _ p.table _ from ⟨_,_,_,rfl,(g8.mono ((((((hle3.t a0).t a9).t a1).t d2).t d7).t d8)),(g9.mono ((((((hle3.t a0).t a9).t a1).t d2).t d7).t d8)),(h0.mono ((((((hle3.t a0).t a9).t a1).t d2).t d7).t d8))⟩) (show totalsTy.rel _ _ l4 _ from ⟨_,rfl,(s9.mono d8)⟩) (show cleanTy.rel _ _ (⟨a2,(⟨a5,a6,a7⟩:Bases),a8,a3⟩:Clean) _ from ⟨_,_,rfl,(g4.mono (((a1.t d2).t d7).t d8)),(g5.mono (((a1.t d2).t d7).t d8))⟩)
      obtain ⟨c7,t4⟩:∃ r,rSlip p.table l4 ((⟨a2,(⟨a5,a6,a7⟩:Bases),a8,a3⟩:Clean)) t1 ((!p.code.alone))=r:=⟨_,rfl⟩
      rw [t4] at t3
      refine k_op Z Z Z (ev_pure l5 pf_157 Z t3) ?_
      rintro _ a73 ⟨a19,t5,t6,⟨a74,rfl,a1a⟩⟩
      obtain ⟨a75,a76,rfl,t7,t8⟩:=a1a
      obtain ⟨a1b,a1c,rfl,a77,a78⟩:=t7.fm
      obtain ⟨a1d,a1e,rfl,a79,a7a⟩:=t8.fm
      refine k_next (t5.drop (.hd _)) t6 (k_y 19 (by kernel_rfl) Z Z Z (fun _ _=>(y_move Z)) (k_y 20 (by kernel_rfl) Z Z Z (fun _ _=>(y_extract Z Z)) (k_y 21 (by kernel_rfl) Z Z Z (fun _ _=>(y_extract Z Z)) (k_all (is:=[23]) (by kernel_rfl) (by simp) (.cons ?_ .nil)))))
      refine k_op Z Z Z (ev_store t5 Z Z Z sz_51 Z (.here _ _ (.here _ _ (.here _ _ (.here _ _ (.here _ _ (.here _ _ (.here _ _ (.here _ _ (.here _ _ (.here _ _ (.nil _))))))))))) (.hd _)) ?_
      rintro _ a7b ⟨t9,j7⟩
      refine k_next (t9.drop (.hd _)) j7 (k_all (is:=[24]) (by kernel_rfl) (by simp) (.cons ?_ .nil))
      refine k_op Z Z Z (Ev.of_y2 (y_assign Z)) ?_
      rintro _ _ ⟨rfl,rfl⟩
      refine k_bar (b_done (by kernel_rfl) (x_draw ?_) (by kernel_rfl))
      have a1f:=t9.front (.hd _)
      refine x_cut (c7.2,a17,c7.1.period,c7.1.bases.cash,c7.1.bases.taxable,c7.1.bases.social,c7.1.tax,c7.1.shortfall,c7.1.shares,a1b,a1c,c7.1.net,c7.1.taken,a1d,a1e,c7.1.pay,a19) (.cons Z (.cons Z (.cons Z (.cons Z (.nil _))))) ⟨a1f,(((((a1.t d2).t d7).t d8).t t6).t j7),ET (BE s8) (ET (BE t2) (ET (BE t4) (rfl))),(t7.mono j7),(t8.mono j7)⟩
    ·rintro ⟨g6,g0,b3,b5,b6,b7,b8,b9,b1,f1,f2,c0,b2,f3,f4,c1,d4⟩ f5 ⟨u0,u1,l6,j8,j9⟩
     have a1g:=j8.len.2.2; unfold big at a1g
     have a1h:=j9.len.2.2; unfold big at a1h
     refine c_seq (csr ((GM Y (g_y (y_neq Z Z) Z Z (gnx ((c_cond Z (fun d9=>?_) (fun d9=>?_))))))))
     ·replace d9:=OT d9
      refine csr ((g_y (y_build ze_51 pl_51 (.nil _)) Z Z (GM Y (g_e (ev_store u0 Z Z Z sz_51 Z (.here _ _ (.here _ _ (.here _ _ (.here _ _ (.here _ _ (.here _ _ (.here _ _ (.here _ _ (.here _ _ (.here _ _ (.nil _))))))))))) (.tl _ (.tl _ (.hd _)))) Z Z ?_))))
      rintro _ a7c ⟨l7,a7d⟩
      refine GA Y (gnx ((c_ret ?_)))
      have a1i:eTry p gross=((⟨0,(⟨0,0,0⟩:Bases),0,0,([]:List Share),0,([]:List Taken),0⟩:Slip),g6):=ET (BE f7) (ET (IN c8) (ET (BE i5) (ET (IN c9) (ET (BE l6) (ET (IP d9) (rfl))))))
      refine x_thenR (x_ret ⟨_,_,_,rfl,rfl,blk_cells l7 m2,sh_51,⟨_,_,rfl,rfl,rfl⟩⟩ ?_)
      exact ⟨_,_,rfl,l7.fr,l7.grow,by rw [a1i]; exact ⟨_,rfl,⟨_,_,rfl,(Sl.nil_ _ _ _ none 0),(Sl.nil_ _ _ _ none 0)⟩⟩⟩
     ·replace d9:=OF d9
      refine c_skip (x_next (c_seq (c_cut (ι:=Int × Dat) (fun ⟨h2,k0⟩=>[(4,.pointer (some ⟨b4,0,none⟩)),(9,.pointer (some ⟨g0,0,none⟩)),(11,.int .i64 h2)]) (fun ⟨h2,k0⟩ l8=>Inv [] d w k0 [blk g0 51 [.int .i64 b3,.int .i64 b5,.int .i64 b6,.int .i64 b7,.int .i64 b8,.int .i64 b9,.slice f1 (b1).length f2,.int .i64 c0,.slice f3 (b2).length f4,.int .i64 c1],blk f8 97 [.slice e1 (a2).length e2,.int .i64 a5,.int .i64 a6,.int .i64 a7,.int .i64 a8,.slice e3 (a3).length e4],blk b4 51 [.int .i64 0,.int .i64 0,.int .i64 0,.int .i64 0,.int .i64 0,.int .i64 0,.slice none 0 0,.int .i64 0,.slice none 0 0,.int .i64 0]] l8∧Le d4 f5 k0 l8∧eTry_m3 p b3 b5 b6 b7 b8 b9 b1 c0 b2 c1=h2) ?_ ?_)))
      ·have h3:=u0.drew; have e0:=Le.drew d4 f5
       refine c_drawK 11 follows_mixed h3 (k_y 0 (by kernel_rfl) Z Z Z (fun _ _=>(y_move Z)) (k_y 1 (by kernel_rfl) Z Z Z (fun _ _=>(y_nilCheck Z)) (k_y 2 (by kernel_rfl) Z Z Z (fun _ _=>(y_fieldAddr fo_214_6 Z)) ?_)))
       obtain ⟨a7e,a1j,a1k⟩:=obj_kp (M:=[]) (star_ok1 h_p) (by simp)
       have u2:(yearR p_posted p.posted).ok d w:=(star_ok1 (star_ok2 h_p))
       have a7f:(bookR p_orders p.orders).ok d w:=(star_ok2 (star_ok2 h_p))
       obtain ⟨a7g,a7h,a7i,a7j,a7k,a7l,rfl,a1l,a1m,a1n,a1o,a1p,a1q,a7m,a7n,a7o,a7p⟩:=a1k
       obtain ⟨a7q,a7r,rfl,a7s,a7t⟩:=a1l.fm
       obtain ⟨a7u,a7v,rfl,a7w,a7x⟩:=a1m.fm
       obtain ⟨a7y,a7z,rfl,a80,a81⟩:=a1n.fm
       obtain ⟨a82,a83,rfl,a84,a1r⟩:=a1o
       obtain rfl:=a1r
       obtain ⟨a85,a86,rfl,a87,a88⟩:=a1p.fm
       obtain ⟨a89,a8a,rfl,a8b,a8c⟩:=a1q.fm
       refine k_y 3 (by kernel_rfl) Z Z Z (fun a8d ⟨a8e,a1s,a8f⟩=>(y_load1 sh_58 Z ((a1j.at_ a1s).nth_ (i:=14) Z))) (k_y 4 (by kernel_rfl) Z Z Z (fun a8g ⟨a8h,a1t,a8i⟩=>(y_loadA (cs:=[.int .i64 b3,.int .i64 b5,.int .i64 b6,.int .i64 b7,.int .i64 b8,.int .i64 b9,.slice f1 (b1).length f2,.int .i64 c0,.slice f3 (b2).length f4,.int .i64 c1]) sh_51 Z ((blk_cells a1t m0).part (f:=0) (.take _ (.take _ (.take _ (.take _ (.take _ (.take _ (.take _ (.take _ (.take _ (.take _ (.nil _)))))))))))))) (k_all (is:=[5,9]) (by kernel_rfl) (by simp) (.cons ?_ (.cons ?_ .nil))))
       ·have u3:=yTry_c (y:=p.posted) (y_r:=p_posted) (s:=(⟨b3,(⟨b5,b6,b7⟩:Bases),b8,b9,b1,c0,b2,c1⟩:Slip)) h3.lt (Res.keepB _ u2 ((((hle3.t a0).t a9).t u1).t e0) h3 (by simp)) (show slipTy.rel _ _ (⟨b3,(⟨b5,b6,b7⟩:Bases),b8,b9,b1,c0,b2,c1⟩:Slip) _ from ⟨_,_,rfl,(j8.mono e0),(j9.mono e0)⟩)
        obtain ⟨a1u,u4⟩:∃ r,yTry p.posted ((⟨b3,(⟨b5,b6,b7⟩:Bases),b8,b9,b1,c0,b2,c1⟩:Slip))=r:=⟨_,rfl⟩
        rw [u4] at u3
        refine k_op Z Z Z (ev_pure h3 pf_158 Z u3) ?_
        rintro _ a8j ⟨a1v,u5,u6,⟨a8k,rfl,a1w⟩⟩
        obtain ⟨a8l,rfl,a1x⟩:=a1w
        obtain ⟨a8m,a8n,rfl,a8o,a8p⟩:=a1x.fm
        refine k_next u5 u6 (k_y 6 (by kernel_rfl) Z Z Z (fun _ _=>(y_move Z)) (k_y 7 (by kernel_rfl) Z Z Z (fun _ _=>(y_extract Z Z)) (k_y 8 (by kernel_rfl) Z Z Z (fun _ _=>(y_extract Z Z)) (k_all (is:=[9]) (by kernel_rfl) (by simp) (.cons ?_ .nil)))))
        refine k_op Z Z Z (ev_alloc u5 ze_64) ?_
        rintro _ a8q ⟨a8r,rfl,u7,u8⟩
        refine k_next (u7.drop (.hd _)) u8 (k_all (is:=[10]) (by kernel_rfl) (by simp) (.cons ?_ .nil))
        refine k_op Z Z Z (ev_store u7 Z Z Z sz_64 Z (.here _ _ (.here _ _ (.here _ _ (.here _ _ (.here _ _ (.here _ _ (.here _ _ (.here _ _ (.here _ _ (.nil _)))))))))) (.hd _)) ?_
        rintro _ a8s ⟨u9,v0⟩
        refine k_next (u9.drop (.hd _)) v0 (k_all (is:=[11]) (by kernel_rfl) (by simp) (.cons ?_ .nil))
        refine k_op Z Z Z (Ev.of_y2 (y_assign Z)) ?_
        rintro _ _ ⟨rfl,rfl⟩
        refine k_bar (b_done (by kernel_rfl) (x_draw ?_) (by kernel_rfl))
        have a1y:=u9.drop (.hd _)
        refine x_cut (a1u.2,a1v) (.cons Z (.cons Z (.cons Z (.nil _)))) ⟨a1y,(((e0.t u6).t u8).t v0),ET (BE u4) (rfl)⟩
       ·refine k_op Z Z Z (ev_alloc h3 ze_64) ?_
        rintro _ a8t ⟨a8u,rfl,k1,h4⟩
        refine k_next (k1.drop (.hd _)) h4 (k_all (is:=[5]) (by kernel_rfl) (by simp) (.cons ?_ .nil))
        have v1:=yTry_c (y:=p.posted) (y_r:=p_posted) (s:=(⟨b3,(⟨b5,b6,b7⟩:Bases),b8,b9,b1,c0,b2,c1⟩:Slip)) k1.lt (Res.keepB _ u2 (((((hle3.t a0).t a9).t u1).t e0).t h4) k1 (by simp)) (show slipTy.rel _ _ (⟨b3,(⟨b5,b6,b7⟩:Bases),b8,b9,b1,c0,b2,c1⟩:Slip) _ from ⟨_,_,rfl,(j8.mono (e0.t h4)),(j9.mono (e0.t h4))⟩)
        obtain ⟨a1z,v2⟩:∃ r,yTry p.posted ((⟨b3,(⟨b5,b6,b7⟩:Bases),b8,b9,b1,c0,b2,c1⟩:Slip))=r:=⟨_,rfl⟩
        rw [v2] at v1
        refine k_op Z Z Z (ev_pure k1 pf_158 Z v1) ?_
        rintro _ a8v ⟨a20,v3,v4,⟨a8w,rfl,a21⟩⟩
        obtain ⟨a8x,rfl,a22⟩:=a21
        obtain ⟨a8y,a8z,rfl,a90,a91⟩:=a22.fm
        refine k_next (v3.drop (.hd _)) v4 (k_y 6 (by kernel_rfl) Z Z Z (fun _ _=>(y_move Z)) (k_y 7 (by kernel_rfl) Z Z Z (fun _ _=>(y_extract Z Z)) (k_y 8 (by kernel_rfl) Z Z Z (fun _ _=>(y_extract Z Z)) (k_all (is:=[10]) (by kernel_rfl) (by simp) (.cons ?_ .nil)))))
        refine k_op Z Z Z (ev_store v3 Z Z Z sz_64 Z (.here _ _ (.here _ _ (.here _ _ (.here _ _ (.here _ _ (.here _ _ (.here _ _ (.here _ _ (.here _ _ (.nil _)))))))))) (.hd _)) ?_
        rintro _ a92 ⟨v5,v6⟩
        refine k_next (v5.drop (.hd _)) v6 (k_all (is:=[11]) (by kernel_rfl) (by simp) (.cons ?_ .nil))
        refine k_op Z Z Z (Ev.of_y2 (y_assign Z)) ?_
        rintro _ _ ⟨rfl,rfl⟩
        refine k_bar (b_done (by kernel_rfl) (x_draw ?_) (by kernel_rfl))
        have a23:=v5.drop (.hd _)
        refine x_cut (a1z.2,a20) (.cons Z (.cons Z (.cons Z (.nil _)))) ⟨a23,(((e0.t h4).t v4).t v6),ET (BE v2) (rfl)⟩
      ·rintro ⟨h2,k0⟩ l8 ⟨l9,v7,v8⟩
       refine csr ((GM Y (g_y (y_neq Z Z) Z Z (gnx ((c_cond Z (fun f6=>?_) (fun f6=>?_)))))))
       ·replace f6:=OT f6
        refine csr ((g_y (y_build ze_51 pl_51 (.nil _)) Z Z (GM Y (g_e (ev_store l9 Z Z Z sz_51 Z (.here _ _ (.here _ _ (.here _ _ (.here _ _ (.here _ _ (.here _ _ (.here _ _ (.here _ _ (.here _ _ (.here _ _ (.nil _))))))))))) (.tl _ (.tl _ (.hd _)))) Z Z ?_))))
        rintro _ a93 ⟨m6,a94⟩
        refine GA Y (gnx ((c_ret ?_)))
        have a24:eTry p gross=((⟨0,(⟨0,0,0⟩:Bases),0,0,([]:List Share),0,([]:List Taken),0⟩:Slip),h2):=ET (BE f7) (ET (IN c8) (ET (BE i5) (ET (IN c9) (ET (BE l6) (ET (IN d9) (ET (BE v8) (ET (IP f6) (rfl))))))))
        refine x_thenR (x_ret ⟨_,_,_,rfl,rfl,blk_cells m6 m2,sh_51,⟨_,_,rfl,rfl,rfl⟩⟩ ?_)
        exact ⟨_,_,rfl,m6.fr,m6.grow,by rw [a24]; exact ⟨_,rfl,⟨_,_,rfl,(Sl.nil_ _ _ _ none 0),(Sl.nil_ _ _ _ none 0)⟩⟩⟩
       ·replace f6:=OF f6
        refine c_skip (x_next (csr ((g_y (y_loadA (cs:=[.int .i64 b3,.int .i64 b5,.int .i64 b6,.int .i64 b7,.int .i64 b8,.int .i64 b9,.slice f1 (b1).length f2,.int .i64 c0,.slice f3 (b2).length f4,.int .i64 c1]) sh_51 Z ((blk_cells l9 m0).part (f:=0) (.take _ (.take _ (.take _ (.take _ (.take _ (.take _ (.take _ (.take _ (.take _ (.take _ (.nil _))))))))))))) Z Z (g_e (ev_store l9 Z Z Z sz_51 Z (.here _ _ (.here _ _ (.here _ _ (.here _ _ (.here _ _ (.here _ _ (.here _ _ (.here _ _ (.here _ _ (.here _ _ (.nil _))))))))))) (.tl _ (.tl _ (.hd _)))) Z Z ?_)))))
        rintro _ a95 ⟨m7,v9⟩
        refine GA Y (gnx ((c_ret ?_)))
        have a25:eTry p gross=((⟨b3,(⟨b5,b6,b7⟩:Bases),b8,b9,b1,c0,b2,c1⟩:Slip),0):=ET (BE f7) (ET (IN c8) (ET (BE i5) (ET (IN c9) (ET (BE l6) (ET (IN d9) (ET (BE v8) (ET (IN f6) (rfl))))))))
        refine x_ret ⟨_,_,_,rfl,rfl,blk_cells m7 m2,sh_51,⟨_,_,rfl,rfl,rfl⟩⟩ (⟨_,_,rfl,m7.fr,m7.grow,by rw [a25]; exact ⟨_,rfl,⟨_,_,rfl,(j8.mono (v7.t v9)),(j9.mono (v7.t v9))⟩⟩⟩)
def eRun (p:EmpS):EmpS × Slip × Int:=
 (bnd (eTry p 0) fun r6=>
 (if (r6.2≠0) then (p,(⟨0,(⟨0,0,0⟩:Bases),0,0,([]:List Share),0,([]:List Taken),0⟩:Slip),r6.2)
 else (bnd (oClone p.orders) fun a3=>
 (bnd (aBook r6.1.net p.prot a3) fun a1=>
 (if (a1.2.2.2≠0) then (p,(⟨0,(⟨0,0,0⟩:Bases),0,0,([]:List Share),0,([]:List Taken),0⟩:Slip),a1.2.2.2)
 else (bnd (sMake r6.1.period r6.1.bases r6.1.tax r6.1.shortfall r6.1.shares a1.2.1) fun a2=>
 (if (a2.2≠0) then (p,(⟨0,(⟨0,0,0⟩:Bases),0,0,([]:List Share),0,([]:List Taken),0⟩:Slip),a2.2)
 else (bnd (yPost p.posted a2.1) fun a0=>
 (if (a0.2≠0) then ((⟨p.table,p.year,p.code,p.prot,p.next,p.inputs,a0.1,p.orders⟩:EmpS),(⟨0,(⟨0,0,0⟩:Bases),0,0,([]:List Share),0,([]:List Taken),0⟩:Slip),a0.2)
 else (bnd (eInputsWith ((⟨p.table,p.year,p.code,p.prot,p.next,p.inputs,a0.1,p.orders⟩:EmpS))) fun a4=>
 ((⟨p.table,p.year,p.code,p.prot,([]:List Elem),a4,a0.1,a1.1⟩:EmpS),a2.1,0)))))))))))
theorem eRun_c {p:EmpS} {p_r:Nat} {p_posted:Nat} {p_orders:Nat} {d:Dat} {w:World} (hd:∀ b,d b→b < w.heap.size) (h_p:(empR p_r p_posted p_orders p).ok d w) (hn_p:∀ q0 ∈ (empR p_r p_posted p_orders p).fp,¬ d q0):Ret Tryz.prog 24 [.pointer (some ⟨p_r,0,none⟩)] w (empR p_r p_posted p_orders p).fp d (fun u d' w'=>∃ (n_orders:Nat) (cs0:List Value),u=.tuple #[.agg cs0.toArray,.int .i64 ((eRun p).2.2)]∧Turn (empR p_r p_posted p_orders p) (empR p_r p_posted n_orders ((eRun p).1)) d' w w'∧slipTy.rel d' w' (eRun p).2.1 cs0):=by
 refine ret_enter (n:=82) Tryz.func24 Z Z (ble Z) ?_
 have hI0:=Inv.startM hd h_p hn_p
 refine csr ((g_e (ev_alloc hI0 ze_51) Z Z ?_))
 rintro _ w1 ⟨b4,rfl,hI2,hle3⟩
 refine GA Y (gnx ((csr ((GM Y ?_)))))
 have hq5:=eTry_c (p:=p) (p_r:=p_r) (p_posted:=p_posted) (p_orders:=p_orders) (gross:=0) hI2.lt (hI2.ok _ m1)
 obtain ⟨r6,hr7⟩:∃ r,eTry p 0=r:=⟨_,rfl⟩
 rw [hr7] at hq5
 refine g_e (ev_pure hI2 pf_76 Z hq5) Z Z ?_
 rintro _ w9 ⟨d8,i6,u8,⟨u9,rfl,i7⟩⟩
 obtain ⟨v0,v1,rfl,e6,i8⟩:=i7
 obtain ⟨v2,v3,rfl,v4,v5⟩:=e6.fm
 obtain ⟨v6,v7,rfl,v8,v9⟩:=i8.fm
 refine GM Y (g_y (y_extract Z Z) Z Z (g_y (y_extract Z Z) Z Z (g_e (ev_alloc i6 ze_51) Z Z ?_)))
 rintro _ w0 ⟨w2,rfl,i9,j0⟩
 refine g_e (ev_store i9 Z Z Z sz_51 Z (.here _ _ (.here _ _ (.here _ _ (.here _ _ (.here _ _ (.here _ _ (.here _ _ (.here _ _ (.here _ _ (.here _ _ (.nil _))))))))))) (.hd _)) Z Z ?_
 rintro _ w3 ⟨e7,j1⟩
 refine GA Y (gnx ((c_seq (csr ((GM Y (g_y (y_neq Z Z) Z Z (gnx ((c_cond Z (fun a5=>?_) (fun a5=>?_)))))))))))
 ·replace a5:=OT a5
  refine csr ((g_y (y_build ze_51 pl_51 (.nil _)) Z Z (GM Y (g_e (ev_store e7 Z Z Z sz_51 Z (.here _ _ (.here _ _ (.here _ _ (.here _ _ (.here _ _ (.here _ _ (.here _ _ (.here _ _ (.here _ _ (.here _ _ (.nil _))))))))))) (.tl _ (.hd _))) Z Z ?_))))
  rintro _ w4 ⟨c7,w5⟩
  refine GA Y (gnx ((c_ret ?_)))
  have j2:eRun p=(p,(⟨0,(⟨0,0,0⟩:Bases),0,0,([]:List Share),0,([]:List Taken),0⟩:Slip),r6.2):=ET (BE hr7) (ET (IP a5) (rfl))
  refine x_thenR (x_ret ⟨_,_,_,rfl,rfl,blk_cells c7 m1,sh_51,⟨_,_,rfl,rfl,rfl⟩⟩ ?_)
  exact ⟨_,_,rfl,c7.fr,c7.grow,by rw [j2]; exact ⟨_,_,rfl,c7.turned m2,⟨_,_,rfl,(Sl.nil_ _ _ _ none 0),(Sl.nil_ _ _ _ none 0)⟩⟩⟩
 ·replace a5:=OF a5
  refine c_skip (x_next (csr ((GM Y (g_y (y_nilCheck Z) Z Z (gfa fo_214_7 Z Z Z ?_))))))
  have j3:=e7.front (.tl _ (.tl _ (.hd _)))
  obtain ⟨w6,j4,j5⟩:=j3.openStar.openObj
  have c1:=(j4.front (.tl _ (.hd _))).openStar
  have w7:=yearR_inv (c1.ok _ m0)
  obtain ⟨w8,x0,x1,x2,x3,x4,rfl,e8,e9,f0,j6,f1,f2,x5,x6,x7,x8⟩:=j5
  obtain ⟨x9,y0,rfl,y1,y2⟩:=e8.fm
  obtain ⟨y3,y4,rfl,y5,y6⟩:=e9.fm
  obtain ⟨y7,y8,rfl,y9,z0⟩:=f0.fm
  obtain ⟨z1,z2,rfl,j7,j8⟩:=j6
  obtain rfl:=j8
  obtain ⟨z3,z4,rfl,z5,z6⟩:=f1.fm
  obtain ⟨z7,z8,rfl,z9,a00⟩:=f2.fm
  refine gld sh_212 Z c1 m2 (i:=15) Z Z Z ?_
  have f3:=oClone_c (b:=p.orders) (b_r:=p_orders) c1.lt (c1.ok _ m1)
  obtain ⟨f4,c2⟩:∃ r,oClone p.orders=r:=⟨_,rfl⟩
  rw [c2] at f3
  refine g_e (ev_call pf_109 Z f3) Z Z ?_
  rintro _ f5 ⟨f6,j9,k0,d5,rfl,k1⟩
  obtain ⟨f7,b1⟩:=c1.take j9 k0 k1
  refine GA Y (gnx (?_))
  have a01:=yearR_inv (f7.ok _ m1)
  have k2:=f7.front (.tl _ (.tl _ (.hd _)))
  have k3:=k2.front (.tl _ (.tl _ (.hd _)))
  have k4:=k3.closeStar
  have k5:=k4.front (.tl _ (.tl _ (.hd _)))
  have k6:p.inputs.length≤p.posted.slips.length:=by (try rw [← trivial,eInputsWith_eq]); all_goals (try dsimp only); all_goals first | assumption | omega | (simp only [LA,LC,LN,LS]; omega) | (first | (intro i hi; cases hi) | (intro i hi; rcases LP.1 hi with hi | hi; exact ‹∀ i ∈ _,List.length (Input.elements i)≤32› i hi; (rw [LM.1 hi]; dsimp only; omega)) | (intro i hi; rcases List.mem_or_eq_of_mem_set hi with hi | hi; exact ‹∀ i ∈ _,List.length (Input.elements i)≤32› i hi; (rw [hi]; dsimp only; omega)))
  have k7:p.inputs.length≤53:=by (try rw [← trivial,eInputsWith_eq]); all_goals (try dsimp only); all_goals first | assumption | omega | (simp only [LA,LC,LN,LS]; omega) | (first | (intro i hi; cases hi) | (intro i hi; rcases LP.1 hi with hi | hi; exact ‹∀ i ∈ _,List.length (Input.elements i)≤32› i hi; (rw [LM.1 hi]; dsimp only; omega)) | (intro i hi; rcases List.mem_or_eq_of_mem_set hi with hi | hi; exact ‹∀ i ∈ _,List.length (Input.elements i)≤32› i hi; (rw [hi]; dsimp only; omega)))
  have k8:p.next.length≤32:=by (try rw [← trivial,eInputsWith_eq]); all_goals (try dsimp only); all_goals first | assumption | omega | (simp only [LA,LC,LN,LS]; omega) | (first | (intro i hi; cases hi) | (intro i hi; rcases LP.1 hi with hi | hi; exact ‹∀ i ∈ _,List.length (Input.elements i)≤32› i hi; (rw [LM.1 hi]; dsimp only; omega)) | (intro i hi; rcases List.mem_or_eq_of_mem_set hi with hi | hi; exact ‹∀ i ∈ _,List.length (Input.elements i)≤32› i hi; (rw [hi]; dsimp only; omega)))
  have k9:∀ i ∈ p.inputs,i.elements.length≤32:=by (try rw [← trivial,eInputsWith_eq]); all_goals (try dsimp only); all_goals first | assumption | omega | (simp only [LA,LC,LN,LS]; omega) | (first | (intro i hi; cases hi) | (intro i hi; rcases LP.1 hi with hi | hi; exact ‹∀ i ∈ _,List.length (Input.elements i)≤32› i hi; (rw [LM.1 hi]; dsimp only; omega)) | (intro i hi; rcases List.mem_or_eq_of_mem_set hi with hi | hi; exact ‹∀ i ∈ _,List.length (Input.elements i)≤32› i hi; (rw [hi]; dsimp only; omega)))
  have l0:=k5.closeObj (ty:=(empTy p_posted p_orders)) (x:=p) ⟨_,_,_,_,_,_,rfl,(e8.mono b1),(e9.mono b1),(f0.mono b1),⟨_,_,rfl,(j7.mono b1),rfl⟩,(f1.mono b1),(f2.mono b1),k6,k7,k8,k9⟩
  have l1:=l0.closeStar
  have l2:Inv (empR p_r p_posted p_orders p).fp d w f6 (empR p_r p_posted p_orders p :: _) f5:=l1
  refine c_seq ?_
  obtain ⟨a02,l3,l4⟩:=l2.openStar.openObj
  have f8:=(l3.front (.tl _ (.hd _))).openStar
  have a03:=yearR_inv (f8.ok _ m0)
  obtain ⟨a04,a05,a06,a07,a08,a09,rfl,f9,g0,g1,l5,g2,g3,a0a,a0b,a0c,a0d⟩:=l4
  obtain ⟨a0e,a0f,rfl,a0g,a0h⟩:=f9.fm
  obtain ⟨a0i,a0j,rfl,a0k,a0l⟩:=g0.fm
  obtain ⟨a0m,a0n,rfl,a0o,a0p⟩:=g1.fm
  obtain ⟨a0q,a0r,rfl,l6,l7⟩:=l5
  obtain rfl:=l7
  obtain ⟨a0s,a0t,rfl,a0u,a0v⟩:=g2.fm
  obtain ⟨a0w,a0x,rfl,a0y,a0z⟩:=g3.fm
  have c3:=f8.drew; have b2:=Le.drew f6 f5
  refine c_drawK 14 follows_mixed (c3.drop (.tl _ (.tl _ (.tl _ (.hd _))))) (k_y 0 (by kernel_rfl) Z Z Z (fun _ _=>(y_fieldAddr fo_51_5 Z)) (k_y 1 (by kernel_rfl) Z Z Z (fun a10 ⟨a11,l8,a12⟩=>(y_load1 sh_2 Z ((blk_cells l8 m3).nth_ (i:=7) Z))) (k_y 2 (by kernel_rfl) Z Z Z (fun _ _=>(y_move Z)) (k_y 3 (by kernel_rfl) Z Z Z (fun _ _=>(y_nilCheck Z)) (k_y 4 (by kernel_rfl) Z Z Z (fun _ _=>(y_fieldAddr fo_214_3 Z)) (k_y 5 (by kernel_rfl) Z Z Z (fun a13 ⟨a14,l9,a15⟩=>(y_load1 sh_2 Z ((blk_cells l9 m2).nth_ (i:=11) Z))) (k_y 6 (by kernel_rfl) Z Z Z (fun _ _=>(y_move Z)) (k_all (is:=[7]) (by kernel_rfl) (by simp) (.cons ?_ .nil)))))))))
  have g4:=aBook_c (net:=r6.1.net) (prot:=p.prot) (b:=f4) (b_r:=d5) c3.lt (c3.ok _ m3) (c3.nod _ m3)
  obtain ⟨a4,c4⟩:∃ r,aBook r6.1.net p.prot f4=r:=⟨_,rfl⟩
  rw [c4] at g4
  refine k_op Z Z Z (ev_call pf_110 Z g4) ?_
  rintro _ m6 ⟨m7,m8,m9,a16,rfl,n0,g5⟩
  obtain ⟨d6,a8⟩:=c3.turn (.tl _ (.tl _ (.tl _ (.hd _)))) m8 m9 n0
  obtain ⟨a17,a18,rfl,a19,a1a⟩:=g5.fm
  refine k_next (d6.drop (.tl _ (.tl _ (.tl _ (.hd _))))) a8 (k_y 8 (by kernel_rfl) Z Z Z (fun _ _=>(y_move Z)) (k_y 9 (by kernel_rfl) Z Z Z (fun _ _=>(y_extract Z Z)) (k_y 10 (by kernel_rfl) Z Z Z (fun _ _=>(y_extract Z Z)) (k_y 11 (by kernel_rfl) Z Z Z (fun _ _=>(y_extract Z Z)) (k_y 12 (by kernel_rfl) Z Z Z (fun _ _=>(y_assign Z)) (k_y 13 (by kernel_rfl) Z Z Z (fun _ _=>(y_assign Z)) (k_all (is:=[14]) (by kernel_rfl) (by simp) (.cons ?_ .nil))))))))
  refine k_op Z Z Z (Ev.of_y2 (y_assign Z)) ?_
  rintro _ _ ⟨rfl,rfl⟩
  refine k_bar (b_done (by kernel_rfl) (x_draw ?_) (by kernel_rfl))
  refine x_next ?_
  have a1b:=yearR_inv (d6.ok _ m0)
  have n1:=d6.front (.tl _ (.hd _))
  have n2:=n1.front (.tl _ (.hd _))
  have n3:=n2.closeStar
  have n4:=n3.front (.tl _ (.hd _))
  have n5:p.inputs.length≤p.posted.slips.length:=by (try rw [← trivial,eInputsWith_eq]); all_goals (try dsimp only); all_goals first | assumption | omega | (simp only [LA,LC,LN,LS]; omega) | (first | (intro i hi; cases hi) | (intro i hi; rcases LP.1 hi with hi | hi; exact ‹∀ i ∈ _,List.length (Input.elements i)≤32› i hi; (rw [LM.1 hi]; dsimp only; omega)) | (intro i hi; rcases List.mem_or_eq_of_mem_set hi with hi | hi; exact ‹∀ i ∈ _,List.length (Input.elements i)≤32› i hi; (rw [hi]; dsimp only; omega)))
  have n6:p.inputs.length≤53:=by (try rw [← trivial,eInputsWith_eq]); all_goals (try dsimp only); all_goals first | assumption | omega | (simp only [LA,LC,LN,LS]; omega) | (first | (intro i hi; cases hi) | (intro i hi; rcases LP.1 hi with hi | hi; exact ‹∀ i ∈ _,List.length (Input.elements i)≤32› i hi; (rw [LM.1 hi]; dsimp only; omega)) | (intro i hi; rcases List.mem_or_eq_of_mem_set hi with hi | hi; exact ‹∀ i ∈ _,List.length (Input.elements i)≤32› i hi; (rw [hi]; dsimp only; omega)))
  have n7:p.next.length≤32:=by (try rw [← trivial,eInputsWith_eq]); all_goals (try dsimp only); all_goals first | assumption | omega | (simp only [LA,LC,LN,LS]; omega) | (first | (intro i hi; cases hi) | (intro i hi; rcases LP.1 hi with hi | hi; exact ‹∀ i ∈ _,List.length (Input.elements i)≤32› i hi; (rw [LM.1 hi]; dsimp only; omega)) | (intro i hi; rcases List.mem_or_eq_of_mem_set hi with hi | hi; exact ‹∀ i ∈ _,List.length (Input.elements i)≤32› i hi; (rw [hi]; dsimp only; omega)))
  have n8:∀ i ∈ p.inputs,i.elements.length≤32:=by (try rw [← trivial,eInputsWith_eq]); all_goals (try dsimp only); all_goals first | assumption | omega | (simp only [LA,LC,LN,LS]; omega) | (first | (intro i hi; cases hi) | (intro i hi; rcases LP.1 hi with hi | hi; exact ‹∀ i ∈ _,List.length (Input.elements i)≤32› i hi; (rw [LM.1 hi]; dsimp only; omega)) | (intro i hi; rcases List.mem_or_eq_of_mem_set hi with hi | hi; exact ‹∀ i ∈ _,List.length (Input.elements i)≤32› i hi; (rw [hi]; dsimp only; omega)))
  have n9:=n4.closeObj (ty:=(empTy p_posted p_orders)) (x:=p) ⟨_,_,_,_,_,_,rfl,(f9.mono (b2.t a8)),(g0.mono (b2.t a8)),(g1.mono (b2.t a8)),⟨_,_,rfl,(l6.mono (b2.t a8)),rfl⟩,(g2.mono (b2.t a8)),(g3.mono (b2.t a8)),n5,n6,n7,n8⟩
  have o0:=n9.closeStar
  have a9:Inv (empR p_r p_posted p_orders p).fp d w m7 (empR p_r p_posted p_orders p :: _) m6:=o0
  refine c_seq (csr ((GM Y (g_y (y_neq Z Z) Z Z (gnx ((c_cond Z (fun a6=>?_) (fun a6=>?_))))))))
  ·replace a6:=OT a6
   refine csr ((g_y (y_build ze_51 pl_51 (.nil _)) Z Z (GM Y (g_e (ev_store a9 Z Z Z sz_51 Z (.here _ _ (.here _ _ (.here _ _ (.here _ _ (.here _ _ (.here _ _ (.here _ _ (.here _ _ (.here _ _ (.here _ _ (.nil _))))))))))) (.tl _ (.tl _ (.tl _ (.hd _))))) Z Z ?_))))
   rintro _ a1c ⟨c8,a1d⟩
   refine GA Y (gnx ((c_ret ?_)))
   have o1:eRun p=(p,(⟨0,(⟨0,0,0⟩:Bases),0,0,([]:List Share),0,([]:List Taken),0⟩:Slip),a4.2.2.2):=ET (BE hr7) (ET (IN a5) (ET (BE c2) (ET (BE c4) (ET (IP a6) (rfl)))))
   refine x_thenR (x_ret ⟨_,_,_,rfl,rfl,blk_cells c8 m3,sh_51,⟨_,_,rfl,rfl,rfl⟩⟩ ?_)
   exact ⟨_,_,rfl,c8.fr,c8.grow,by rw [o1]; exact ⟨_,_,rfl,c8.turned m0,⟨_,_,rfl,(Sl.nil_ _ _ _ none 0),(Sl.nil_ _ _ _ none 0)⟩⟩⟩
  ·replace a6:=OF a6
   refine c_skip (x_next (csr ((gfa fo_51_0 Z Z Z (gld sh_3 Z a9 m2 (i:=0) Z Z Z (gfa fo_51_1 Z Z Z (g_y (y_loadA (cs:=[.int .i64 r6.1.bases.cash,.int .i64 r6.1.bases.taxable,.int .i64 r6.1.bases.social]) sh_47 Z ((blk_cells a9 m2).part (f:=1) (.skip _ (.take _ (.take _ (.take _ (.nil _))))))) Z Z (gfa fo_51_2 Z Z Z (gld sh_2 Z a9 m2 (i:=4) Z Z Z (gfa fo_51_3 Z Z Z (gld sh_2 Z a9 m2 (i:=5) Z Z Z (gfa fo_51_4 Z Z Z (gld sh_48 Z a9 m2 (i:=6) Z Z Z ?_)))))))))))))
   refine GM Y ?_
   have g6:=sMake_c (period:=r6.1.period) (b:=r6.1.bases) (tax:=r6.1.tax) (short:=r6.1.shortfall) (rw:=r6.1.shares) (taken:=a4.2.1) a9.lt (e6.mono ((((j0.t j1).t b1).t b2).t a8)) g5
   obtain ⟨a1,c9⟩:∃ r,sMake r6.1.period r6.1.bases r6.1.tax r6.1.shortfall r6.1.shares a4.2.1=r:=⟨_,rfl⟩
   rw [c9] at g6
   refine g_e (ev_pure a9 pf_111 Z g6) Z Z ?_
   rintro _ a1e ⟨o2,o3,a1f,⟨a1g,rfl,o4⟩⟩
   obtain ⟨a1h,a1i,rfl,d7,d9⟩:=o4
   obtain ⟨g7,g8,rfl,a1j,a1k⟩:=d7.fm
   obtain ⟨g9,h0,rfl,a1l,a1m⟩:=d9.fm
   refine GM Y (g_y (y_extract Z Z) Z Z (g_y (y_extract Z Z) Z Z (g_e (ev_store o3 Z Z Z sz_51 Z (.here _ _ (.here _ _ (.here _ _ (.here _ _ (.here _ _ (.here _ _ (.here _ _ (.here _ _ (.here _ _ (.here _ _ (.nil _))))))))))) (.tl _ (.tl _ (.hd _)))) Z Z ?_)))
   rintro _ o5 ⟨h1,d0⟩
   refine GA Y (gnx ((c_seq (csr ((GM Y (g_y (y_neq Z Z) Z Z (gnx ((c_cond Z (fun b0=>?_) (fun b0=>?_)))))))))))
   ·replace b0:=OT b0
    refine csr ((g_y (y_build ze_51 pl_51 (.nil _)) Z Z (GM Y (g_e (ev_store h1 Z Z Z sz_51 Z (.here _ _ (.here _ _ (.here _ _ (.here _ _ (.here _ _ (.here _ _ (.here _ _ (.here _ _ (.here _ _ (.here _ _ (.nil _))))))))))) (.tl _ (.tl _ (.tl _ (.hd _))))) Z Z ?_))))
    rintro _ a1n ⟨d1,a1o⟩
    refine GA Y (gnx ((c_ret ?_)))
    have o6:eRun p=(p,(⟨0,(⟨0,0,0⟩:Bases),0,0,([]:List Share),0,([]:List Taken),0⟩:Slip),a1.2):=ET (BE hr7) (ET (IN a5) (ET (BE c2) (ET (BE c4) (ET (IN a6) (ET (BE c9) (ET (IP b0) (rfl)))))))
    refine x_thenR (x_ret ⟨_,_,_,rfl,rfl,blk_cells d1 m3,sh_51,⟨_,_,rfl,rfl,rfl⟩⟩ ?_)
    exact ⟨_,_,rfl,d1.fr,d1.grow,by rw [o6]; exact ⟨_,_,rfl,d1.turned m0,⟨_,_,rfl,(Sl.nil_ _ _ _ none 0),(Sl.nil_ _ _ _ none 0)⟩⟩⟩
   ·replace b0:=OF b0
    refine c_skip (x_next (c_seq (c_seq ?_)))
    obtain ⟨a1p,o7,o8⟩:=h1.openStar.openObj
    have h2:=(o7.front (.tl _ (.hd _))).openStar
    have a1q:=yearR_inv (h2.ok _ m0)
    obtain ⟨a1r,a1s,a1t,a1u,a1v,a1w,rfl,e0,e1,e2,o9,e3,e4,a1x,a1y,a1z,a20⟩:=o8
    obtain ⟨a21,a22,rfl,a23,a24⟩:=e0.fm
    obtain ⟨a25,a26,rfl,a27,a28⟩:=e1.fm
    obtain ⟨a29,a2a,rfl,a2b,a2c⟩:=e2.fm
    obtain ⟨a2d,a2e,rfl,h3,p0⟩:=o9
    obtain rfl:=p0
    obtain ⟨a2f,a2g,rfl,a2h,a2i⟩:=e3.fm
    obtain ⟨a2j,a2k,rfl,a2l,a2m⟩:=e4.fm
    have c5:=h2.drew; have a2:=Le.drew o2 o5
    refine c_drawK 6 follows_mixed (c5.drop (.hd _)) (k_y 0 (by kernel_rfl) Z Z Z (fun _ _=>(y_move Z)) (k_y 1 (by kernel_rfl) Z Z Z (fun _ _=>(y_nilCheck Z)) (k_y 2 (by kernel_rfl) Z Z Z (fun _ _=>(y_fieldAddr fo_214_6 Z)) (k_y 3 (by kernel_rfl) Z Z Z (fun a2n ⟨a2o,p1,a2p⟩=>(y_load1 sh_58 Z ((blk_cells p1 m1).nth_ (i:=14) Z))) (k_y 4 (by kernel_rfl) Z Z Z (fun a2q ⟨a2r,p2,a2s⟩=>(y_loadA (cs:=[.int .i64 a1.1.period,.int .i64 a1.1.bases.cash,.int .i64 a1.1.bases.taxable,.int .i64 a1.1.bases.social,.int .i64 a1.1.tax,.int .i64 a1.1.shortfall,.slice g7 (a1.1.shares).length g8,.int .i64 a1.1.net,.slice g9 (a1.1.taken).length h0,.int .i64 a1.1.pay]) sh_51 Z ((blk_cells p2 m3).part (f:=0) (.take _ (.take _ (.take _ (.take _ (.take _ (.take _ (.take _ (.take _ (.take _ (.take _ (.nil _)))))))))))))) (k_all (is:=[5]) (by kernel_rfl) (by simp) (.cons ?_ .nil)))))))
    have h4:=yPost_c (y:=p.posted) (y_r:=p_posted) (s:=a1.1) c5.lt (c5.ok _ m0) (c5.nod _ m0) (show slipTy.rel _ _ a1.1 _ from ⟨_,_,rfl,(d7.mono (d0.t a2)),(d9.mono (d0.t a2))⟩)
    obtain ⟨a0,d2⟩:∃ r,yPost p.posted a1.1=r:=⟨_,rfl⟩
    rw [d2] at h4
    have h8r1111:=yPost_inv (y:=p.posted) (s:=a1.1); rw [d2] at h8r1111
    refine k_op Z Z Z (ev_call pf_112 Z h4) ?_
    rintro _ p3 ⟨h5,p4,p5,rfl,p6⟩
    obtain ⟨c6,a3⟩:=c5.turn (.hd _) p4 p5 p6
    have a2t:=yearR_inv (c6.ok _ m0)
    refine k_next (c6.drop (.hd _)) a3 (k_all (is:=[6]) (by kernel_rfl) (by simp) (.cons ?_ .nil))
    refine k_op Z Z Z (Ev.of_y2 (y_assign Z)) ?_
    rintro _ _ ⟨rfl,rfl⟩
    refine k_bar (b_done (by kernel_rfl) (x_draw ?_) (by kernel_rfl))
    refine x_next (csr ((GM Y (g_y (y_neq Z Z) Z Z (gnx ((c_cond Z (fun b3=>?_) (fun b3=>?_))))))))
    ·replace b3:=OT b3
     refine csr ((g_y (y_build ze_51 pl_51 (.nil _)) Z Z (GM Y (g_e (ev_store c6 Z Z Z sz_51 Z (.here _ _ (.here _ _ (.here _ _ (.here _ _ (.here _ _ (.here _ _ (.here _ _ (.here _ _ (.here _ _ (.here _ _ (.nil _))))))))))) (.tl _ (.tl _ (.tl _ (.tl _ (.tl _ (.hd _))))))) Z Z ?_))))
     rintro _ p7 ⟨h6,c0⟩
     refine GA Y (gnx ((c_ret ?_)))
     have a2u:=yearR_inv (h6.ok _ m0)
     have p8:=h6.front (.tl _ (.hd _))
     have p9:=p8.front (.tl _ (.hd _))
     have q1:=p9.closeStar
     have q2:=q1.front (.tl _ (.hd _))
     have q3:((⟨p.table,p.year,p.code,p.prot,p.next,p.inputs,a0.1,p.orders⟩:EmpS)).inputs.length≤((⟨p.table,p.year,p.code,p.prot,p.next,p.inputs,a0.1,p.orders⟩:EmpS)).posted.slips.length:=by (try rw [← trivial,eInputsWith_eq]); all_goals (try dsimp only); all_goals first | assumption | omega | (simp only [LA,LC,LN,LS]; omega) | (first | (intro i hi; cases hi) | (intro i hi; rcases LP.1 hi with hi | hi; exact ‹∀ i ∈ _,List.length (Input.elements i)≤32› i hi; (rw [LM.1 hi]; dsimp only; omega)) | (intro i hi; rcases List.mem_or_eq_of_mem_set hi with hi | hi; exact ‹∀ i ∈ _,List.length (Input.elements i)≤32› i hi; (rw [hi]; dsimp only; omega)))
     have q4:((⟨p.table,p.year,p.code,p.prot,p.next,p.inputs,a0.1,p.orders⟩:EmpS)).inputs.length≤53:=by (try rw [← trivial,eInputsWith_eq]); all_goals (try dsimp only); all_goals first | assumption | omega | (simp only [LA,LC,LN,LS]; omega) | (first | (intro i hi; cases hi) | (intro i hi; rcases LP.1 hi with hi | hi; exact ‹∀ i ∈ _,List.length (Input.elements i)≤32› i hi; (rw [LM.1 hi]; dsimp only; omega)) | (intro i hi; rcases List.mem_or_eq_of_mem_set hi with hi | hi; exact ‹∀ i ∈ _,List.length (Input.elements i)≤32› i hi; (rw [hi]; dsimp only; omega)))
     have q5:((⟨p.table,p.year,p.code,p.prot,p.next,p.inputs,a0.1,p.orders⟩:EmpS)).next.length≤32:=by (try rw [← trivial,eInputsWith_eq]); all_goals (try dsimp only); all_goals first | assumption | omega | (simp only [LA,LC,LN,LS]; omega) | (first | (intro i hi; cases hi) | (intro i hi; rcases LP.1 hi with hi | hi; exact ‹∀ i ∈ _,List.length (Input.elements i)≤32› i hi; (rw [LM.1 hi]; dsimp only; omega)) | (intro i hi; rcases List.mem_or_eq_of_mem_set hi with hi | hi; exact ‹∀ i ∈ _,List.length (Input.elements i)≤32› i hi; (rw [hi]; dsimp only; omega)))
     have q6:∀ i ∈ ((⟨p.table,p.year,p.code,p.prot,p.next,p.inputs,a0.1,p.orders⟩:EmpS)).inputs,i.elements.length≤32:=by (try rw [← trivial,eInputsWith_eq]); all_goals (try dsimp only); all_goals first | assumption | omega | (simp only [LA,LC,LN,LS]; omega) | (first | (intro i hi; cases hi) | (intro i hi; rcases LP.1 hi with hi | hi; exact ‹∀ i ∈ _,List.length (Input.elements i)≤32› i hi; (rw [LM.1 hi]; dsimp only; omega)) | (intro i hi; rcases List.mem_or_eq_of_mem_set hi with hi | hi; exact ‹∀ i ∈ _,List.length (Input.elements i)≤32› i hi; (rw [hi]; dsimp only; omega)))
     have q7:=q2.closeObj (ty:=(empTy p_posted p_orders)) (x:=(⟨p.table,p.year,p.code,p.prot,p.next,p.inputs,a0.1,p.orders⟩:EmpS)) ⟨_,_,_,_,_,_,rfl,(e0.mono ((a2.t a3).t c0)),(e1.mono ((a2.t a3).t c0)),(e2.mono ((a2.t a3).t c0)),⟨_,_,rfl,(h3.mono ((a2.t a3).t c0)),rfl⟩,(e3.mono ((a2.t a3).t c0)),(e4.mono ((a2.t a3).t c0)),q3,q4,q5,q6⟩
     have q8:=q7.closeStar
     have d3:Inv (empR p_r p_posted p_orders p).fp d w h5 (empR p_r p_posted p_orders ((⟨p.table,p.year,p.code,p.prot,p.next,p.inputs,a0.1,p.orders⟩:EmpS)) :: _) p7:=q8
     have q9:eRun p=((⟨p.table,p.year,p.code,p.prot,p.next,p.inputs,a0.1,p.orders⟩:EmpS),(⟨0,(⟨0,0,0⟩:Bases),0,0,([]:List Share),0,([]:List Taken),0⟩:Slip),a0.2):=ET (BE hr7) (ET (IN a5) (ET (BE c2) (ET (BE c4) (ET (IN a6) (ET (BE c9) (ET (IN b0) (ET (BE d2) (ET (IP b3) (rfl)))))))))
     refine x_thenR (x_ret ⟨_,_,_,rfl,rfl,blk_cells d3 m3,sh_51,⟨_,_,rfl,rfl,rfl⟩⟩ ?_)
     exact ⟨_,_,rfl,d3.fr,d3.grow,by rw [q9]; exact ⟨_,_,rfl,d3.turned m0,⟨_,_,rfl,(Sl.nil_ _ _ _ none 0),(Sl.nil_ _ _ _ none 0)⟩⟩⟩
    ·replace b3:=OF b3
     refine c_skip (x_next (csr ((GM Y (GM Y (GM Y (GM Y ?_)))))))
     have a2v:=yearR_inv (c6.ok _ m0)
     have r0:=c6.front (.tl _ (.hd _))
     have r1:=r0.front (.tl _ (.hd _))
     have r2:=r1.closeStar
     have r3:=r2.front (.tl _ (.hd _))
     have r4:((⟨p.table,p.year,p.code,p.prot,p.next,p.inputs,a0.1,p.orders⟩:EmpS)).inputs.length≤((⟨p.table,p.year,p.code,p.prot,p.next,p.inputs,a0.1,p.orders⟩:EmpS)).posted.slips.length:=by (try rw [← trivial,eInputsWith_eq]); all_goals (try dsimp only); all_goals first | assumption | omega | (simp only [LA,LC,LN,LS]; omega) | (first | (intro i hi; cases hi) | (intro i hi; rcases LP.1 hi with hi | hi; exact ‹∀ i ∈ _,List.length (Input.elements i)≤32› i hi; (rw [LM.1 hi]; dsimp only; omega)) | (intro i hi; rcases List.mem_or_eq_of_mem_set hi with hi | hi; exact ‹∀ i ∈ _,List.length (Input.elements i)≤32› i hi; (rw [hi]; dsimp only; omega)))
     have r5:((⟨p.table,p.year,p.code,p.prot,p.next,p.inputs,a0.1,p.orders⟩:EmpS)).inputs.length≤53:=by (try rw [← trivial,eInputsWith_eq]); all_goals (try dsimp only); all_goals first | assumption | omega | (simp only [LA,LC,LN,LS]; omega) | (first | (intro i hi; cases hi) | (intro i hi; rcases LP.1 hi with hi | hi; exact ‹∀ i ∈ _,List.length (Input.elements i)≤32› i hi; (rw [LM.1 hi]; dsimp only; omega)) | (intro i hi; rcases List.mem_or_eq_of_mem_set hi with hi | hi; exact ‹∀ i ∈ _,List.length (Input.elements i)≤32› i hi; (rw [hi]; dsimp only; omega)))
     have r7:((⟨p.table,p.year,p.code,p.prot,p.next,p.inputs,a0.1,p.orders⟩:EmpS)).next.length≤32:=by (try rw [← trivial,eInputsWith_eq]); all_goals (try dsimp only); all_goals first | assumption | omega | (simp only [LA,LC,LN,LS]; omega) | (first | (intro i hi; cases hi) | (intro i hi; rcases LP.1 hi with hi | hi; exact ‹∀ i ∈ _,List.length (Input.elements i)≤32› i hi; (rw [LM.1 hi]; dsimp only; omega)) | (intro i hi; rcases List.mem_or_eq_of_mem_set hi with hi | hi; exact ‹∀ i ∈ _,List.length (Input.elements i)≤32› i hi; (rw [hi]; dsimp only; omega)))
     have r8:∀ i ∈ ((⟨p.table,p.year,p.code,p.prot,p.next,p.inputs,a0.1,p.orders⟩:EmpS)).inputs,i.elements.length≤32:=by (try rw [← trivial,eInputsWith_eq]); all_goals (try dsimp only); all_goals first | assumption | omega | (simp only [LA,LC,LN,LS]; omega) | (first | (intro i hi; cases hi) | (intro i hi; rcases LP.1 hi with hi | hi; exact ‹∀ i ∈ _,List.length (Input.elements i)≤32› i hi; (rw [LM.1 hi]; dsimp only; omega)) | (intro i hi; rcases List.mem_or_eq_of_mem_set hi with hi | hi; exact ‹∀ i ∈ _,List.length (Input.elements i)≤32› i hi; (rw [hi]; dsimp only; omega)))
     have r9:=r3.closeObj (ty:=(empTy p_posted p_orders)) (x:=(⟨p.table,p.year,p.code,p.prot,p.next,p.inputs,a0.1,p.orders⟩:EmpS)) ⟨_,_,_,_,_,_,rfl,(e0.mono (a2.t a3)),(e1.mono (a2.t a3)),(e2.mono (a2.t a3)),⟨_,_,rfl,(h3.mono (a2.t a3)),rfl⟩,(e3.mono (a2.t a3)),(e4.mono (a2.t a3)),r4,r5,r7,r8⟩
     have s0:=r9.closeStar
     have e5:Inv (empR p_r p_posted p_orders p).fp d w h5 (empR p_r p_posted p_orders ((⟨p.table,p.year,p.code,p.prot,p.next,p.inputs,a0.1,p.orders⟩:EmpS)) :: _) p3:=s0
     have h7:=eInputsWith_c (p:=(⟨p.table,p.year,p.code,p.prot,p.next,p.inputs,a0.1,p.orders⟩:EmpS)) (p_r:=p_r) (p_posted:=p_posted) (p_orders:=p_orders) e5.lt (e5.ok _ m0)
     obtain ⟨a7,b5⟩:∃ r,eInputsWith ((⟨p.table,p.year,p.code,p.prot,p.next,p.inputs,a0.1,p.orders⟩:EmpS))=r:=⟨_,rfl⟩
     rw [b5] at h7
     have h8r1151:a7.length=((⟨p.table,p.year,p.code,p.prot,p.next,p.inputs,a0.1,p.orders⟩:EmpS)).inputs.length + 1:=by rw [← b5]; unfold eInputsWith; simp [bnd,clInput_eq]
     try dsimp only at h8r1151
     refine g_e (ev_pure e5 pf_113 Z h7) Z Z ?_
     rintro _ a2w ⟨s1,s2,h8,⟨a2x,rfl,h9⟩⟩
     obtain ⟨a2y,a2z,rfl,a30,a31⟩:=h9.fm
     refine GM Y (g_y (y_nilCheck Z) Z Z (gfa fo_214_5 Z Z Z ?_))
     obtain ⟨a32,s3,s4⟩:=s2.openStar.openObj
     have i0:=(s3.front (.tl _ (.hd _))).openStar
     have a33:=yearR_inv (i0.ok _ m0)
     obtain ⟨a34,a35,a36,a37,a38,a39,rfl,i1,i2,i3,s5,s6,s7,s8,s9,t0,t1⟩:=s4
     dsimp only at s8 s9 t0 t1
     obtain ⟨a3a,a3b,rfl,a3c,a3d⟩:=i1.fm
     obtain ⟨a3e,a3f,rfl,a3g,a3h⟩:=i2.fm
     obtain ⟨a3i,a3j,rfl,a3k,a3l⟩:=i3.fm
     obtain ⟨a3m,a3n,rfl,t2,t3⟩:=s5
     obtain rfl:=t3
     obtain ⟨a3o,a3p,rfl,a3q,a3r⟩:=s6.fm
     obtain ⟨a3s,a3t,rfl,a3u,a3v⟩:=s7.fm
     refine g_e (ev_store i0 Z Z Z sz_79 Z (.next _ (.next _ (.next _ (.next _ (.next _ (.next _ (.next _ (.next _ (.next _ (.next _ (.next _ (.next _ (.next _ (.here _ _ (.nil _))))))))))))))) (.tl _ (.tl _ (.hd _)))) Z Z ?_
     rintro _ a3w ⟨t4,b6⟩
     refine g_y (y_nilCheck Z) Z Z (gfa fo_214_4 Z Z Z (g_e (ev_store t4 Z Z Z sz_43 Z (.next _ (.next _ (.next _ (.next _ (.next _ (.next _ (.next _ (.next _ (.next _ (.next _ (.next _ (.next _ (.here _ _ (.nil _)))))))))))))) (.tl _ (.tl _ (.hd _)))) Z Z ?_))
     rintro _ a3x ⟨t5,b7⟩
     refine g_y (y_nilCheck Z) Z Z (gfa fo_214_7 Z Z Z (g_e (ev_store t5 Z Z Z sz_212 Z (.next _ (.next _ (.next _ (.next _ (.next _ (.next _ (.next _ (.next _ (.next _ (.next _ (.next _ (.next _ (.next _ (.next _ (.next _ (.here _ _ (.nil _))))))))))))))))) (.tl _ (.tl _ (.hd _)))) Z Z ?_))
     rintro _ a3y ⟨i4,b8⟩
     refine gnx ((csr ((g_y (y_loadA (cs:=[.int .i64 a1.1.period,.int .i64 a1.1.bases.cash,.int .i64 a1.1.bases.taxable,.int .i64 a1.1.bases.social,.int .i64 a1.1.tax,.int .i64 a1.1.shortfall,.slice g7 (a1.1.shares).length g8,.int .i64 a1.1.net,.slice g9 (a1.1.taken).length h0,.int .i64 a1.1.pay]) sh_51 Z ((blk_cells i4 m4).part (f:=0) (.take _ (.take _ (.take _ (.take _ (.take _ (.take _ (.take _ (.take _ (.take _ (.take _ (.nil _))))))))))))) Z Z (g_e (ev_store i4 Z Z Z sz_51 Z (.here _ _ (.here _ _ (.here _ _ (.here _ _ (.here _ _ (.here _ _ (.here _ _ (.here _ _ (.here _ _ (.here _ _ (.nil _))))))))))) (.tl _ (.tl _ (.tl _ (.tl _ (.tl _ (.hd _))))))) Z Z ?_)))))
     rintro _ t6 ⟨i5,b9⟩
     refine GA Y (gnx ((c_ret ?_)))
     have a3z:=yearR_inv (i5.ok _ m0)
     have t7:=i5.front (.tl _ (.tl _ (.tl _ (.hd _))))
     have t8:=t7.front (.tl _ (.hd _))
     have t9:=t8.closeStar
     have u0:=t9.front (.tl _ (.tl _ (.hd _)))
     have u1:((⟨p.table,p.year,p.code,p.prot,([]:List Elem),a7,a0.1,a4.1⟩:EmpS)).inputs.length≤((⟨p.table,p.year,p.code,p.prot,([]:List Elem),a7,a0.1,a4.1⟩:EmpS)).posted.slips.length:=by (try rw [← b5,eInputsWith_eq]); all_goals (try dsimp only); all_goals first | assumption | omega | (simp only [LA,LC,LN,LS]; omega) | (first | (intro i hi; cases hi) | (intro i hi; rcases LP.1 hi with hi | hi; exact ‹∀ i ∈ _,List.length (Input.elements i)≤32› i hi; (rw [LM.1 hi]; dsimp only; omega)) | (intro i hi; rcases List.mem_or_eq_of_mem_set hi with hi | hi; exact ‹∀ i ∈ _,List.length (Input.elements i)≤32› i hi; (rw [hi]; dsimp only; omega)))
     have u2:((⟨p.table,p.year,p.code,p.prot,([]:List Elem),a7,a0.1,a4.1⟩:EmpS)).inputs.length≤53:=by (try rw [← b5,eInputsWith_eq]); all_goals (try dsimp only); all_goals first | assumption | omega | (simp only [LA,LC,LN,LS]; omega) | (first | (intro i hi; cases hi) | (intro i hi; rcases LP.1 hi with hi | hi; exact ‹∀ i ∈ _,List.length (Input.elements i)≤32› i hi; (rw [LM.1 hi]; dsimp only; omega)) | (intro i hi; rcases List.mem_or_eq_of_mem_set hi with hi | hi; exact ‹∀ i ∈ _,List.length (Input.elements i)≤32› i hi; (rw [hi]; dsimp only; omega)))
     have u3:((⟨p.table,p.year,p.code,p.prot,([]:List Elem),a7,a0.1,a4.1⟩:EmpS)).next.length≤32:=by (try rw [← b5,eInputsWith_eq]); all_goals (try dsimp only); all_goals first | assumption | omega | (simp only [LA,LC,LN,LS]; omega) | (first | (intro i hi; cases hi) | (intro i hi; rcases LP.1 hi with hi | hi; exact ‹∀ i ∈ _,List.length (Input.elements i)≤32› i hi; (rw [LM.1 hi]; dsimp only; omega)) | (intro i hi; rcases List.mem_or_eq_of_mem_set hi with hi | hi; exact ‹∀ i ∈ _,List.length (Input.elements i)≤32› i hi; (rw [hi]; dsimp only; omega)))
     have u4:∀ i ∈ ((⟨p.table,p.year,p.code,p.prot,([]:List Elem),a7,a0.1,a4.1⟩:EmpS)).inputs,i.elements.length≤32:=by (try rw [← b5,eInputsWith_eq]); all_goals (try dsimp only); all_goals first | assumption | omega | (simp only [LA,LC,LN,LS]; omega) | (first | (intro i hi; cases hi) | (intro i hi; rcases LP.1 hi with hi | hi; exact ‹∀ i ∈ _,List.length (Input.elements i)≤32› i hi; (rw [LM.1 hi]; dsimp only; omega)) | (intro i hi; rcases List.mem_or_eq_of_mem_set hi with hi | hi; exact ‹∀ i ∈ _,List.length (Input.elements i)≤32› i hi; (rw [hi]; dsimp only; omega)))
     have u5:=u0.closeObj (ty:=(empTy p_posted d5)) (x:=(⟨p.table,p.year,p.code,p.prot,([]:List Elem),a7,a0.1,a4.1⟩:EmpS)) ⟨_,_,_,_,_,_,rfl,(i1.mono (((b6.t b7).t b8).t b9)),(i2.mono (((b6.t b7).t b8).t b9)),(i3.mono (((b6.t b7).t b8).t b9)),⟨_,_,rfl,(t2.mono (((b6.t b7).t b8).t b9)),rfl⟩,(Sl.nil_ _ _ _ none 0),(h9.mono (((b6.t b7).t b8).t b9)),u1,u2,u3,u4⟩
     have u6:=u5.closeStar
     have d4:Inv (empR p_r p_posted p_orders p).fp d w s1 (empR p_r p_posted d5 ((⟨p.table,p.year,p.code,p.prot,([]:List Elem),a7,a0.1,a4.1⟩:EmpS)) :: _) t6:=u6
     have u7:eRun p=((⟨p.table,p.year,p.code,p.prot,([]:List Elem),a7,a0.1,a4.1⟩:EmpS),a1.1,0):=ET (BE hr7) (ET (IN a5) (ET (BE c2) (ET (BE c4) (ET (IN a6) (ET (BE c9) (ET (IN b0) (ET (BE d2) (ET (IN b3) (ET (BE b5) (rfl))))))))))
     refine x_ret ⟨_,_,_,rfl,rfl,blk_cells d4 m3,sh_51,⟨_,_,rfl,rfl,rfl⟩⟩ (⟨_,_,rfl,d4.fr,d4.grow,by rw [u7]; exact ⟨_,_,rfl,d4.turned m0,⟨_,_,rfl,(d7.mono (((((((d0.t a2).t a3).t h8).t b6).t b7).t b8).t b9)),(d9.mono (((((((d0.t a2).t a3).t h8).t b6).t b7).t b8).t b9))⟩⟩⟩)
def eReplace_m1 (p:EmpS) (k:Int) (a0:(List Input)) (a1:(List Elem)) (a2:Input):Int:=
 (bnd (rReckon p.table p.year 0 ((a0.set (((k - 1)).toNat) ((⟨a2.code,a1⟩:Input))))) fun a3=>
 a3.2)
def eReplace (p:EmpS) (k:Int) (list:(List Elem)):EmpS × Int:=
 (if (k < 1) then (p,230)
 else (if ((p.inputs.length:Int) < k) then (p,230)
 else (bnd (eOpen p) fun a1=>
 (if (a1≠0) then (p,a1)
 else (bnd (eCheckAll p.table list) fun a2=>
 (if (a2≠0) then (p,a2)
 else (bnd (clInput p.inputs) fun a0=>
 (bnd (clElem list) fun a3=>
 (opt (a0)[((k - 1)).toNat]? fun a4=>
 (bnd (eReplace_m1 p k a0 a3 a4) fun a5=>
 (if (a5≠0) then (p,a5)
 else ((⟨p.table,p.year,p.code,p.prot,p.next,(a0.set (((k - 1)).toNat) ((⟨a4.code,a3⟩:Input))),p.posted,p.orders⟩:EmpS),0))))))))))))
theorem eReplace_c {p:EmpS} {p_r:Nat} {p_posted:Nat} {p_orders:Nat} {k:Int} {list:(List Elem)} {v_list:Value} {d:Dat} {w:World} (hd:∀ b,d b→b < w.heap.size) (h_p:(empR p_r p_posted p_orders p).ok d w) (hn_p:∀ q0 ∈ (empR p_r p_posted p_orders p).fp,¬ d q0) (h_list:Sl elemTy d w v_list list):Ret Tryz.prog 75 [.pointer (some ⟨p_r,0,none⟩),.int .i64 k,v_list] w (empR p_r p_posted p_orders p).fp d (fun u d' w'=>u=.int .i64 ((eReplace p k list).2)∧Turn (empR p_r p_posted p_orders p) (empR p_r p_posted p_orders ((eReplace p k list).1)) d' w w'):=by
 obtain ⟨A1,c2,rfl,hn3,hb4⟩:=h_list.fm
 refine ret_enter (n:=69) Tryz.func75 Z Z (ble Z) ?_
 have hI0:=Inv.startM hd h_p hn_p
 refine csr ((GA Y (gnx ((c_seq (csr ((GM Y (g_y (y_lss Z Z) Z Z (GM Y (g_split (t:=14) Z (fun a8=>?_) (fun a8=>?_))))))))))))
 ·replace a8:=OT a8
  refine gsk Z Z (gsk Z Z (gsk Z Z (gsk Z Z (gsk Z Z (gsk Z Z (gsk Z Z (g_y (y_pickT Z Z) Z Z (gnx ((c_condT Z (csr ((GA Y ?_)))))))))))))
  refine gnx ((c_ret ?_))
  have j4:eReplace p k list=(p,230):=ET (IP a8) (rfl)
  refine x_thenR (x_ret ⟨_,_,rfl,rfl,rfl⟩ ?_)
  exact ⟨_,_,rfl,hI0.fr,hI0.grow,by rw [j4]; exact ⟨rfl,hI0.turned m0⟩⟩
 ·replace a8:=OF a8
  refine GM Y (GM Y (g_y (y_nilCheck Z) Z Z (gfa fo_214_5 Z Z Z ?_)))
  obtain ⟨y5,j5,j6⟩:=hI0.openStar.openObj
  have b9:=(j5.front (.tl _ (.hd _))).openStar
  have y6:=yearR_inv (b9.ok _ m0)
  obtain ⟨y7,y8,y9,z0,z1,z2,rfl,e4,e5,e6,j7,e7,e8,z3,z4,z5,z6⟩:=j6
  obtain ⟨z7,z8,rfl,z9,a00⟩:=e4.fm
  obtain ⟨a01,a02,rfl,a03,a04⟩:=e5.fm
  obtain ⟨a05,a06,rfl,a07,a08⟩:=e6.fm
  obtain ⟨a09,a0a,rfl,g4,j8⟩:=j7
  obtain rfl:=j8
  obtain ⟨a0b,a0c,rfl,a0d,a0e⟩:=e7.fm
  obtain ⟨a0f,a0g,rfl,a0h,a0i⟩:=e8.fm
  refine gld sh_79 Z b9 m2 (i:=13) Z Z Z (gln el_79 Z Z Z (g_y (y_gtr Z Z) Z Z (g_y (y_pickF Z Z) Z Z (gnx ((c_cond Z (fun a9=>?_) (fun a9=>?_)))))))
  ·replace a9:=OT a9
   refine csr ((GA Y (gnx ((c_ret ?_)))))
   have a0j:=yearR_inv (b9.ok _ m0)
   have j9:=b9.front (.tl _ (.hd _))
   have k0:=j9.front (.tl _ (.hd _))
   have k1:=k0.closeStar
   have k2:=k1.front (.tl _ (.hd _))
   have k3:p.inputs.length≤p.posted.slips.length:=by (try rw [← trivial,clInput_eq]); (try rw [← trivial,clElem_eq]); all_goals (try dsimp only); all_goals first | assumption | omega | (simp only [LA,LC,LN,LS]; omega) | (first | (intro i hi; cases hi) | (intro i hi; rcases LP.1 hi with hi | hi; exact ‹∀ i ∈ _,List.length (Input.elements i)≤32› i hi; (rw [LM.1 hi]; dsimp only; omega)) | (intro i hi; rcases List.mem_or_eq_of_mem_set hi with hi | hi; exact ‹∀ i ∈ _,List.length (Input.elements i)≤32› i hi; (rw [hi]; dsimp only; omega)))
   have k4:p.inputs.length≤53:=by (try rw [← trivial,clInput_eq]); (try rw [← trivial,clElem_eq]); all_goals (try dsimp only); all_goals first | assumption | omega | (simp only [LA,LC,LN,LS]; omega) | (first | (intro i hi; cases hi) | (intro i hi; rcases LP.1 hi with hi | hi; exact ‹∀ i ∈ _,List.length (Input.elements i)≤32› i hi; (rw [LM.1 hi]; dsimp only; omega)) | (intro i hi; rcases List.mem_or_eq_of_mem_set hi with hi | hi; exact ‹∀ i ∈ _,List.length (Input.elements i)≤32› i hi; (rw [hi]; dsimp only; omega)))
   have k5:p.next.length≤32:=by (try rw [← trivial,clInput_eq]); (try rw [← trivial,clElem_eq]); all_goals (try dsimp only); all_goals first | assumption | omega | (simp only [LA,LC,LN,LS]; omega) | (first | (intro i hi; cases hi) | (intro i hi; rcases LP.1 hi with hi | hi; exact ‹∀ i ∈ _,List.length (Input.elements i)≤32› i hi; (rw [LM.1 hi]; dsimp only; omega)) | (intro i hi; rcases List.mem_or_eq_of_mem_set hi with hi | hi; exact ‹∀ i ∈ _,List.length (Input.elements i)≤32› i hi; (rw [hi]; dsimp only; omega)))
   have k6:∀ i ∈ p.inputs,i.elements.length≤32:=by (try rw [← trivial,clInput_eq]); (try rw [← trivial,clElem_eq]); all_goals (try dsimp only); all_goals first | assumption | omega | (simp only [LA,LC,LN,LS]; omega) | (first | (intro i hi; cases hi) | (intro i hi; rcases LP.1 hi with hi | hi; exact ‹∀ i ∈ _,List.length (Input.elements i)≤32› i hi; (rw [LM.1 hi]; dsimp only; omega)) | (intro i hi; rcases List.mem_or_eq_of_mem_set hi with hi | hi; exact ‹∀ i ∈ _,List.length (Input.elements i)≤32› i hi; (rw [hi]; dsimp only; omega)))
   have k7:=k2.closeObj (ty:=(empTy p_posted p_orders)) (x:=p) ⟨_,_,_,_,_,_,rfl,e4,e5,e6,⟨_,_,rfl,g4,rfl⟩,e7,e8,k3,k4,k5,k6⟩
   have k8:=k7.closeStar
   have e9:Inv (empR p_r p_posted p_orders p).fp d w d (empR p_r p_posted p_orders p :: _) w:=k8
   have k9:eReplace p k list=(p,230):=ET (IN a8) (ET (IP a9) (rfl))
   refine x_thenR (x_ret ⟨_,_,rfl,rfl,rfl⟩ ?_)
   exact ⟨_,_,rfl,e9.fr,e9.grow,by rw [k9]; exact ⟨rfl,e9.turned m0⟩⟩
  ·replace a9:=OF a9
   refine c_skip (x_next ?_)
   have a0k:=yearR_inv (b9.ok _ m0)
   have l0:=b9.front (.tl _ (.hd _))
   have l1:=l0.front (.tl _ (.hd _))
   have l2:=l1.closeStar
   have l3:=l2.front (.tl _ (.hd _))
   have l4:p.inputs.length≤p.posted.slips.length:=by (try rw [← trivial,clInput_eq]); (try rw [← trivial,clElem_eq]); all_goals (try dsimp only); all_goals first | assumption | omega | (simp only [LA,LC,LN,LS]; omega) | (first | (intro i hi; cases hi) | (intro i hi; rcases LP.1 hi with hi | hi; exact ‹∀ i ∈ _,List.length (Input.elements i)≤32› i hi; (rw [LM.1 hi]; dsimp only; omega)) | (intro i hi; rcases List.mem_or_eq_of_mem_set hi with hi | hi; exact ‹∀ i ∈ _,List.length (Input.elements i)≤32› i hi; (rw [hi]; dsimp only; omega)))
   have l5:p.inputs.length≤53:=by (try rw [← trivial,clInput_eq]); (try rw [← trivial,clElem_eq]); all_goals (try dsimp only); all_goals first | assumption | omega | (simp only [LA,LC,LN,LS]; omega) | (first | (intro i hi; cases hi) | (intro i hi; rcases LP.1 hi with hi | hi; exact ‹∀ i ∈ _,List.length (Input.elements i)≤32› i hi; (rw [LM.1 hi]; dsimp only; omega)) | (intro i hi; rcases List.mem_or_eq_of_mem_set hi with hi | hi; exact ‹∀ i ∈ _,List.length (Input.elements i)≤32› i hi; (rw [hi]; dsimp only; omega)))
   have l6:p.next.length≤32:=by (try rw [← trivial,clInput_eq]); (try rw [← trivial,clElem_eq]); all_goals (try dsimp only); all_goals first | assumption | omega | (simp only [LA,LC,LN,LS]; omega) | (first | (intro i hi; cases hi) | (intro i hi; rcases LP.1 hi with hi | hi; exact ‹∀ i ∈ _,List.length (Input.elements i)≤32› i hi; (rw [LM.1 hi]; dsimp only; omega)) | (intro i hi; rcases List.mem_or_eq_of_mem_set hi with hi | hi; exact ‹∀ i ∈ _,List.length (Input.elements i)≤32› i hi; (rw [hi]; dsimp only; omega)))
   have l7:∀ i ∈ p.inputs,i.elements.length≤32:=by (try rw [← trivial,clInput_eq]); (try rw [← trivial,clElem_eq]); all_goals (try dsimp only); all_goals first | assumption | omega | (simp only [LA,LC,LN,LS]; omega) | (first | (intro i hi; cases hi) | (intro i hi; rcases LP.1 hi with hi | hi; exact ‹∀ i ∈ _,List.length (Input.elements i)≤32› i hi; (rw [LM.1 hi]; dsimp only; omega)) | (intro i hi; rcases List.mem_or_eq_of_mem_set hi with hi | hi; exact ‹∀ i ∈ _,List.length (Input.elements i)≤32› i hi; (rw [hi]; dsimp only; omega)))
   have l8:=l3.closeObj (ty:=(empTy p_posted p_orders)) (x:=p) ⟨_,_,_,_,_,_,rfl,e4,e5,e6,⟨_,_,rfl,g4,rfl⟩,e7,e8,l4,l5,l6,l7⟩
   have l9:=l8.closeStar
   have f0:Inv (empR p_r p_posted p_orders p).fp d w d (empR p_r p_posted p_orders p :: _) w:=l9
   refine c_seq (csr ((GM Y ?_)))
   have g5:=eOpen_c (p:=p) (p_r:=p_r) (p_posted:=p_posted) (p_orders:=p_orders) f0.lt (f0.ok _ m0)
   obtain ⟨m6,c6⟩:∃ r,eOpen p=r:=⟨_,rfl⟩
   rw [c6] at g5
   refine g_e (ev_pure f0 pf_107 Z g5) Z Z ?_
   rintro _ a0l ⟨a0m,d5,g6,rfl⟩
   refine GA Y (gnx ((csr ((GM Y (g_y (y_neq Z Z) Z Z (gnx ((c_cond Z (fun b0=>?_) (fun b0=>?_))))))))))
   ·replace b0:=OT b0
    refine csr ((GM Y (GA Y (gnx ((c_ret ?_))))))
    have m7:eReplace p k list=(p,m6):=ET (IN a8) (ET (IN a9) (ET (BE c6) (ET (IP b0) (rfl))))
    refine x_thenR (x_ret ⟨_,_,rfl,rfl,rfl⟩ ?_)
    exact ⟨_,_,rfl,d5.fr,d5.grow,by rw [m7]; exact ⟨rfl,d5.turned m0⟩⟩
   ·replace b0:=OF b0
    refine c_skip (x_next (c_seq (csr ((GM Y (g_y (y_nilCheck Z) Z Z (gfa fo_214_0 Z Z Z ?_)))))))
    obtain ⟨a0n,m8,m9⟩:=d5.openStar.openObj
    have d6:=(m8.front (.tl _ (.hd _))).openStar
    have a0o:=yearR_inv (d6.ok _ m0)
    obtain ⟨a0p,a0q,a0r,a0s,a0t,a0u,rfl,d7,d8,d9,n0,f1,e0,a0v,a0w,a0x,a0y⟩:=m9
    obtain ⟨n1,n2,rfl,a0z,a10⟩:=d7.fm
    obtain ⟨n3,n4,rfl,a11,a12⟩:=d8.fm
    obtain ⟨n5,n6,rfl,a13,a14⟩:=d9.fm
    obtain ⟨a15,a16,rfl,g7,n7⟩:=n0
    obtain rfl:=n7
    obtain ⟨a17,a18,rfl,a19,a1a⟩:=f1.fm
    obtain ⟨a1b,a1c,rfl,a1d,a1e⟩:=e0.fm
    refine g_y (y_loadA (cs:=[.slice n1 (p.table.schemes).length n2,.slice n3 (p.table.contribs).length n4,.slice n5 (p.table.kinds).length n6,.int .i64 p.table.limit,.int .i64 p.table.round]) sh_26 Z ((blk_cells d6 m2).part (f:=0) (.take _ (.take _ (.take _ (.take _ (.take _ (.nil _)))))))) Z Z (GM Y ?_)
    have g8:=eCheckAll_c (t:=p.table) (list:=list) d6.lt (show tableTy.rel _ _ p.table _ from ⟨_,_,_,rfl,d7,d8,d9⟩) (h_list.mono g6)
    obtain ⟨g9,c7⟩:∃ r,eCheckAll p.table list=r:=⟨_,rfl⟩
    rw [c7] at g8
    have h8r265:g9≠0∨list.length≤32:=by rw [← c7]; exact (Decidable.em (eCheckAll _ _=0)).symm.imp id eCheckAll_len
    refine g_e (ev_pure d6 pf_98 Z g8) Z Z ?_
    rintro _ n8 ⟨n9,c8,a6,rfl⟩
    refine GA Y (gnx ((csr ((GM Y (g_y (y_neq Z Z) Z Z (gnx ((c_cond Z (fun b1=>?_) (fun b1=>?_))))))))))
    ·replace b1:=OT b1
     refine csr ((GM Y (GA Y (gnx ((c_ret ?_))))))
     have a1f:=yearR_inv (c8.ok _ m0)
     have o0:=c8.front (.tl _ (.hd _))
     have o1:=o0.front (.tl _ (.hd _))
     have o2:=o1.closeStar
     have o3:=o2.front (.tl _ (.hd _))
     have o4:p.inputs.length≤p.posted.slips.length:=by (try rw [← trivial,clInput_eq]); (try rw [← trivial,clElem_eq]); all_goals (try dsimp only); all_goals first | assumption | omega | (simp only [LA,LC,LN,LS]; omega) | (first | (intro i hi; cases hi) | (intro i hi; rcases LP.1 hi with hi | hi; exact ‹∀ i ∈ _,List.length (Input.elements i)≤32› i hi; (rw [LM.1 hi]; dsimp only; omega)) | (intro i hi; rcases List.mem_or_eq_of_mem_set hi with hi | hi; exact ‹∀ i ∈ _,List.length (Input.elements i)≤32› i hi; (rw [hi]; dsimp only; omega)))
     have o5:p.inputs.length≤53:=by (try rw [← trivial,clInput_eq]); (try rw [← trivial,clElem_eq]); all_goals (try dsimp only); all_goals first | assumption | omega | (simp only [LA,LC,LN,LS]; omega) | (first | (intro i hi; cases hi) | (intro i hi; rcases LP.1 hi with hi | hi; exact ‹∀ i ∈ _,List.length (Input.elements i)≤32› i hi; (rw [LM.1 hi]; dsimp only; omega)) | (intro i hi; rcases List.mem_or_eq_of_mem_set hi with hi | hi; exact ‹∀ i ∈ _,List.length (Input.elements i)≤32› i hi; (rw [hi]; dsimp only; omega)))
     have o6:p.next.length≤32:=by (try rw [← trivial,clInput_eq]); (try rw [← trivial,clElem_eq]); all_goals (try dsimp only); all_goals first | assumption | omega | (simp only [LA,LC,LN,LS]; omega) | (first | (intro i hi; cases hi) | (intro i hi; rcases LP.1 hi with hi | hi; exact ‹∀ i ∈ _,List.length (Input.elements i)≤32› i hi; (rw [LM.1 hi]; dsimp only; omega)) | (intro i hi; rcases List.mem_or_eq_of_mem_set hi with hi | hi; exact ‹∀ i ∈ _,List.length (Input.elements i)≤32› i hi; (rw [hi]; dsimp only; omega)))
     have o7:∀ i ∈ p.inputs,i.elements.length≤32:=by (try rw [← trivial,clInput_eq]); (try rw [← trivial,clElem_eq]); all_goals (try dsimp only); all_goals first | assumption | omega | (simp only [LA,LC,LN,LS]; omega) | (first | (intro i hi; cases hi) | (intro i hi; rcases LP.1 hi with hi | hi; exact ‹∀ i ∈ _,List.length (Input.elements i)≤32› i hi; (rw [LM.1 hi]; dsimp only; omega)) | (intro i hi; rcases List.mem_or_eq_of_mem_set hi with hi | hi; exact ‹∀ i ∈ _,List.length (Input.elements i)≤32› i hi; (rw [hi]; dsimp only; omega)))
     have o8:=o3.closeObj (ty:=(empTy p_posted p_orders)) (x:=p) ⟨_,_,_,_,_,_,rfl,(d7.mono a6),(d8.mono a6),(d9.mono a6),⟨_,_,rfl,(g7.mono a6),rfl⟩,(f1.mono a6),(e0.mono a6),o4,o5,o6,o7⟩
     have o9:=o8.closeStar
     have f2:Inv (empR p_r p_posted p_orders p).fp d w n9 (empR p_r p_posted p_orders p :: _) n8:=o9
     have p0:eReplace p k list=(p,g9):=ET (IN a8) (ET (IN a9) (ET (BE c6) (ET (IN b0) (ET (BE c7) (ET (IP b1) (rfl))))))
     refine x_thenR (x_ret ⟨_,_,rfl,rfl,rfl⟩ ?_)
     exact ⟨_,_,rfl,f2.fr,f2.grow,by rw [p0]; exact ⟨rfl,f2.turned m0⟩⟩
    ·replace b1:=OF b1
     refine c_skip (x_next (csr ((GM Y (g_y (y_nilCheck Z) Z Z (gfa fo_214_5 Z Z Z (gld sh_79 Z c8 m2 (i:=13) Z Z Z ?_)))))))
     have h0:=clInput_c (s:=p.inputs) c8.lt (e0.mono a6)
     obtain ⟨a4,a2⟩:∃ r,clInput p.inputs=r:=⟨_,rfl⟩
     rw [a2] at h0
     have h8r286:a4.length=p.inputs.length:=by rw [← a2,clInput_eq]
     refine g_e (ev_row c8 pf_156 Z h0) Z Z ?_
     rintro _ a1g ⟨a1h,p1,p2,rfl,f3,b7⟩
     have p3:=row_len (f3.ok _ m0); unfold big at p3
     refine GA Y (gnx ((csr ((GM Y (GM Y (g_y (y_sub Z Z (by omega)) Z Z (GM Y ?_))))))))
     have h1:=clElem_c (s:=list) f3.lt (h_list.mono ((g6.t a6).t b7))
     obtain ⟨a5,a3⟩:∃ r,clElem list=r:=⟨_,rfl⟩
     rw [a3] at h1
     have h8r296:a5.length=list.length:=by rw [← a3,clElem_eq]
     refine g_e (ev_row f3 pf_136 Z h1) Z Z ?_
     rintro _ a1i ⟨a1j,a1k,a1l,rfl,c0,c1⟩
     have p4:=row_len (c0.ok _ m0); unfold big at p4
     obtain ⟨a1,c9⟩:=has (xs:=a4) (k:=((k - 1)).toNat) (by omega)
     obtain ⟨p5,a1m,f4,p6,a1n⟩:=row_at0 (c0.ok _ m1) c9
     obtain ⟨a1o,rfl,p7⟩:=p6
     obtain ⟨a1p,a1q,rfl,a1r,a1s⟩:=p7.fm
     refine g_y (y_indexAddr (i:=((k - 1)).toNat) el_79 Z f4 Z ((Int.toNat_of_nonneg (by omega)).symm) (by omega)) Z Z (gfa fo_112_1 Z Z Z ?_)
     obtain ⟨p8,h2,c3,p9⟩:=pub_row c0 (.hd _) (notM_app (c0.apart2 (.hd _) m3 rfl) (notM_app (c0.apart2 (.hd _) m1 rfl) (c0.apart2 (.hd _) m2 rfl)))
     obtain ⟨q1,a1t,h3,q2,q3⟩:=row_at0 (h2.ok _ m0) c9
     have q4:q1=p5:=by rw [f4] at h3; cases h3; rfl
     subst q4
     obtain ⟨a1u,rfl,q5⟩:=q2
     obtain ⟨q6,q7,rfl,a1v,a1w⟩:=q5.fm
     refine g_e (ev_storeRow (i:=((k - 1)).toNat) (off:=5) (cs:=[.int .i64 a1.code.scheme,.int .i64 a1.code.kind,.int .i64 a1.code.amount,.int .i64 a1.code.flat,.bool a1.code.alone,.slice q6 (a1.elements).length q7]) (y':=(⟨a1.code,a5⟩:Input)) h2 f4 Z Z Z sz_43 Z (.next _ (.next _ (.next _ (.next _ (.next _ (.here _ _ (.nil _))))))) (.hd _) c9 q3 Z ⟨_,rfl,p9⟩ (ble Z)) Z Z ?_
     rintro _ f5 ⟨h4,c4⟩
     have a1x:(a4.set (((k - 1)).toNat) ((⟨a1.code,a5⟩:Input))).length=a4.length:=LS ..
     refine gnx (?_)
     have a1y:=yearR_inv (h4.ok _ m1)
     have q8:=h4.front (.tl _ (.tl _ (.hd _)))
     have q9:=q8.front (.tl _ (.tl _ (.hd _)))
     have r0:=q9.closeStar
     have r1:=r0.front (.tl _ (.tl _ (.hd _)))
     have r2:p.inputs.length≤p.posted.slips.length:=by (try rw [← a2,clInput_eq]); (try rw [← a3,clElem_eq]); all_goals (try dsimp only); all_goals first | assumption | omega | (simp only [LA,LC,LN,LS]; omega) | (first | (intro i hi; cases hi) | (intro i hi; rcases LP.1 hi with hi | hi; exact ‹∀ i ∈ _,List.length (Input.elements i)≤32› i hi; (rw [LM.1 hi]; dsimp only; omega)) | (intro i hi; rcases List.mem_or_eq_of_mem_set hi with hi | hi; exact ‹∀ i ∈ _,List.length (Input.elements i)≤32› i hi; (rw [hi]; dsimp only; omega)))
     have r3:p.inputs.length≤53:=by (try rw [← a2,clInput_eq]); (try rw [← a3,clElem_eq]); all_goals (try dsimp only); all_goals first | assumption | omega | (simp only [LA,LC,LN,LS]; omega) | (first | (intro i hi; cases hi) | (intro i hi; rcases LP.1 hi with hi | hi; exact ‹∀ i ∈ _,List.length (Input.elements i)≤32› i hi; (rw [LM.1 hi]; dsimp only; omega)) | (intro i hi; rcases List.mem_or_eq_of_mem_set hi with hi | hi; exact ‹∀ i ∈ _,List.length (Input.elements i)≤32› i hi; (rw [hi]; dsimp only; omega)))
     have r4:p.next.length≤32:=by (try rw [← a2,clInput_eq]); (try rw [← a3,clElem_eq]); all_goals (try dsimp only); all_goals first | assumption | omega | (simp only [LA,LC,LN,LS]; omega) | (first | (intro i hi; cases hi) | (intro i hi; rcases LP.1 hi with hi | hi; exact ‹∀ i ∈ _,List.length (Input.elements i)≤32› i hi; (rw [LM.1 hi]; dsimp only; omega)) | (intro i hi; rcases List.mem_or_eq_of_mem_set hi with hi | hi; exact ‹∀ i ∈ _,List.length (Input.elements i)≤32› i hi; (rw [hi]; dsimp only; omega)))
     have r5:∀ i ∈ p.inputs,i.elements.length≤32:=by (try rw [← a2,clInput_eq]); (try rw [← a3,clElem_eq]); all_goals (try dsimp only); all_goals first | assumption | omega | (simp only [LA,LC,LN,LS]; omega) | (first | (intro i hi; cases hi) | (intro i hi; rcases LP.1 hi with hi | hi; exact ‹∀ i ∈ _,List.length (Input.elements i)≤32› i hi; (rw [LM.1 hi]; dsimp only; omega)) | (intro i hi; rcases List.mem_or_eq_of_mem_set hi with hi | hi; exact ‹∀ i ∈ _,List.length (Input.elements i)≤32› i hi; (rw [hi]; dsimp only; omega)))
     have r6:=r1.closeObj (ty:=(empTy p_posted p_orders)) (x:=p) ⟨_,_,_,_,_,_,rfl,(d7.mono ((((a6.t b7).t c1).t c3).t c4)),(d8.mono ((((a6.t b7).t c1).t c3).t c4)),(d9.mono ((((a6.t b7).t c1).t c3).t c4)),⟨_,_,rfl,(g7.mono ((((a6.t b7).t c1).t c3).t c4)),rfl⟩,(f1.mono ((((a6.t b7).t c1).t c3).t c4)),(e0.mono ((((a6.t b7).t c1).t c3).t c4)),r2,r3,r4,r5⟩
     have r7:=r6.closeStar
     have h5:Inv (empR p_r p_posted p_orders p).fp d w p8 (empR p_r p_posted p_orders p :: _) f5:=r7
     refine c_seq ?_
     obtain ⟨h6,r8,a1z,f6⟩:=pub_row h5 (.tl _ (.hd _)) (h5.apart2 (.tl _ (.hd _)) m0 rfl)
     refine c_cut (ι:=Int × Dat) (fun ⟨d0,d1⟩=>[(0,.pointer (some ⟨p_r,0,none⟩)),(9,.slice p1 a4.length p2),(11,.int .i64 d0)]) (fun ⟨d0,d1⟩ f7=>Inv (empR p_r p_posted p_orders p).fp d w d1 [empR p_r p_posted p_orders p] f7∧Le h6 f5 d1 f7∧eReplace_m1 p k a4 a5 a1=d0) ?_ ?_
     ·obtain ⟨a20,r9,s0⟩:=r8.openStar.openObj
      have h7:=(r9.front (.tl _ (.hd _))).openStar
      have a21:=yearR_inv (h7.ok _ m0)
      obtain ⟨a22,a23,a24,a25,a26,a27,rfl,d2,d3,d4,s1,f8,f9,a28,a29,a2a,a2b⟩:=s0
      obtain ⟨s2,s3,rfl,a2c,a2d⟩:=d2.fm
      obtain ⟨s4,s5,rfl,a2e,a2f⟩:=d3.fm
      obtain ⟨s6,s7,rfl,a2g,a2h⟩:=d4.fm
      obtain ⟨a2i,a2j,rfl,e1,s8⟩:=s1
      obtain rfl:=s8
      obtain ⟨a2k,a2l,rfl,a2m,a2n⟩:=f8.fm
      obtain ⟨a2o,a2p,rfl,a2q,a2r⟩:=f9.fm
      have e2:=h7.drew; have a0:=Le.drew h6 f5
      refine c_drawK 15 follows_mixed e2 (k_y 0 (by kernel_rfl) Z Z Z (fun _ _=>(y_move Z)) (k_y 1 (by kernel_rfl) Z Z Z (fun _ _=>(y_nilCheck Z)) (k_y 2 (by kernel_rfl) Z Z Z (fun _ _=>(y_fieldAddr fo_214_0 Z)) (k_y 3 (by kernel_rfl) Z Z Z (fun a2s ⟨a2t,s9,a2u⟩=>(y_loadA (cs:=[.slice s2 (p.table.schemes).length s3,.slice s4 (p.table.contribs).length s5,.slice s6 (p.table.kinds).length s7,.int .i64 p.table.limit,.int .i64 p.table.round]) sh_26 Z ((blk_cells s9 m2).part (f:=0) (.take _ (.take _ (.take _ (.take _ (.take _ (.nil _))))))))) (k_y 4 (by kernel_rfl) Z Z Z (fun _ _=>(y_move Z)) (k_y 5 (by kernel_rfl) Z Z Z (fun _ _=>(y_nilCheck Z)) (k_y 6 (by kernel_rfl) Z Z Z (fun _ _=>(y_fieldAddr fo_214_1 Z)) (k_y 7 (by kernel_rfl) Z Z Z (fun a2v ⟨a2w,t0,a2x⟩=>(y_load1 sh_93 Z ((blk_cells t0 m2).nth_ (i:=5) Z))) (k_y 8 (by kernel_rfl) Z Z Z (fun _ _=>(y_move Z)) (k_all (is:=[9,13]) (by kernel_rfl) (by simp) (.cons ?_ (.cons ?_ .nil))))))))))))
      ·have h8:=rReckon_c (t:=p.table) (y:=p.year) (gross:=0) (list:=(a4.set (((k - 1)).toNat) ((⟨a1.code,a5⟩:Input)))) e2.lt (show tableTy.rel _ _ p.table _ from ⟨_,_,_,rfl,(d2.mono a0),(d3.mono a0),(d4.mono a0)⟩) (show PtrD pYearTy _ _ _ p.year from ⟨_,_,rfl,(e1.mono a0),rfl⟩) (f6.mono a0)
       obtain ⟨t1,h9⟩:∃ r,rReckon p.table p.year 0 ((a4.set (((k - 1)).toNat) ((⟨a1.code,a5⟩:Input))))=r:=⟨_,rfl⟩
       rw [h9] at h8
       refine k_op Z Z Z (ev_pure e2 pf_42 Z h8) ?_
       rintro _ a2y ⟨i0,i1,b2,⟨a2z,rfl,t2⟩⟩
       obtain ⟨a30,a31,rfl,t3,t4⟩:=t2
       obtain ⟨a32,a33,rfl,a34,a35⟩:=t3.fm
       obtain ⟨a36,a37,rfl,a38,a39⟩:=t4.fm
       refine k_next i1 b2 (k_y 10 (by kernel_rfl) Z Z Z (fun _ _=>(y_move Z)) (k_y 11 (by kernel_rfl) Z Z Z (fun _ _=>(y_extract Z Z)) (k_y 12 (by kernel_rfl) Z Z Z (fun _ _=>(y_extract Z Z)) (k_all (is:=[13]) (by kernel_rfl) (by simp) (.cons ?_ .nil)))))
       refine k_op Z Z Z (ev_alloc i1 ze_97) ?_
       rintro _ a3a ⟨a3b,rfl,i2,b3⟩
       refine k_next (i2.drop (.hd _)) b3 (k_all (is:=[14]) (by kernel_rfl) (by simp) (.cons ?_ .nil))
       refine k_op Z Z Z (ev_store i2 Z Z Z sz_97 Z (.here _ _ (.here _ _ (.here _ _ (.here _ _ (.here _ _ (.here _ _ (.nil _))))))) (.hd _)) ?_
       rintro _ t5 ⟨g0,b4⟩
       refine k_next (g0.drop (.hd _)) b4 (k_all (is:=[15]) (by kernel_rfl) (by simp) (.cons ?_ .nil))
       refine k_op Z Z Z (Ev.of_y2 (y_assign Z)) ?_
       rintro _ _ ⟨rfl,rfl⟩
       refine k_bar (b_done (by kernel_rfl) (x_draw ?_) (by kernel_rfl))
       have a3c:=yearR_inv (g0.ok _ m1)
       have t6:=g0.front (.tl _ (.tl _ (.hd _)))
       have t7:=t6.front (.tl _ (.tl _ (.hd _)))
       have t8:=t7.closeStar
       have t9:=t8.front (.tl _ (.tl _ (.hd _)))
       have u0:p.inputs.length≤p.posted.slips.length:=by (try rw [← a2,clInput_eq]); (try rw [← a3,clElem_eq]); all_goals (try dsimp only); all_goals first | assumption | omega | (simp only [LA,LC,LN,LS]; omega) | (first | (intro i hi; cases hi) | (intro i hi; rcases LP.1 hi with hi | hi; exact ‹∀ i ∈ _,List.length (Input.elements i)≤32› i hi; (rw [LM.1 hi]; dsimp only; omega)) | (intro i hi; rcases List.mem_or_eq_of_mem_set hi with hi | hi; exact ‹∀ i ∈ _,List.length (Input.elements i)≤32› i hi; (rw [hi]; dsimp only; omega)))
       have u1:p.inputs.length≤53:=by (try rw [← a2,clInput_eq]); (try rw [← a3,clElem_eq]); all_goals (try dsimp only); all_goals first | assumption | omega | (simp only [LA,LC,LN,LS]; omega) | (first | (intro i hi; cases hi) | (intro i hi; rcases LP.1 hi with hi | hi; exact ‹∀ i ∈ _,List.length (Input.elements i)≤32› i hi; (rw [LM.1 hi]; dsimp only; omega)) | (intro i hi; rcases List.mem_or_eq_of_mem_set hi with hi | hi; exact ‹∀ i ∈ _,List.length (Input.elements i)≤32› i hi; (rw [hi]; dsimp only; omega)))
       have u2:p.next.length≤32:=by (try rw [← a2,clInput_eq]); (try rw [← a3,clElem_eq]); all_goals (try dsimp only); all_goals first | assumption | omega | (simp only [LA,LC,LN,LS]; omega) | (first | (intro i hi; cases hi) | (intro i hi; rcases LP.1 hi with hi | hi; exact ‹∀ i ∈ _,List.length (Input.elements i)≤32› i hi; (rw [LM.1 hi]; dsimp only; omega)) | (intro i hi; rcases List.mem_or_eq_of_mem_set hi with hi | hi; exact ‹∀ i ∈ _,List.length (Input.elements i)≤32› i hi; (rw [hi]; dsimp only; omega)))
       have u3:∀ i ∈ p.inputs,i.elements.length≤32:=by (try rw [← a2,clInput_eq]); (try rw [← a3,clElem_eq]); all_goals (try dsimp only); all_goals first | assumption | omega | (simp only [LA,LC,LN,LS]; omega) | (first | (intro i hi; cases hi) | (intro i hi; rcases LP.1 hi with hi | hi; exact ‹∀ i ∈ _,List.length (Input.elements i)≤32› i hi; (rw [LM.1 hi]; dsimp only; omega)) | (intro i hi; rcases List.mem_or_eq_of_mem_set hi with hi | hi; exact ‹∀ i ∈ _,List.length (Input.elements i)≤32› i hi; (rw [hi]; dsimp only; omega)))
       have u4:=t9.closeObj (ty:=(empTy p_posted p_orders)) (x:=p) ⟨_,_,_,_,_,_,rfl,(d2.mono (((a0.t b2).t b3).t b4)),(d3.mono (((a0.t b2).t b3).t b4)),(d4.mono (((a0.t b2).t b3).t b4)),⟨_,_,rfl,(e1.mono (((a0.t b2).t b3).t b4)),rfl⟩,(f8.mono (((a0.t b2).t b3).t b4)),(f9.mono (((a0.t b2).t b3).t b4)),u0,u1,u2,u3⟩
       have u5:=u4.closeStar
       have u6:Inv (empR p_r p_posted p_orders p).fp d w i0 (empR p_r p_posted p_orders p :: _) t5:=u5
       have u7:=u6.drop (.tl _ (.hd _))
       refine x_cut (t1.2,i0) (.cons Z (.cons Z (.cons Z (.nil _)))) ⟨u7,(((a0.t b2).t b3).t b4),ET (BE h9) (rfl)⟩
      ·refine k_op Z Z Z (ev_alloc e2 ze_97) ?_
       rintro _ a3d ⟨a3e,rfl,g1,a7⟩
       refine k_next (g1.drop (.hd _)) a7 (k_all (is:=[9]) (by kernel_rfl) (by simp) (.cons ?_ .nil))
       have i3:=rReckon_c (t:=p.table) (y:=p.year) (gross:=0) (list:=(a4.set (((k - 1)).toNat) ((⟨a1.code,a5⟩:Input)))) g1.lt (show tableTy.rel _ _ p.table _ from ⟨_,_,_,rfl,(d2.mono (a0.t a7)),(d3.mono (a0.t a7)),(d4.mono (a0.t a7))⟩) (show PtrD pYearTy _ _ _ p.year from ⟨_,_,rfl,(e1.mono (a0.t a7)),rfl⟩) (f6.mono (a0.t a7))
       obtain ⟨u8,i4⟩:∃ r,rReckon p.table p.year 0 ((a4.set (((k - 1)).toNat) ((⟨a1.code,a5⟩:Input))))=r:=⟨_,rfl⟩
       rw [i4] at i3
       refine k_op Z Z Z (ev_pure g1 pf_42 Z i3) ?_
       rintro _ a3f ⟨i5,i6,b5,⟨a3g,rfl,u9⟩⟩
       obtain ⟨a3h,a3i,rfl,v0,v1⟩:=u9
       obtain ⟨a3j,a3k,rfl,a3l,a3m⟩:=v0.fm
       obtain ⟨a3n,a3o,rfl,a3p,a3q⟩:=v1.fm
       refine k_next (i6.drop (.hd _)) b5 (k_y 10 (by kernel_rfl) Z Z Z (fun _ _=>(y_move Z)) (k_y 11 (by kernel_rfl) Z Z Z (fun _ _=>(y_extract Z Z)) (k_y 12 (by kernel_rfl) Z Z Z (fun _ _=>(y_extract Z Z)) (k_all (is:=[14]) (by kernel_rfl) (by simp) (.cons ?_ .nil)))))
       refine k_op Z Z Z (ev_store i6 Z Z Z sz_97 Z (.here _ _ (.here _ _ (.here _ _ (.here _ _ (.here _ _ (.here _ _ (.nil _))))))) (.hd _)) ?_
       rintro _ v2 ⟨g2,b6⟩
       refine k_next (g2.drop (.hd _)) b6 (k_all (is:=[15]) (by kernel_rfl) (by simp) (.cons ?_ .nil))
       refine k_op Z Z Z (Ev.of_y2 (y_assign Z)) ?_
       rintro _ _ ⟨rfl,rfl⟩
       refine k_bar (b_done (by kernel_rfl) (x_draw ?_) (by kernel_rfl))
       have a3r:=yearR_inv (g2.ok _ m1)
       have v3:=g2.front (.tl _ (.tl _ (.hd _)))
       have v4:=v3.front (.tl _ (.tl _ (.hd _)))
       have v5:=v4.closeStar
       have v6:=v5.front (.tl _ (.tl _ (.hd _)))
       have v7:p.inputs.length≤p.posted.slips.length:=by (try rw [← a2,clInput_eq]); (try rw [← a3,clElem_eq]); all_goals (try dsimp only); all_goals first | assumption | omega | (simp only [LA,LC,LN,LS]; omega) | (first | (intro i hi; cases hi) | (intro i hi; rcases LP.1 hi with hi | hi; exact ‹∀ i ∈ _,List.length (Input.elements i)≤32› i hi; (rw [LM.1 hi]; dsimp only; omega)) | (intro i hi; rcases List.mem_or_eq_of_mem_set hi with hi | hi; exact ‹∀ i ∈ _,List.length (Input.elements i)≤32› i hi; (rw [hi]; dsimp only; omega)))
       have v8:p.inputs.length≤53:=by (try rw [← a2,clInput_eq]); (try rw [← a3,clElem_eq]); all_goals (try dsimp only); all_goals first | assumption | omega | (simp only [LA,LC,LN,LS]; omega) | (first | (intro i hi; cases hi) | (intro i hi; rcases LP.1 hi with hi | hi; exact ‹∀ i ∈ _,List.length (Input.elements i)≤32› i hi; (rw [LM.1 hi]; dsimp only; omega)) | (intro i hi; rcases List.mem_or_eq_of_mem_set hi with hi | hi; exact ‹∀ i ∈ _,List.length (Input.elements i)≤32› i hi; (rw [hi]; dsimp only; omega)))
       have v9:p.next.length≤32:=by (try rw [← a2,clInput_eq]); (try rw [← a3,clElem_eq]); all_goals (try dsimp only); all_goals first | assumption | omega | (simp only [LA,LC,LN,LS]; omega) | (first | (intro i hi; cases hi) | (intro i hi; rcases LP.1 hi with hi | hi; exact ‹∀ i ∈ _,List.length (Input.elements i)≤32› i hi; (rw [LM.1 hi]; dsimp only; omega)) | (intro i hi; rcases List.mem_or_eq_of_mem_set hi with hi | hi; exact ‹∀ i ∈ _,List.length (Input.elements i)≤32› i hi; (rw [hi]; dsimp only; omega)))
       have w0:∀ i ∈ p.inputs,i.elements.length≤32:=by (try rw [← a2,clInput_eq]); (try rw [← a3,clElem_eq]); all_goals (try dsimp only); all_goals first | assumption | omega | (simp only [LA,LC,LN,LS]; omega) | (first | (intro i hi; cases hi) | (intro i hi; rcases LP.1 hi with hi | hi; exact ‹∀ i ∈ _,List.length (Input.elements i)≤32› i hi; (rw [LM.1 hi]; dsimp only; omega)) | (intro i hi; rcases List.mem_or_eq_of_mem_set hi with hi | hi; exact ‹∀ i ∈ _,List.length (Input.elements i)≤32› i hi; (rw [hi]; dsimp only; omega)))
       have w1:=v6.closeObj (ty:=(empTy p_posted p_orders)) (x:=p) ⟨_,_,_,_,_,_,rfl,(d2.mono (((a0.t a7).t b5).t b6)),(d3.mono (((a0.t a7).t b5).t b6)),(d4.mono (((a0.t a7).t b5).t b6)),⟨_,_,rfl,(e1.mono (((a0.t a7).t b5).t b6)),rfl⟩,(f8.mono (((a0.t a7).t b5).t b6)),(f9.mono (((a0.t a7).t b5).t b6)),v7,v8,v9,w0⟩
       have w2:=w1.closeStar
       have w3:Inv (empR p_r p_posted p_orders p).fp d w i5 (empR p_r p_posted p_orders p :: _) v2:=w2
       have w4:=w3.drop (.tl _ (.hd _))
       refine x_cut (u8.2,i5) (.cons Z (.cons Z (.cons Z (.nil _)))) ⟨w4,(((a0.t a7).t b5).t b6),ET (BE i4) (rfl)⟩
     ·rintro ⟨d0,d1⟩ f7 ⟨e3,w5,i7⟩
      refine csr ((GM Y (g_y (y_neq Z Z) Z Z (gnx ((c_cond Z (fun b8=>?_) (fun b8=>?_)))))))
      ·replace b8:=OT b8
       refine csr ((GM Y (GA Y (gnx ((c_ret ?_))))))
       have w6:eReplace p k list=(p,d0):=ET (IN a8) (ET (IN a9) (ET (BE c6) (ET (IN b0) (ET (BE c7) (ET (IN b1) (ET (BE a2) (ET (BE a3) (ET (opt_some c9) (ET (BE i7) (ET (IP b8) (rfl)))))))))))
       refine x_thenR (x_ret ⟨_,_,rfl,rfl,rfl⟩ ?_)
       exact ⟨_,_,rfl,e3.fr,e3.grow,by rw [w6]; exact ⟨rfl,e3.turned m0⟩⟩
      ·replace b8:=OF b8
       refine c_skip (x_next (csr ((GM Y (GM Y (g_y (y_nilCheck Z) Z Z (gfa fo_214_5 Z Z Z ?_)))))))
       obtain ⟨a3s,w7,w8⟩:=e3.openStar.openObj
       have i8:=(w7.front (.tl _ (.hd _))).openStar
       have a3t:=yearR_inv (i8.ok _ m0)
       obtain ⟨a3u,a3v,a3w,a3x,a3y,a3z,rfl,i9,j0,j1,w9,j2,x0,a40,a41,a42,a43⟩:=w8
       obtain ⟨a44,a45,rfl,a46,a47⟩:=i9.fm
       obtain ⟨a48,a49,rfl,a4a,a4b⟩:=j0.fm
       obtain ⟨a4c,a4d,rfl,a4e,a4f⟩:=j1.fm
       obtain ⟨a4g,a4h,rfl,x1,x2⟩:=w9
       obtain rfl:=x2
       obtain ⟨a4i,a4j,rfl,a4k,a4l⟩:=j2.fm
       obtain ⟨a4m,a4n,rfl,a4o,a4p⟩:=x0.fm
       refine g_e (ev_store i8 Z Z Z sz_79 Z (.next _ (.next _ (.next _ (.next _ (.next _ (.next _ (.next _ (.next _ (.next _ (.next _ (.next _ (.next _ (.next _ (.here _ _ (.nil _))))))))))))))) (.tl _ (.tl _ (.hd _)))) Z Z ?_
       rintro _ x3 ⟨j3,c5⟩
       refine gnx ((csr ((GA Y (gnx ((c_ret ?_)))))))
       have a4q:=yearR_inv (j3.ok _ m0)
       have x4:=j3.front (.tl _ (.hd _))
       have x5:=x4.front (.tl _ (.hd _))
       have x6:=x5.closeStar
       have x7:=x6.front (.tl _ (.hd _))
       have x8:((⟨p.table,p.year,p.code,p.prot,p.next,(a4.set (((k - 1)).toNat) ((⟨a1.code,a5⟩:Input))),p.posted,p.orders⟩:EmpS)).inputs.length≤((⟨p.table,p.year,p.code,p.prot,p.next,(a4.set (((k - 1)).toNat) ((⟨a1.code,a5⟩:Input))),p.posted,p.orders⟩:EmpS)).posted.slips.length:=by (try rw [← a2,clInput_eq]); (try rw [← a3,clElem_eq]); all_goals (try dsimp only); all_goals first | assumption | omega | (simp only [LA,LC,LN,LS]; omega) | (first | (intro i hi; cases hi) | (intro i hi; rcases LP.1 hi with hi | hi; exact ‹∀ i ∈ _,List.length (Input.elements i)≤32› i hi; (rw [LM.1 hi]; dsimp only; omega)) | (intro i hi; rcases List.mem_or_eq_of_mem_set hi with hi | hi; exact ‹∀ i ∈ _,List.length (Input.elements i)≤32› i hi; (rw [hi]; dsimp only; omega)))
       have x9:((⟨p.table,p.year,p.code,p.prot,p.next,(a4.set (((k - 1)).toNat) ((⟨a1.code,a5⟩:Input))),p.posted,p.orders⟩:EmpS)).inputs.length≤53:=by (try rw [← a2,clInput_eq]); (try rw [← a3,clElem_eq]); all_goals (try dsimp only); all_goals first | assumption | omega | (simp only [LA,LC,LN,LS]; omega) | (first | (intro i hi; cases hi) | (intro i hi; rcases LP.1 hi with hi | hi; exact ‹∀ i ∈ _,List.length (Input.elements i)≤32› i hi; (rw [LM.1 hi]; dsimp only; omega)) | (intro i hi; rcases List.mem_or_eq_of_mem_set hi with hi | hi; exact ‹∀ i ∈ _,List.length (Input.elements i)≤32› i hi; (rw [hi]; dsimp only; omega)))
       have y0:((⟨p.table,p.year,p.code,p.prot,p.next,(a4.set (((k - 1)).toNat) ((⟨a1.code,a5⟩:Input))),p.posted,p.orders⟩:EmpS)).next.length≤32:=by (try rw [← a2,clInput_eq]); (try rw [← a3,clElem_eq]); all_goals (try dsimp only); all_goals first | assumption | omega | (simp only [LA,LC,LN,LS]; omega) | (first | (intro i hi; cases hi) | (intro i hi; rcases LP.1 hi with hi | hi; exact ‹∀ i ∈ _,List.length (Input.elements i)≤32› i hi; (rw [LM.1 hi]; dsimp only; omega)) | (intro i hi; rcases List.mem_or_eq_of_mem_set hi with hi | hi; exact ‹∀ i ∈ _,List.length (Input.elements i)≤32› i hi; (rw [hi]; dsimp only; omega)))
       have y1:∀ i ∈ ((⟨p.table,p.year,p.code,p.prot,p.next,(a4.set (((k - 1)).toNat) ((⟨a1.code,a5⟩:Input))),p.posted,p.orders⟩:EmpS)).inputs,i.elements.length≤32:=by (try rw [← a2,clInput_eq]); (try rw [← a3,clElem_eq]); all_goals (try dsimp only); all_goals first | assumption | omega | (simp only [LA,LC,LN,LS]; omega) | (first | (intro i hi; cases hi) | (intro i hi; rcases LP.1 hi with hi | hi; exact ‹∀ i ∈ _,List.length (Input.elements i)≤32› i hi; (rw [LM.1 hi]; dsimp only; omega)) | (intro i hi; rcases List.mem_or_eq_of_mem_set hi with hi | hi; exact ‹∀ i ∈ _,List.length (Input.elements i)≤32› i hi; (rw [hi]; dsimp only; omega)))
       have y2:=x7.closeObj (ty:=(empTy p_posted p_orders)) (x:=(⟨p.table,p.year,p.code,p.prot,p.next,(a4.set (((k - 1)).toNat) ((⟨a1.code,a5⟩:Input))),p.posted,p.orders⟩:EmpS)) ⟨_,_,_,_,_,_,rfl,(i9.mono c5),(j0.mono c5),(j1.mono c5),⟨_,_,rfl,(x1.mono c5),rfl⟩,(j2.mono c5),(f6.mono (w5.t c5)),x8,x9,y0,y1⟩
       have y3:=y2.closeStar
       have g3:Inv (empR p_r p_posted p_orders p).fp d w d1 (empR p_r p_posted p_orders ((⟨p.table,p.year,p.code,p.prot,p.next,(a4.set (((k - 1)).toNat) ((⟨a1.code,a5⟩:Input))),p.posted,p.orders⟩:EmpS)) :: _) x3:=y3
       have y4:eReplace p k list=((⟨p.table,p.year,p.code,p.prot,p.next,(a4.set (((k - 1)).toNat) ((⟨a1.code,a5⟩:Input))),p.posted,p.orders⟩:EmpS),0):=ET (IN a8) (ET (IN a9) (ET (BE c6) (ET (IN b0) (ET (BE c7) (ET (IN b1) (ET (BE a2) (ET (BE a3) (ET (opt_some c9) (ET (BE i7) (ET (IN b8) (rfl)))))))))))
       refine x_ret ⟨_,_,rfl,rfl,rfl⟩ (⟨_,_,rfl,g3.fr,g3.grow,by rw [y4]; exact ⟨rfl,g3.turned m0⟩⟩)
def eCode (p:EmpS) (c:Code):EmpS × Int:=
 (bnd (eOpen p) fun a0=>
 (if (a0≠0) then (p,a0)
 else (bnd (tFits p.table c) fun a1=>
 (if (a1≠0) then (p,a1)
 else ((⟨p.table,p.year,c,p.prot,p.next,p.inputs,p.posted,p.orders⟩:EmpS),0)))))
theorem eCode_c {p:EmpS} {p_r:Nat} {p_posted:Nat} {p_orders:Nat} {c:Code} {d:Dat} {w:World} (hd:∀ b,d b→b < w.heap.size) (h_p:(empR p_r p_posted p_orders p).ok d w) (hn_p:∀ q0 ∈ (empR p_r p_posted p_orders p).fp,¬ d q0):Ret Tryz.prog 69 [.pointer (some ⟨p_r,0,none⟩),.agg #[.int .i64 c.scheme,.int .i64 c.kind,.int .i64 c.amount,.int .i64 c.flat,.bool c.alone]] w (empR p_r p_posted p_orders p).fp d (fun u d' w'=>u=.int .i64 ((eCode p c).2)∧Turn (empR p_r p_posted p_orders p) (empR p_r p_posted p_orders ((eCode p c).1)) d' w w'):=by
 refine ret_enter (n:=25) Tryz.func69 Z Z (ble Z) ?_
 have hI0:=Inv.startM hd h_p hn_p
 refine csr ((g_e (ev_box hI0 Z) Z Z ?_))
 rintro _ w1 ⟨b4,rfl,hI2,hle3⟩
 refine GA Y (gnx ((c_seq (csr ((GM Y ?_))))))
 have b8:=eOpen_c (p:=p) (p_r:=p_r) (p_posted:=p_posted) (p_orders:=p_orders) hI2.lt (hI2.ok _ m1)
 obtain ⟨c4,a6⟩:∃ r,eOpen p=r:=⟨_,rfl⟩
 rw [a6] at b8
 refine g_e (ev_pure hI2 pf_107 Z b8) Z Z ?_
 rintro _ c5 ⟨c6,a7,g6,rfl⟩
 refine GA Y (gnx ((csr ((GM Y (g_y (y_neq Z Z) Z Z (gnx ((c_cond Z (fun a2=>?_) (fun a2=>?_))))))))))
 ·replace a2:=OT a2
  refine csr ((GM Y (GA Y (gnx ((c_ret ?_))))))
  have c7:eCode p c=(p,c4):=ET (BE a6) (ET (IP a2) (rfl))
  refine x_thenR (x_ret ⟨_,_,rfl,rfl,rfl⟩ ?_)
  exact ⟨_,_,rfl,a7.fr,a7.grow,by rw [c7]; exact ⟨rfl,a7.turned m1⟩⟩
 ·replace a2:=OF a2
  refine c_skip (x_next (c_seq (c_seq ?_)))
  have c8:=a7.front (.tl _ (.hd _))
  obtain ⟨g7,c9,d0⟩:=c8.openStar.openObj
  have b9:=(c9.front (.tl _ (.hd _))).openStar
  have g8:=yearR_inv (b9.ok _ m0)
  obtain ⟨g9,h0,h1,h2,h3,h4,rfl,a8,a9,b0,d1,b1,b2,h5,h6,h7,h8⟩:=d0
  obtain ⟨d2,d3,rfl,h9,i0⟩:=a8.fm
  obtain ⟨d4,d5,rfl,i1,i2⟩:=a9.fm
  obtain ⟨d6,d7,rfl,i3,i4⟩:=b0.fm
  obtain ⟨i5,i6,rfl,c0,d8⟩:=d1
  obtain rfl:=d8
  obtain ⟨i7,i8,rfl,i9,j0⟩:=b1.fm
  obtain ⟨j1,j2,rfl,j3,j4⟩:=b2.fm
  have b3:=b9.drew; have a0:=Le.drew c6 c5
  refine c_drawK 6 follows_mixed b3 (k_y 0 (by kernel_rfl) Z Z Z (fun _ _=>(y_move Z)) (k_y 1 (by kernel_rfl) Z Z Z (fun _ _=>(y_nilCheck Z)) (k_y 2 (by kernel_rfl) Z Z Z (fun _ _=>(y_fieldAddr fo_214_0 Z)) (k_y 3 (by kernel_rfl) Z Z Z (fun j5 ⟨j6,d9,j7⟩=>(y_loadA (cs:=[.slice d2 (p.table.schemes).length d3,.slice d4 (p.table.contribs).length d5,.slice d6 (p.table.kinds).length d7,.int .i64 p.table.limit,.int .i64 p.table.round]) sh_26 Z ((blk_cells d9 m2).part (f:=0) (.take _ (.take _ (.take _ (.take _ (.take _ (.nil _))))))))) (k_y 4 (by kernel_rfl) Z Z Z (fun j8 ⟨j9,e0,k0⟩=>(y_loadA (cs:=[.int .i64 c.scheme,.int .i64 c.kind,.int .i64 c.amount,.int .i64 c.flat,.bool c.alone]) sh_28 Z ((blk_cells e0 m3).part (f:=0) (.take _ (.take _ (.take _ (.take _ (.take _ (.nil _))))))))) (k_all (is:=[5]) (by kernel_rfl) (by simp) (.cons ?_ .nil)))))))
  have c1:=tFits_c (t:=p.table) (c:=c) b3.lt (show tableTy.rel _ _ p.table _ from ⟨_,_,_,rfl,(a8.mono a0),(a9.mono a0),(b0.mono a0)⟩)
  obtain ⟨e1,b5⟩:∃ r,tFits p.table c=r:=⟨_,rfl⟩
  rw [b5] at c1
  refine k_op Z Z Z (ev_pure b3 pf_59 Z c1) ?_
  rintro _ e2 ⟨c2,a5,a1,rfl⟩
  refine k_next a5 a1 (k_all (is:=[6]) (by kernel_rfl) (by simp) (.cons ?_ .nil))
  refine k_op Z Z Z (Ev.of_y2 (y_assign Z)) ?_
  rintro _ _ ⟨rfl,rfl⟩
  refine k_bar (b_done (by kernel_rfl) (x_draw ?_) (by kernel_rfl))
  refine x_next (csr ((GM Y (g_y (y_neq Z Z) Z Z (gnx ((c_cond Z (fun a3=>?_) (fun a3=>?_))))))))
  ·replace a3:=OT a3
   refine csr ((GM Y (GA Y (gnx ((c_ret ?_))))))
   have k1:=yearR_inv (a5.ok _ m0)
   have e3:=a5.front (.tl _ (.hd _))
   have e4:=e3.front (.tl _ (.hd _))
   have e5:=e4.closeStar
   have e6:=e5.front (.tl _ (.hd _))
   have e7:p.inputs.length≤p.posted.slips.length:=by (try dsimp only); first | assumption | omega | (simp only [LA,LC,LN,LS]; omega) | (first | (intro i hi; cases hi) | (intro i hi; rcases LP.1 hi with hi | hi; exact ‹∀ i ∈ _,List.length (Input.elements i)≤32› i hi; (rw [LM.1 hi]; dsimp only; omega)) | (intro i hi; rcases List.mem_or_eq_of_mem_set hi with hi | hi; exact ‹∀ i ∈ _,List.length (Input.elements i)≤32› i hi; (rw [hi]; dsimp only; omega)))
   have e8:p.inputs.length≤53:=by (try dsimp only); first | assumption | omega | (simp only [LA,LC,LN,LS]; omega) | (first | (intro i hi; cases hi) | (intro i hi; rcases LP.1 hi with hi | hi; exact ‹∀ i ∈ _,List.length (Input.elements i)≤32› i hi; (rw [LM.1 hi]; dsimp only; omega)) | (intro i hi; rcases List.mem_or_eq_of_mem_set hi with hi | hi; exact ‹∀ i ∈ _,List.length (Input.elements i)≤32› i hi; (rw [hi]; dsimp only; omega)))
   have e9:p.next.length≤32:=by (try dsimp only); first | assumption | omega | (simp only [LA,LC,LN,LS]; omega) | (first | (intro i hi; cases hi) | (intro i hi; rcases LP.1 hi with hi | hi; exact ‹∀ i ∈ _,List.length (Input.elements i)≤32› i hi; (rw [LM.1 hi]; dsimp only; omega)) | (intro i hi; rcases List.mem_or_eq_of_mem_set hi with hi | hi; exact ‹∀ i ∈ _,List.length (Input.elements i)≤32› i hi; (rw [hi]; dsimp only; omega)))
   have f0:∀ i ∈ p.inputs,i.elements.length≤32:=by (try dsimp only); first | assumption | omega | (simp only [LA,LC,LN,LS]; omega) | (first | (intro i hi; cases hi) | (intro i hi; rcases LP.1 hi with hi | hi; exact ‹∀ i ∈ _,List.length (Input.elements i)≤32› i hi; (rw [LM.1 hi]; dsimp only; omega)) | (intro i hi; rcases List.mem_or_eq_of_mem_set hi with hi | hi; exact ‹∀ i ∈ _,List.length (Input.elements i)≤32› i hi; (rw [hi]; dsimp only; omega)))
   have f1:=e6.closeObj (ty:=(empTy p_posted p_orders)) (x:=p) ⟨_,_,_,_,_,_,rfl,(a8.mono (a0.t a1)),(a9.mono (a0.t a1)),(b0.mono (a0.t a1)),⟨_,_,rfl,(c0.mono (a0.t a1)),rfl⟩,(b1.mono (a0.t a1)),(b2.mono (a0.t a1)),e7,e8,e9,f0⟩
   have f2:=f1.closeStar
   have b6:Inv (empR p_r p_posted p_orders p).fp d w c2 (empR p_r p_posted p_orders p :: _) e2:=f2
   have f3:eCode p c=(p,e1):=ET (BE a6) (ET (IN a2) (ET (BE b5) (ET (IP a3) (rfl))))
   refine x_thenR (x_ret ⟨_,_,rfl,rfl,rfl⟩ ?_)
   exact ⟨_,_,rfl,b6.fr,b6.grow,by rw [f3]; exact ⟨rfl,b6.turned m0⟩⟩
  ·replace a3:=OF a3
   refine c_skip (x_next (csr ((GM Y (g_y (y_loadA (cs:=[.int .i64 c.scheme,.int .i64 c.kind,.int .i64 c.amount,.int .i64 c.flat,.bool c.alone]) sh_28 Z ((blk_cells a5 m3).part (f:=0) (.take _ (.take _ (.take _ (.take _ (.take _ (.nil _)))))))) Z Z (g_y (y_nilCheck Z) Z Z (gfa fo_214_2 Z Z Z (g_e (ev_store a5 Z Z Z sz_28 Z (.next _ (.next _ (.next _ (.next _ (.next _ (.next _ (.here _ _ (.here _ _ (.here _ _ (.here _ _ (.here _ _ (.nil _)))))))))))) (.tl _ (.tl _ (.hd _)))) Z Z ?_))))))))
   rintro _ f4 ⟨c3,a4⟩
   refine gnx ((csr ((GA Y (gnx ((c_ret ?_)))))))
   have k2:=yearR_inv (c3.ok _ m0)
   have f5:=c3.front (.tl _ (.hd _))
   have f6:=f5.front (.tl _ (.hd _))
   have f7:=f6.closeStar
   have f8:=f7.front (.tl _ (.hd _))
   have f9:((⟨p.table,p.year,c,p.prot,p.next,p.inputs,p.posted,p.orders⟩:EmpS)).inputs.length≤((⟨p.table,p.year,c,p.prot,p.next,p.inputs,p.posted,p.orders⟩:EmpS)).posted.slips.length:=by (try dsimp only); first | assumption | omega | (simp only [LA,LC,LN,LS]; omega) | (first | (intro i hi; cases hi) | (intro i hi; rcases LP.1 hi with hi | hi; exact ‹∀ i ∈ _,List.length (Input.elements i)≤32› i hi; (rw [LM.1 hi]; dsimp only; omega)) | (intro i hi; rcases List.mem_or_eq_of_mem_set hi with hi | hi; exact ‹∀ i ∈ _,List.length (Input.elements i)≤32› i hi; (rw [hi]; dsimp only; omega)))
   have g0:((⟨p.table,p.year,c,p.prot,p.next,p.inputs,p.posted,p.orders⟩:EmpS)).inputs.length≤53:=by (try dsimp only); first | assumption | omega | (simp only [LA,LC,LN,LS]; omega) | (first | (intro i hi; cases hi) | (intro i hi; rcases LP.1 hi with hi | hi; exact ‹∀ i ∈ _,List.length (Input.elements i)≤32› i hi; (rw [LM.1 hi]; dsimp only; omega)) | (intro i hi; rcases List.mem_or_eq_of_mem_set hi with hi | hi; exact ‹∀ i ∈ _,List.length (Input.elements i)≤32› i hi; (rw [hi]; dsimp only; omega)))
   have g1:((⟨p.table,p.year,c,p.prot,p.next,p.inputs,p.posted,p.orders⟩:EmpS)).next.length≤32:=by (try dsimp only); first | assumption | omega | (simp only [LA,LC,LN,LS]; omega) | (first | (intro i hi; cases hi) | (intro i hi; rcases LP.1 hi with hi | hi; exact ‹∀ i ∈ _,List.length (Input.elements i)≤32› i hi; (rw [LM.1 hi]; dsimp only; omega)) | (intro i hi; rcases List.mem_or_eq_of_mem_set hi with hi | hi; exact ‹∀ i ∈ _,List.length (Input.elements i)≤32› i hi; (rw [hi]; dsimp only; omega)))
   have g2:∀ i ∈ ((⟨p.table,p.year,c,p.prot,p.next,p.inputs,p.posted,p.orders⟩:EmpS)).inputs,i.elements.length≤32:=by (try dsimp only); first | assumption | omega | (simp only [LA,LC,LN,LS]; omega) | (first | (intro i hi; cases hi) | (intro i hi; rcases LP.1 hi with hi | hi; exact ‹∀ i ∈ _,List.length (Input.elements i)≤32› i hi; (rw [LM.1 hi]; dsimp only; omega)) | (intro i hi; rcases List.mem_or_eq_of_mem_set hi with hi | hi; exact ‹∀ i ∈ _,List.length (Input.elements i)≤32› i hi; (rw [hi]; dsimp only; omega)))
   have g3:=f8.closeObj (ty:=(empTy p_posted p_orders)) (x:=(⟨p.table,p.year,c,p.prot,p.next,p.inputs,p.posted,p.orders⟩:EmpS)) ⟨_,_,_,_,_,_,rfl,(a8.mono ((a0.t a1).t a4)),(a9.mono ((a0.t a1).t a4)),(b0.mono ((a0.t a1).t a4)),⟨_,_,rfl,(c0.mono ((a0.t a1).t a4)),rfl⟩,(b1.mono ((a0.t a1).t a4)),(b2.mono ((a0.t a1).t a4)),f9,g0,g1,g2⟩
   have g4:=g3.closeStar
   have b7:Inv (empR p_r p_posted p_orders p).fp d w c2 (empR p_r p_posted p_orders ((⟨p.table,p.year,c,p.prot,p.next,p.inputs,p.posted,p.orders⟩:EmpS)) :: _) f4:=g4
   have g5:eCode p c=((⟨p.table,p.year,c,p.prot,p.next,p.inputs,p.posted,p.orders⟩:EmpS),0):=ET (BE a6) (ET (IN a2) (ET (BE b5) (ET (IN a3) (rfl))))
   refine x_ret ⟨_,_,rfl,rfl,rfl⟩ (⟨_,_,rfl,b7.fr,b7.grow,by rw [g5]; exact ⟨rfl,b7.turned m0⟩⟩)
def growNil (n:Int):(List Elem):=
 (if (n < 0) then default
 else (if (0 < (n - 0)) then (((List.replicate (((n - 0)).toNat) (⟨(⟨#[]⟩:ByteArray),0,0⟩:Elem))).take 0)
 else ([]:List Elem)))
theorem growNil_c {n:Int} {d:Dat} {w:World} (hd:∀ b,d b→b < w.heap.size) (hn0:0≤n) (hn1:n≤137438953472):Ret Tryz.prog 188 [.slice none 0 0,.int .i64 n] w [] d (fun u d' w'=>Fresh (row elemTy 40 u (growNil n)) d' w w'):=by
 refine ret_enter (n:=27) Tryz.func188 Z Z (ble Z) ?_
 have hI0:=Inv.start hd
 refine csr ((GA Y (gnx ((c_seq (csr ((GM Y (g_y (y_lss Z Z) Z Z (gnx ((c_cond Z (fun hc1=>?_) (fun hc1=>?_)))))))))))))
 ·replace hc1:=OT hc1
  exfalso; omega
 ·replace hc1:=OF hc1
  refine c_skip (x_next (c_seq (csr ((GM Y (GM Y (g_y (y_capNil (by rw [el_43]; rfl) Z) Z Z (GM Y (gln el_43 Z Z Z (g_y (y_sub Z Z (by omega)) Z Z (g_y (y_sub Z Z (by omega)) Z Z (GA Y (g_nil ?_)))))))))))))
  refine x_next (csr ((GM Y (g_y (y_gtr Z Z) Z Z (gnx ((c_cond Z (fun hc2=>?_) (fun hc2=>?_))))))))
  ·replace hc2:=OT hc2
   refine c_region (GM Y (GM Y (g_y (y_capNil (by rw [el_43]; rfl) Z) Z Z (g_y (y_slice_to (i:=0) el_43 Z Z Z (Nat.zero_le _)) Z Z (GM Y (g_e (ev_appendZ (T:=elemTy) (z:=(⟨(⟨#[]⟩:ByteArray),0,0⟩:Elem)) (m:=((n - 0)).toNat) hI0 ei_43 ze_40 Tryz.underlying3 Z Z ((Int.toNat_of_nonneg (by omega)).symm) (by omega) (by unfold big; omega) (ble Z) Z) Z Z ?_))))))
   rintro _ w3 ⟨A6,c7,rfl,hI4,hle5⟩
   have hl8:(List.replicate (((n - 0)).toNat) (⟨(⟨#[]⟩:ByteArray),0,0⟩:Elem)).length=((n - 0)).toNat:=by simp
   refine GM Y (gln el_43 Z Z Z ?_)
   have hl9:(((List.replicate (((n - 0)).toNat) (⟨(⟨#[]⟩:ByteArray),0,0⟩:Elem))).take 0).length=0:=by rw [List.length_take]; omega
   have a4:=row_cap (hI4.ok _ m0)
   have a0:=hI4.rowTake (i:=0) (by omega) (.hd _)
   refine g_y (y_slice_toL (i:=0) el_43 Z Z (rfl) (by omega) hl9) Z Z (GA Y (gnx ((csr ((GM Y (GA Y (gnx ((c_ret ?_))))))))))
   have a2:growNil n=(((List.replicate (((n - 0)).toNat) (⟨(⟨#[]⟩:ByteArray),0,0⟩:Elem))).take 0):=ET (IN hc1) (ET (IP hc2) (rfl))
   refine x_ret ⟨_,_,rfl,rfl,rfl⟩ (⟨_,_,rfl,a0.fr,a0.grow,by rw [a2]; exact a0.fresh m0⟩)
  ·replace hc2:=OF hc2
   refine c_skip (x_next (csr ((GM Y (GA Y (gnx ((c_ret ?_))))))))
   have a1:=nil_row elemTy 40 hI0
   have a3:growNil n=([]:List Elem):=ET (IN hc1) (ET (IN hc2) (rfl))
   refine x_ret ⟨_,_,rfl,rfl,rfl⟩ (⟨_,_,rfl,a1.fr,a1.grow,by rw [a3]; exact a1.fresh m0⟩)
theorem growNil_eq {n:Int}:growNil n=[]:=by
 unfold growNil
 split
 ·rfl
 ·split
  ·simp
  ·rfl
def concatElem (ls0:(List Elem)) (ls1:(List Elem)):(List Elem):=
 (if ((0 + (ls0.length:Int)) < 0) then default
 else (if (((0 + (ls0.length:Int)) + (ls1.length:Int)) < 0) then default
 else (bnd (growNil (((0 + (ls0.length:Int)) + (ls1.length:Int)))) fun a0=>
 ((a0 ++ ls0) ++ ls1))))
theorem concatElem_c {ls0:(List Elem)} {ls1:(List Elem)} {v_ls:Value} {d:Dat} {w:World} (hd:∀ b,d b→b < w.heap.size) (h_ls:Sl (Ty.slice elemTy) d w v_ls [ls0,ls1]) (hn0:ls0.length≤1048576) (hn1:ls1.length≤1048576):Ret Tryz.prog 108 [v_ls] w [] d (fun u d' w'=>∃ (v0:Value),u=v0∧Sl elemTy d' w' v0 (concatElem ls0 ls1)):=by
 obtain ⟨A3,c4,rfl,hn1,hb2⟩:=h_ls.fm
 have hl_ls:[ls0,ls1].length=2:=rfl
 refine ret_enter (n:=36) Tryz.func108 Z Z (ble Z) ?_
 have hI0:=Inv.start hd
 refine csr ((GA Y (gnx ((csr ((GA Y (gnx ((c_seq (csr ((GM Y ?_)))))))))))))
 refine gln el_29 Z Z Z (GM Y (gnx ((c_block (c_loop_n 2 (csr ((g_y (y_lss Z Z) Z Z (gnx ((c_seq (c_condT Z (c_skip ?_)))))))))))))
 refine x_next (c_seq (c_block (csr (?_))))
 obtain ⟨d3,d4,d5,b0,b1,b2,d6⟩:=Sl.at_ h_ls (show ([ls0,ls1])[0]?=some ls0 from rfl)
 obtain ⟨d7,rfl,b3⟩:=b1
 obtain ⟨d8,d9,rfl,e0,e1⟩:=b3.fm
 refine g_y (y_indexAddr (i:=0) el_29 Z b0 Z (rfl) (by omega)) Z Z (g_y (y_load1 sh_43 Z (b2.nth_ (i:=0) Z)) Z Z (GA Y (gnx ((csr ((GM Y (GM Y (gln el_43 Z Z Z (g_y (y_add Z Z (by omega)) Z Z (GA Y (gnx (?_)))))))))))))
 refine csr ((GM Y (g_y (y_lss Z Z) Z Z (gnx ((c_cond Z (fun a0=>?_) (fun a0=>?_)))))))
 ·replace a0:=OT a0
  exfalso; omega
 ·replace a0:=OF a0
  refine c_skip (x_blockN (x_next ?_))
  refine c_region (g_y (y_add Z Z (by omega)) Z Z (GM Y (g_nil (x_again (csr ((g_y (y_lss Z Z) Z Z (gnx ((c_seq (c_condT Z (c_skip (x_next ?_)))))))))))))
  refine c_seq (c_block (csr (?_)))
  obtain ⟨e2,e3,e4,b4,b5,b6,e5⟩:=Sl.at_ h_ls (show ([ls0,ls1])[1]?=some ls1 from rfl)
  obtain ⟨e6,rfl,b7⟩:=b5
  obtain ⟨e7,e8,rfl,e9,f0⟩:=b7.fm
  refine g_y (y_indexAddr (i:=1) el_29 Z b4 Z (rfl) (by omega)) Z Z (g_y (y_load1 sh_43 Z (b6.nth_ (i:=0) Z)) Z Z (GA Y (gnx ((csr ((GM Y (GM Y (gln el_43 Z Z Z (g_y (y_add Z Z (by omega)) Z Z (GA Y (gnx (?_)))))))))))))
  refine csr ((GM Y (g_y (y_lss Z Z) Z Z (gnx ((c_cond Z (fun a1=>?_) (fun a1=>?_)))))))
  ·replace a1:=OT a1
   exfalso; omega
  ·replace a1:=OF a1
   refine c_skip (x_blockN (x_next ?_))
   refine c_region (g_y (y_add Z Z (by omega)) Z Z (GM Y (g_nil (x_again (csr ((g_y (y_lss Z Z) Z Z (gnx ((c_seq (c_condF Z (c_exit (x_thenE (x_thenE (x_blockE (x_next ?_))))))))))))))))
   refine csr ((GM Y ?_))
   have a3:=growNil_c (n:=((0 + (ls0.length:Int)) + (ls1.length:Int))) hI0.lt (by first | omega | (simp only [LA,LC,LN]; omega)) (by first | omega | (simp only [LA,LC,LN]; omega))
   obtain ⟨a4,a2⟩:∃ r,growNil (((0 + (ls0.length:Int)) + (ls1.length:Int)))=r:=⟨_,rfl⟩
   rw [a2] at a3
   have h8r148:a4.length=0:=by rw [← a2,growNil_eq]; rfl
   refine g_e (ev_row hI0 pf_188 Z a3) Z Z ?_
   rintro _ f1 ⟨f2,f3,f4,rfl,a5,a6⟩
   have b8:=row_len (a5.ok _ m0); unfold big at b8
   refine GA Y (gnx ((c_seq (csr ((GM Y (gln el_29 Z Z Z (GM Y (gnx ((c_block (c_loop_n 2 (c_seq ?_)))))))))))))
   refine c_region (g_y (y_lss Z Z) Z Z (gnx ((c_seq (c_condT Z (c_skip (x_next (c_seq (c_block (csr (?_)))))))))))
   obtain ⟨f5,f6,f7,b9,c0,c1,f8⟩:=Sl.at_ (h_ls.mono a6) (show ([ls0,ls1])[0]?=some ls0 from rfl)
   obtain ⟨f9,rfl,a7⟩:=c0
   obtain ⟨g0,g1,rfl,g2,g3⟩:=a7.fm
   refine g_y (y_indexAddr (i:=0) el_29 Z b9 Z (rfl) (by omega)) Z Z (g_y (y_load1 sh_43 Z (c1.nth_ (i:=0) Z)) Z Z (GA Y (gnx ((c_region (GM Y (GM Y (g_e (ev_append a5 ei_43 Z Z m0 a7 (by simp only [LA,LC,LN,big] at *; omega) (by simp only [LA,LC,LN,big] at *; omega)) Z Z ?_))))))))
   rintro _ g4 ⟨c2,c3,g5,g6,rfl⟩
   have c5:=c2 _ (.hd _)
   refine GA Y (g_nil (x_blockN (x_next ?_)))
   refine c_region (g_y (y_add Z Z (by omega)) Z Z (GM Y (g_nil (x_again (csr ((g_y (y_lss Z Z) Z Z (gnx ((c_seq (c_condT Z (c_skip (x_next ?_)))))))))))))
   refine c_seq (c_block (csr (?_)))
   obtain ⟨g7,g8,g9,c6,c7,c8,h0⟩:=Sl.at_ (h_ls.mono (a6.t c3)) (show ([ls0,ls1])[1]?=some ls1 from rfl)
   obtain ⟨h1,rfl,a8⟩:=c7
   obtain ⟨h2,h3,rfl,h4,h5⟩:=a8.fm
   refine g_y (y_indexAddr (i:=1) el_29 Z c6 Z (rfl) (by omega)) Z Z (g_y (y_load1 sh_43 Z (c8.nth_ (i:=0) Z)) Z Z (GA Y (gnx ((c_region (GM Y (GM Y (g_e (ev_append c5 ei_43 Z Z m0 a8 (by simp only [LA,LC,LN,big] at *; omega) (by simp only [LA,LC,LN,big] at *; omega)) Z Z ?_))))))))
   rintro _ h6 ⟨c9,h7,h8,h9,rfl⟩
   have d0:=c9 _ (.hd _)
   refine GA Y (g_nil (x_blockN (x_next ?_)))
   refine c_region (g_y (y_add Z Z (by omega)) Z Z (GM Y (g_nil (x_again (csr ((g_y (y_lss Z Z) Z Z (gnx ((c_seq (c_condF Z (c_exit (x_thenE (x_thenE (x_blockE (x_next ?_))))))))))))))))
   refine csr ((GM Y (GA Y (gnx ((c_ret ?_))))))
   obtain ⟨i0,a9,i1,d1⟩:=pub_row d0 (.hd _) (by simp)
   have d2:concatElem ls0 ls1=((a4 ++ ls0) ++ ls1):=ET (IN a0) (ET (IN a1) (ET (BE a2) (rfl)))
   refine x_ret ⟨_,_,rfl,rfl,rfl⟩ (⟨_,_,rfl,a9.fr,a9.grow,by rw [d2]; exact ⟨_,rfl,d1⟩⟩)
def ePay (p:EmpS) (list:(List Elem)):EmpS × Int:=
 (bnd (eOpen p) fun a0=>
 (if (a0≠0) then (p,a0)
 else (bnd (concatElem p.next list) fun a1=>
 (bnd (eCheckAll p.table a1) fun a2=>
 (if (a2≠0) then (p,a2)
 else ((⟨p.table,p.year,p.code,p.prot,a1,p.inputs,p.posted,p.orders⟩:EmpS),0))))))
theorem ePay_c {p:EmpS} {p_r:Nat} {p_posted:Nat} {p_orders:Nat} {list:(List Elem)} {v_list:Value} {d:Dat} {w:World} (hd:∀ b,d b→b < w.heap.size) (h_p:(empR p_r p_posted p_orders p).ok d w) (hn_p:∀ q0 ∈ (empR p_r p_posted p_orders p).fp,¬ d q0) (h_list:Sl elemTy d w v_list list) (hn1:list.length≤1048576):Ret Tryz.prog 23 [.pointer (some ⟨p_r,0,none⟩),v_list] w (empR p_r p_posted p_orders p).fp d (fun u d' w'=>u=.int .i64 ((ePay p list).2)∧Turn (empR p_r p_posted p_orders p) (empR p_r p_posted p_orders ((ePay p list).1)) d' w w'):=by
 obtain ⟨A1,c2,rfl,hn3,hb4⟩:=h_list.fm
 refine ret_enter (n:=33) Tryz.func23 Z Z (ble Z) ?_
 have hI0:=Inv.startM hd h_p hn_p
 refine csr ((GA Y (gnx ((c_seq (csr ((GM Y ?_))))))))
 have c3:=eOpen_c (p:=p) (p_r:=p_r) (p_posted:=p_posted) (p_orders:=p_orders) hI0.lt (hI0.ok _ m0)
 obtain ⟨d7,a7⟩:∃ r,eOpen p=r:=⟨_,rfl⟩
 rw [a7] at c3
 refine g_e (ev_pure hI0 pf_107 Z c3) Z Z ?_
 rintro _ j5 ⟨j6,a8,d8,rfl⟩
 refine GA Y (gnx ((csr ((GM Y (g_y (y_neq Z Z) Z Z (gnx ((c_cond Z (fun a2=>?_) (fun a2=>?_))))))))))
 ·replace a2:=OT a2
  refine csr ((GM Y (GA Y (gnx ((c_ret ?_))))))
  have d9:ePay p list=(p,d7):=ET (BE a7) (ET (IP a2) (rfl))
  refine x_thenR (x_ret ⟨_,_,rfl,rfl,rfl⟩ ?_)
  exact ⟨_,_,rfl,a8.fr,a8.grow,by rw [d9]; exact ⟨rfl,a8.turned m0⟩⟩
 ·replace a2:=OF a2
  refine c_skip (x_next (csr ((GM Y (g_y (y_nilCheck Z) Z Z (gfa fo_214_4 Z Z Z ?_))))))
  obtain ⟨j7,e0,e1⟩:=a8.openStar.openObj
  have b4:=(e0.front (.tl _ (.hd _))).openStar
  have j8:=yearR_inv (b4.ok _ m0)
  obtain ⟨j9,k0,k1,k2,k3,k4,rfl,c4,c5,c6,e2,b5,c7,k5,k6,k7,k8⟩:=e1
  obtain ⟨k9,l0,rfl,l1,l2⟩:=c4.fm
  obtain ⟨l3,l4,rfl,l5,l6⟩:=c5.fm
  obtain ⟨l7,l8,rfl,l9,m6⟩:=c6.fm
  obtain ⟨m7,m8,rfl,e3,e4⟩:=e2
  obtain rfl:=e4
  obtain ⟨e5,e6,rfl,m9,n0⟩:=b5.fm
  obtain ⟨n1,n2,rfl,n3,n4⟩:=c7.fm
  refine gld sh_43 Z b4 m2 (i:=12) Z Z Z (GM Y (g_e (ev_buildSl (T:=(Ty.slice elemTy)) (xs:=[p.next,list]) b4 el_29 ze_43 Z Z (ble Z) (ble Z) (.cons Z Z Z Z (.here _ _ (.nil _)) (ble Z) (.cons Z Z Z Z (.next _ (.here _ _ (.nil _))) (ble Z) (.nil _))) (.cons (x:=p.next) (cs:=[.slice e5 (p.next).length e6]) ⟨_,rfl,b5⟩ (.cons (x:=list) (cs:=[.slice A1 (list).length c2]) ⟨_,rfl,(h_list.mono d8)⟩ .nil))) Z Z ?_))
  rintro _ n5 ⟨n6,c8,a4,e7,n7,rfl⟩
  have c9:=concatElem_c (ls0:=p.next) (ls1:=list) c8.lt e7 (by first | omega | (simp only [LA,LC,LN]; omega)) (by first | omega | (simp only [LA,LC,LN]; omega))
  obtain ⟨a1,b6⟩:∃ r,concatElem p.next list=r:=⟨_,rfl⟩
  rw [b6] at c9
  refine g_e (ev_pure c8 pf_108 Z c9) Z Z ?_
  rintro _ e8 ⟨e9,d0,a5,⟨n8,rfl,b7⟩⟩
  obtain ⟨n9,o0,rfl,o1,o2⟩:=b7.fm
  refine GA Y (gnx (?_))
  have o3:=yearR_inv (d0.ok _ m0)
  have f0:=d0.front (.tl _ (.hd _))
  have f1:=f0.front (.tl _ (.hd _))
  have f2:=f1.closeStar
  have f3:=f2.front (.tl _ (.hd _))
  have f4:p.inputs.length≤p.posted.slips.length:=by (try dsimp only); first | assumption | omega | (simp only [LA,LC,LN,LS]; omega) | (first | (intro i hi; cases hi) | (intro i hi; rcases LP.1 hi with hi | hi; exact ‹∀ i ∈ _,List.length (Input.elements i)≤32› i hi; (rw [LM.1 hi]; dsimp only; omega)) | (intro i hi; rcases List.mem_or_eq_of_mem_set hi with hi | hi; exact ‹∀ i ∈ _,List.length (Input.elements i)≤32› i hi; (rw [hi]; dsimp only; omega)))
  have f5:p.inputs.length≤53:=by (try dsimp only); first | assumption | omega | (simp only [LA,LC,LN,LS]; omega) | (first | (intro i hi; cases hi) | (intro i hi; rcases LP.1 hi with hi | hi; exact ‹∀ i ∈ _,List.length (Input.elements i)≤32› i hi; (rw [LM.1 hi]; dsimp only; omega)) | (intro i hi; rcases List.mem_or_eq_of_mem_set hi with hi | hi; exact ‹∀ i ∈ _,List.length (Input.elements i)≤32› i hi; (rw [hi]; dsimp only; omega)))
  have f6:p.next.length≤32:=by (try dsimp only); first | assumption | omega | (simp only [LA,LC,LN,LS]; omega) | (first | (intro i hi; cases hi) | (intro i hi; rcases LP.1 hi with hi | hi; exact ‹∀ i ∈ _,List.length (Input.elements i)≤32› i hi; (rw [LM.1 hi]; dsimp only; omega)) | (intro i hi; rcases List.mem_or_eq_of_mem_set hi with hi | hi; exact ‹∀ i ∈ _,List.length (Input.elements i)≤32› i hi; (rw [hi]; dsimp only; omega)))
  have f7:∀ i ∈ p.inputs,i.elements.length≤32:=by (try dsimp only); first | assumption | omega | (simp only [LA,LC,LN,LS]; omega) | (first | (intro i hi; cases hi) | (intro i hi; rcases LP.1 hi with hi | hi; exact ‹∀ i ∈ _,List.length (Input.elements i)≤32› i hi; (rw [LM.1 hi]; dsimp only; omega)) | (intro i hi; rcases List.mem_or_eq_of_mem_set hi with hi | hi; exact ‹∀ i ∈ _,List.length (Input.elements i)≤32› i hi; (rw [hi]; dsimp only; omega)))
  have f8:=f3.closeObj (ty:=(empTy p_posted p_orders)) (x:=p) ⟨_,_,_,_,_,_,rfl,(c4.mono (a4.t a5)),(c5.mono (a4.t a5)),(c6.mono (a4.t a5)),⟨_,_,rfl,(e3.mono (a4.t a5)),rfl⟩,(b5.mono (a4.t a5)),(c7.mono (a4.t a5)),f4,f5,f6,f7⟩
  have f9:=f8.closeStar
  have g0:Inv (empR p_r p_posted p_orders p).fp d w e9 (empR p_r p_posted p_orders p :: _) e8:=f9
  refine c_seq (csr ((GM Y (g_y (y_nilCheck Z) Z Z (gfa fo_214_0 Z Z Z ?_)))))
  obtain ⟨o4,g1,g2⟩:=g0.openStar.openObj
  have a9:=(g1.front (.tl _ (.hd _))).openStar
  have o5:=yearR_inv (a9.ok _ m0)
  obtain ⟨o6,o7,o8,o9,p0,p1,rfl,b0,b1,b2,g3,d1,b8,p2,p3,p4,p5⟩:=g2
  obtain ⟨g4,g5,rfl,p6,p7⟩:=b0.fm
  obtain ⟨g6,g7,rfl,p8,p9⟩:=b1.fm
  obtain ⟨g8,g9,rfl,q1,q2⟩:=b2.fm
  obtain ⟨q3,q4,rfl,d2,h0⟩:=g3
  obtain rfl:=h0
  obtain ⟨q5,q6,rfl,q7,q8⟩:=d1.fm
  obtain ⟨q9,r0,rfl,r1,r2⟩:=b8.fm
  refine g_y (y_loadA (cs:=[.slice g4 (p.table.schemes).length g5,.slice g6 (p.table.contribs).length g7,.slice g8 (p.table.kinds).length g9,.int .i64 p.table.limit,.int .i64 p.table.round]) sh_26 Z ((blk_cells a9 m2).part (f:=0) (.take _ (.take _ (.take _ (.take _ (.take _ (.nil _)))))))) Z Z (GM Y ?_)
  have d3:=eCheckAll_c (t:=p.table) (list:=a1) a9.lt (show tableTy.rel _ _ p.table _ from ⟨_,_,_,rfl,b0,b1,b2⟩) b7
  obtain ⟨d4,b3⟩:∃ r,eCheckAll p.table a1=r:=⟨_,rfl⟩
  rw [b3] at d3
  have h8r209:d4≠0∨a1.length≤32:=by rw [← b3]; exact (Decidable.em (eCheckAll _ _=0)).symm.imp id eCheckAll_len
  refine g_e (ev_pure a9 pf_98 Z d3) Z Z ?_
  rintro _ h1 ⟨d5,b9,a0,rfl⟩
  refine GA Y (gnx ((csr ((GM Y (g_y (y_neq Z Z) Z Z (gnx ((c_cond Z (fun a3=>?_) (fun a3=>?_))))))))))
  ·replace a3:=OT a3
   refine csr ((GM Y (GA Y (gnx ((c_ret ?_))))))
   have r3:=yearR_inv (b9.ok _ m0)
   have h2:=b9.front (.tl _ (.hd _))
   have h3:=h2.front (.tl _ (.hd _))
   have h4:=h3.closeStar
   have h5:=h4.front (.tl _ (.hd _))
   have h6:p.inputs.length≤p.posted.slips.length:=by (try dsimp only); first | assumption | omega | (simp only [LA,LC,LN,LS]; omega) | (first | (intro i hi; cases hi) | (intro i hi; rcases LP.1 hi with hi | hi; exact ‹∀ i ∈ _,List.length (Input.elements i)≤32› i hi; (rw [LM.1 hi]; dsimp only; omega)) | (intro i hi; rcases List.mem_or_eq_of_mem_set hi with hi | hi; exact ‹∀ i ∈ _,List.length (Input.elements i)≤32› i hi; (rw [hi]; dsimp only; omega)))
   have h7:p.inputs.length≤53:=by (try dsimp only); first | assumption | omega | (simp only [LA,LC,LN,LS]; omega) | (first | (intro i hi; cases hi) | (intro i hi; rcases LP.1 hi with hi | hi; exact ‹∀ i ∈ _,List.length (Input.elements i)≤32› i hi; (rw [LM.1 hi]; dsimp only; omega)) | (intro i hi; rcases List.mem_or_eq_of_mem_set hi with hi | hi; exact ‹∀ i ∈ _,List.length (Input.elements i)≤32› i hi; (rw [hi]; dsimp only; omega)))
   have h8:p.next.length≤32:=by (try dsimp only); first | assumption | omega | (simp only [LA,LC,LN,LS]; omega) | (first | (intro i hi; cases hi) | (intro i hi; rcases LP.1 hi with hi | hi; exact ‹∀ i ∈ _,List.length (Input.elements i)≤32› i hi; (rw [LM.1 hi]; dsimp only; omega)) | (intro i hi; rcases List.mem_or_eq_of_mem_set hi with hi | hi; exact ‹∀ i ∈ _,List.length (Input.elements i)≤32› i hi; (rw [hi]; dsimp only; omega)))
   have h9:∀ i ∈ p.inputs,i.elements.length≤32:=by (try dsimp only); first | assumption | omega | (simp only [LA,LC,LN,LS]; omega) | (first | (intro i hi; cases hi) | (intro i hi; rcases LP.1 hi with hi | hi; exact ‹∀ i ∈ _,List.length (Input.elements i)≤32› i hi; (rw [LM.1 hi]; dsimp only; omega)) | (intro i hi; rcases List.mem_or_eq_of_mem_set hi with hi | hi; exact ‹∀ i ∈ _,List.length (Input.elements i)≤32› i hi; (rw [hi]; dsimp only; omega)))
   have i0:=h5.closeObj (ty:=(empTy p_posted p_orders)) (x:=p) ⟨_,_,_,_,_,_,rfl,(b0.mono a0),(b1.mono a0),(b2.mono a0),⟨_,_,rfl,(d2.mono a0),rfl⟩,(d1.mono a0),(b8.mono a0),h6,h7,h8,h9⟩
   have i1:=i0.closeStar
   have c0:Inv (empR p_r p_posted p_orders p).fp d w d5 (empR p_r p_posted p_orders p :: _) h1:=i1
   have i2:ePay p list=(p,d4):=ET (BE a7) (ET (IN a2) (ET (BE b6) (ET (BE b3) (ET (IP a3) (rfl)))))
   refine x_thenR (x_ret ⟨_,_,rfl,rfl,rfl⟩ ?_)
   exact ⟨_,_,rfl,c0.fr,c0.grow,by rw [i2]; exact ⟨rfl,c0.turned m0⟩⟩
  ·replace a3:=OF a3
   refine c_skip (x_next (csr ((GM Y (GM Y (g_y (y_nilCheck Z) Z Z (gfa fo_214_4 Z Z Z (g_e (ev_store b9 Z Z Z sz_43 Z (.next _ (.next _ (.next _ (.next _ (.next _ (.next _ (.next _ (.next _ (.next _ (.next _ (.next _ (.next _ (.here _ _ (.nil _)))))))))))))) (.tl _ (.tl _ (.hd _)))) Z Z ?_))))))))
   rintro _ i3 ⟨d6,a6⟩
   refine gnx ((csr ((GA Y (gnx ((c_ret ?_)))))))
   have r4:=yearR_inv (d6.ok _ m0)
   have i4:=d6.front (.tl _ (.hd _))
   have i5:=i4.front (.tl _ (.hd _))
   have i6:=i5.closeStar
   have i7:=i6.front (.tl _ (.hd _))
   have i8:((⟨p.table,p.year,p.code,p.prot,a1,p.inputs,p.posted,p.orders⟩:EmpS)).inputs.length≤((⟨p.table,p.year,p.code,p.prot,a1,p.inputs,p.posted,p.orders⟩:EmpS)).posted.slips.length:=by (try dsimp only); first | assumption | omega | (simp only [LA,LC,LN,LS]; omega) | (first | (intro i hi; cases hi) | (intro i hi; rcases LP.1 hi with hi | hi; exact ‹∀ i ∈ _,List.length (Input.elements i)≤32› i hi; (rw [LM.1 hi]; dsimp only; omega)) | (intro i hi; rcases List.mem_or_eq_of_mem_set hi with hi | hi; exact ‹∀ i ∈ _,List.length (Input.elements i)≤32› i hi; (rw [hi]; dsimp only; omega)))
   have i9:((⟨p.table,p.year,p.code,p.prot,a1,p.inputs,p.posted,p.orders⟩:EmpS)).inputs.length≤53:=by (try dsimp only); first | assumption | omega | (simp only [LA,LC,LN,LS]; omega) | (first | (intro i hi; cases hi) | (intro i hi; rcases LP.1 hi with hi | hi; exact ‹∀ i ∈ _,List.length (Input.elements i)≤32› i hi; (rw [LM.1 hi]; dsimp only; omega)) | (intro i hi; rcases List.mem_or_eq_of_mem_set hi with hi | hi; exact ‹∀ i ∈ _,List.length (Input.elements i)≤32› i hi; (rw [hi]; dsimp only; omega)))
   have j0:((⟨p.table,p.year,p.code,p.prot,a1,p.inputs,p.posted,p.orders⟩:EmpS)).next.length≤32:=by (try dsimp only); first | assumption | omega | (simp only [LA,LC,LN,LS]; omega) | (first | (intro i hi; cases hi) | (intro i hi; rcases LP.1 hi with hi | hi; exact ‹∀ i ∈ _,List.length (Input.elements i)≤32› i hi; (rw [LM.1 hi]; dsimp only; omega)) | (intro i hi; rcases List.mem_or_eq_of_mem_set hi with hi | hi; exact ‹∀ i ∈ _,List.length (Input.elements i)≤32› i hi; (rw [hi]; dsimp only; omega)))
   have j1:∀ i ∈ ((⟨p.table,p.year,p.code,p.prot,a1,p.inputs,p.posted,p.orders⟩:EmpS)).inputs,i.elements.length≤32:=by (try dsimp only); first | assumption | omega | (simp only [LA,LC,LN,LS]; omega) | (first | (intro i hi; cases hi) | (intro i hi; rcases LP.1 hi with hi | hi; exact ‹∀ i ∈ _,List.length (Input.elements i)≤32› i hi; (rw [LM.1 hi]; dsimp only; omega)) | (intro i hi; rcases List.mem_or_eq_of_mem_set hi with hi | hi; exact ‹∀ i ∈ _,List.length (Input.elements i)≤32› i hi; (rw [hi]; dsimp only; omega)))
   have j2:=i7.closeObj (ty:=(empTy p_posted p_orders)) (x:=(⟨p.table,p.year,p.code,p.prot,a1,p.inputs,p.posted,p.orders⟩:EmpS)) ⟨_,_,_,_,_,_,rfl,(b0.mono (a0.t a6)),(b1.mono (a0.t a6)),(b2.mono (a0.t a6)),⟨_,_,rfl,(d2.mono (a0.t a6)),rfl⟩,(b7.mono (a0.t a6)),(b8.mono (a0.t a6)),i8,i9,j0,j1⟩
   have j3:=j2.closeStar
   have c1:Inv (empR p_r p_posted p_orders p).fp d w d5 (empR p_r p_posted p_orders ((⟨p.table,p.year,p.code,p.prot,a1,p.inputs,p.posted,p.orders⟩:EmpS)) :: _) i3:=j3
   have j4:ePay p list=((⟨p.table,p.year,p.code,p.prot,a1,p.inputs,p.posted,p.orders⟩:EmpS),0):=ET (BE a7) (ET (IN a2) (ET (BE b6) (ET (BE b3) (ET (IN a3) (rfl)))))
   refine x_ret ⟨_,_,rfl,rfl,rfl⟩ (⟨_,_,rfl,c1.fr,c1.grow,by rw [j4]; exact ⟨rfl,c1.turned m0⟩⟩)
def rNew (t:Table) (y:PYear) (c:Code):(Option EmpS) × Int:=
 (bnd (kCheck t) fun a0=>
 (if (a0≠0) then (none,a0)
 else (bnd (tFits t c) fun a1=>
 (if (a1≠0) then (none,a1)
 else (bnd (yNew ((t.contribs.length:Int))) fun a2=>
 (ocase a2.1 ((none,a2.2))
 fun a3=>
 (bnd (tClone t) fun a4=>
 ((some ((⟨a4,y,c,0,([]:List Elem),([]:List Input),a3,(⟨([]:List OState)⟩:BookS)⟩:EmpS))),0))))))))
theorem rNew_c {t:Table} {cs_t:List Value} {y:PYear} {v_y:Value} {c:Code} {d:Dat} {w:World} (hd:∀ b,d b→b < w.heap.size) (h_t:tableTy.rel d w t cs_t) (h_y:PtrD pYearTy d w v_y y):Ret Tryz.prog 56 [.agg cs_t.toArray,v_y,.agg #[.int .i64 c.scheme,.int .i64 c.kind,.int .i64 c.amount,.int .i64 c.flat,.bool c.alone]] w [] d (fun u d' w'=>((rNew t y c).1=none→u=.tuple #[.pointer none,.int .i64 ((rNew t y c).2)])∧(∀ x,(rNew t y c).1=some x→∃ (b:Nat) (g_posted:Nat) (g_orders:Nat),u=.tuple #[.pointer (some ⟨b,0,none⟩),.int .i64 ((rNew t y c).2)]∧Fresh (empR b g_posted g_orders x) d' w w')):=by
 obtain ⟨v1,v2,v3,rfl,hS4,hS5,hS6⟩:=h_t
 obtain ⟨A7,c8,rfl,hn9,l2⟩:=hS4.fm
 obtain ⟨c3,c4,rfl,l3,l4⟩:=hS5.fm
 obtain ⟨c5,c6,rfl,l5,l6⟩:=hS6.fm
 obtain ⟨l7,l8,rfl,d4,g8⟩:=h_y
 obtain rfl:=g8
 refine ret_enter (n:=44) Tryz.func56 Z Z (ble Z) ?_
 have hI0:=Inv.start hd
 refine csr ((g_e (ev_box hI0 Z) Z Z ?_))
 rintro _ l9 ⟨m6,rfl,g9,a1⟩
 refine g_e (ev_box g9 Z) Z Z ?_
 rintro _ m7 ⟨m8,rfl,c7,a2⟩
 refine GA Y (GA Y (gnx ((c_seq (csr ((g_y (y_loadA (cs:=[.slice A7 (t.schemes).length c8,.slice c3 (t.contribs).length c4,.slice c5 (t.kinds).length c6,.int .i64 t.limit,.int .i64 t.round]) sh_26 Z ((blk_cells c7 m1).part (f:=0) (.take _ (.take _ (.take _ (.take _ (.take _ (.nil _)))))))) Z Z ?_)))))))
 have d5:=kCheck_c (t:=t) c7.lt (show tableTy.rel _ _ t _ from ⟨_,_,_,rfl,(hS4.mono (a1.t a2)),(hS5.mono (a1.t a2)),(hS6.mono (a1.t a2))⟩)
 obtain ⟨h0,b3⟩:∃ r,kCheck t=r:=⟨_,rfl⟩
 rw [b3] at d5
 refine g_e (ev_pure c7 pf_58 Z d5) Z Z ?_
 rintro _ m9 ⟨n0,b4,a3,rfl⟩
 refine GA Y (gnx ((csr ((GM Y (g_y (y_neq Z Z) Z Z (gnx ((c_cond Z (fun a4=>?_) (fun a4=>?_))))))))))
 ·replace a4:=OT a4
  refine csr ((GM Y (GA Y (GA Y (gnx ((c_ret ?_)))))))
  have h1:rNew t y c=(none,h0):=ET (BE b3) (ET (IP a4) (rfl))
  refine x_thenR (x_ret ⟨_,_,rfl,rfl,⟨_,_,rfl,rfl,rfl⟩⟩ ?_)
  exact ⟨_,_,rfl,b4.fr,b4.grow,by rw [h1]; exact ⟨(fun _=>rfl),(fun x h=>by cases h)⟩⟩
 ·replace a4:=OF a4
  refine c_skip (x_next (c_seq (csr ((g_y (y_loadA (cs:=[.slice A7 (t.schemes).length c8,.slice c3 (t.contribs).length c4,.slice c5 (t.kinds).length c6,.int .i64 t.limit,.int .i64 t.round]) sh_26 Z ((blk_cells b4 m1).part (f:=0) (.take _ (.take _ (.take _ (.take _ (.take _ (.nil _)))))))) Z Z (g_y (y_loadA (cs:=[.int .i64 c.scheme,.int .i64 c.kind,.int .i64 c.amount,.int .i64 c.flat,.bool c.alone]) sh_28 Z ((blk_cells b4 m0).part (f:=0) (.take _ (.take _ (.take _ (.take _ (.take _ (.nil _)))))))) Z Z ?_))))))
  have d6:=tFits_c (t:=t) (c:=c) b4.lt (show tableTy.rel _ _ t _ from ⟨_,_,_,rfl,(hS4.mono ((a1.t a2).t a3)),(hS5.mono ((a1.t a2).t a3)),(hS6.mono ((a1.t a2).t a3))⟩)
  obtain ⟨h2,b6⟩:∃ r,tFits t c=r:=⟨_,rfl⟩
  rw [b6] at d6
  refine g_e (ev_pure b4 pf_59 Z d6) Z Z ?_
  rintro _ n1 ⟨n2,b5,a7,rfl⟩
  refine GA Y (gnx ((csr ((GM Y (g_y (y_neq Z Z) Z Z (gnx ((c_cond Z (fun a5=>?_) (fun a5=>?_))))))))))
  ·replace a5:=OT a5
   refine csr ((GM Y (GA Y (GA Y (gnx ((c_ret ?_)))))))
   have h3:rNew t y c=(none,h2):=ET (BE b3) (ET (IN a4) (ET (BE b6) (ET (IP a5) (rfl))))
   refine x_thenR (x_ret ⟨_,_,rfl,rfl,⟨_,_,rfl,rfl,rfl⟩⟩ ?_)
   exact ⟨_,_,rfl,b5.fr,b5.grow,by rw [h3]; exact ⟨(fun _=>rfl),(fun x h=>by cases h)⟩⟩
  ·replace a5:=OF a5
   refine c_skip (x_next (c_seq (csr ((GM Y (g_y (y_ptrEqNil Tryz.underlying93 Z Z) Z Z (gnx ((c_condF Z (c_skip (x_next (csr (?_)))))))))))))
   refine gfa fo_26_1 Z Z Z (gld sh_23 Z b5 m1 (i:=1) Z Z Z (gln el_23 Z Z Z ?_))
   have d7:=yNew_c (contribs:=(t.contribs.length:Int)) b5.lt
   obtain ⟨d8,a6⟩:∃ r,yNew ((t.contribs.length:Int))=r:=⟨_,rfl⟩
   rw [a6] at d7
   refine g_e (ev_call pf_141 Z d7) Z Z ?_
   rintro _ h4 ⟨h5,d9,e0,h6,h7⟩
   rcases a8:d8.1 with _ | a0
   ·have e1:=yNew_opt.1 (by rw [a6]; exact a8)
    rw [a6] at e1
    obtain rfl:=h6 a8
    obtain ⟨e2,n3⟩:=b5.pure d9 e0
    refine GM Y (g_y (y_extract Z Z) Z Z (g_y (y_extract Z Z) Z Z (GA Y (GA Y (gnx ((c_seq (csr ((GM Y (g_y (y_neq Z Z) Z Z (gnx (?_)))))))))))))
    refine c_condT (bt (decide_eq_true e1)) (csr ((GM Y (GA Y (GA Y (gnx ((c_ret ?_))))))))
    have h8:rNew t y c=(none,d8.2):=ET (BE b3) (ET (IN a4) (ET (BE b6) (ET (IN a5) (ET (BE a6) (ET (ocase_none a8) (rfl))))))
    refine x_thenR (x_ret ⟨_,_,rfl,rfl,⟨_,_,rfl,rfl,rfl⟩⟩ ?_)
    exact ⟨_,_,rfl,e2.fr,e2.grow,by rw [h8]; exact ⟨(fun _=>rfl),(fun x h=>by cases h)⟩⟩
   ·have e3:=yNew_opt.2 _ (by rw [a6]; exact a8)
    rw [a6] at e3
    have h8x75:a0.slips.length=0:=by rw [yNew_slips (by rw [a6]; exact a8)]; rfl
    obtain ⟨c1,rfl,h9⟩:=h7 _ a8
    obtain ⟨e4,a9⟩:=b5.take d9 e0 h9
    have n4:=yearR_inv (e4.ok _ m0)
    refine GM Y (g_y (y_extract Z Z) Z Z (g_y (y_extract Z Z) Z Z (GA Y (GA Y (gnx ((c_seq (csr ((GM Y (g_y (y_neq Z Z) Z Z (gnx (?_)))))))))))))
    refine c_condF (bf (decide_eq_false (not_not_intro e3))) (c_skip (x_next (c_seq ?_)))
    have c2:=e4.drew; have b0:=Le.drew h5 h4
    refine c_drawK 9 follows_mixed c2 (k_y 0 (by kernel_rfl) Z Z Z (fun n5 ⟨n6,i0,n7⟩=>(y_loadA (cs:=[.slice A7 (t.schemes).length c8,.slice c3 (t.contribs).length c4,.slice c5 (t.kinds).length c6,.int .i64 t.limit,.int .i64 t.round]) sh_26 Z ((blk_cells i0 m2).part (f:=0) (.take _ (.take _ (.take _ (.take _ (.take _ (.nil _))))))))) (k_y 2 (by kernel_rfl) Z Z Z (fun _ _=>(y_move Z)) (k_y 3 (by kernel_rfl) Z Z Z (fun n8 ⟨n9,i1,o0⟩=>(y_loadA (cs:=[.int .i64 c.scheme,.int .i64 c.kind,.int .i64 c.amount,.int .i64 c.flat,.bool c.alone]) sh_28 Z ((blk_cells i1 m1).part (f:=0) (.take _ (.take _ (.take _ (.take _ (.take _ (.nil _))))))))) (k_y 4 (by kernel_rfl) Z Z Z (fun _ _=>(y_move Z)) (k_y 5 (by kernel_rfl) Z Z Z (fun _ _=>(y_build ze_265 pl_265 (.nil _))) (k_all (is:=[1,6]) (by kernel_rfl) (by simp) (.cons ?_ (.cons ?_ .nil))))))))
    ·have e5:=tClone_c (t:=t) c2.lt (show tableTy.rel _ _ t _ from ⟨_,_,_,rfl,(hS4.mono (((((a1.t a2).t a3).t a7).t a9).t b0)),(hS5.mono (((((a1.t a2).t a3).t a7).t a9).t b0)),(hS6.mono (((((a1.t a2).t a3).t a7).t a9).t b0))⟩)
     obtain ⟨b1,e6⟩:∃ r,tClone t=r:=⟨_,rfl⟩
     rw [e6] at e5
     refine k_op Z Z Z (ev_pure c2 pf_142 Z e5) ?_
     rintro _ o1 ⟨e7,e8,e9,⟨o2,rfl,i2⟩⟩
     obtain ⟨o3,o4,o5,rfl,f0,f1,f2⟩:=i2
     obtain ⟨o6,o7,rfl,o8,o9⟩:=f0.fm
     obtain ⟨p0,p1,rfl,p2,p3⟩:=f1.fm
     obtain ⟨p4,p5,rfl,p6,p7⟩:=f2.fm
     refine k_next e8 e9 (k_all (is:=[6]) (by kernel_rfl) (by simp) (.cons ?_ .nil))
     refine k_op Z Z Z (ev_box e8 Z) ?_
     rintro _ p8 ⟨c9,rfl,f3,b7⟩
     refine k_next (f3.drop (.hd _)) b7 (k_y 7 (by kernel_rfl) Z Z Z (fun _ _=>(y_build ze_214 pl_214 (.cons Z Z Z Z (.here _ _ (.here _ _ (.here _ _ (.here _ _ (.here _ _ (.nil _)))))) (ble Z) (.cons Z Z Z Z (.next _ (.next _ (.next _ (.next _ (.next _ (.here _ _ (.nil _))))))) (ble Z) (.cons Z Z Z Z (.next _ (.next _ (.next _ (.next _ (.next _ (.next _ (.here _ _ (.here _ _ (.here _ _ (.here _ _ (.here _ _ (.nil _)))))))))))) (ble Z) (.cons Z Z Z Z (.next _ (.next _ (.next _ (.next _ (.next _ (.next _ (.next _ (.next _ (.next _ (.next _ (.next _ (.next _ (.next _ (.next _ (.here _ _ (.nil _)))))))))))))))) (ble Z) (.cons Z Z Z Z (.next _ (.next _ (.next _ (.next _ (.next _ (.next _ (.next _ (.next _ (.next _ (.next _ (.next _ (.next _ (.next _ (.next _ (.next _ (.here _ _ (.nil _))))))))))))))))) (ble Z) (.nil _)))))))) (k_all (is:=[8]) (by kernel_rfl) (by simp) (.cons ?_ .nil)))
     refine k_op Z Z Z (ev_box f3 Z) ?_
     rintro _ f4 ⟨i3,rfl,f5,b8⟩
     refine k_next ((f5.drop (.hd _)).drop (.hd _)) b8 (k_all (is:=[9]) (by kernel_rfl) (by simp) (.cons ?_ .nil))
     refine k_op Z Z Z (Ev.of_y2 (y_assign Z)) ?_
     rintro _ _ ⟨rfl,rfl⟩
     refine k_bar (b_all (i:=10) (by kernel_rfl) (by kernel_rfl) (k_op Z Z Z (Ev.of_y2 (y_assign Z)) ?_))
     rintro _ _ ⟨rfl,rfl⟩
     refine k_bar (b_done (by kernel_rfl) (x_draw ?_) (by kernel_rfl))
     refine x_next (c_ret ?_)
     have i4:=f5.front (.tl _ (.hd _))
     have i5:((⟨([]:List OState)⟩:BookS)).list.length≤8:=by (try dsimp only); first | assumption | omega | (simp only [LA,LC,LN,LS]; omega)
     have i6:=i4.closeObj (ty:=bookTy) (x:=(⟨([]:List OState)⟩:BookS)) ⟨_,rfl,(Sl.nil_ _ _ _ none 0),i5⟩
     have f6:Inv [] d w e7 (bookR c9 ((⟨([]:List OState)⟩:BookS)) :: _) f4:=i6
     have p9:=yearR_inv (f6.ok _ m2)
     have i7:=f6.front (.tl _ (.tl _ (.hd _)))
     have i8:=i7.closeStar
     have i9:=i8.front (.tl _ (.hd _))
     have j0:((⟨b1,y,c,0,([]:List Elem),([]:List Input),a0,(⟨([]:List OState)⟩:BookS)⟩:EmpS)).inputs.length≤((⟨b1,y,c,0,([]:List Elem),([]:List Input),a0,(⟨([]:List OState)⟩:BookS)⟩:EmpS)).posted.slips.length:=by (try dsimp only); first | assumption | omega | (simp only [LA,LC,LN,LS]; omega) | (first | (intro i hi; cases hi) | (intro i hi; rcases LP.1 hi with hi | hi; exact ‹∀ i ∈ _,List.length (Input.elements i)≤32› i hi; (rw [LM.1 hi]; dsimp only; omega)) | (intro i hi; rcases List.mem_or_eq_of_mem_set hi with hi | hi; exact ‹∀ i ∈ _,List.length (Input.elements i)≤32› i hi; (rw [hi]; dsimp only; omega)))
     have j1:((⟨b1,y,c,0,([]:List Elem),([]:List Input),a0,(⟨([]:List OState)⟩:BookS)⟩:EmpS)).inputs.length≤53:=by (try dsimp only); first | assumption | omega | (simp only [LA,LC,LN,LS]; omega) | (first | (intro i hi; cases hi) | (intro i hi; rcases LP.1 hi with hi | hi; exact ‹∀ i ∈ _,List.length (Input.elements i)≤32› i hi; (rw [LM.1 hi]; dsimp only; omega)) | (intro i hi; rcases List.mem_or_eq_of_mem_set hi with hi | hi; exact ‹∀ i ∈ _,List.length (Input.elements i)≤32› i hi; (rw [hi]; dsimp only; omega)))
     have j2:((⟨b1,y,c,0,([]:List Elem),([]:List Input),a0,(⟨([]:List OState)⟩:BookS)⟩:EmpS)).next.length≤32:=by (try dsimp only); first | assumption | omega | (simp only [LA,LC,LN,LS]; omega) | (first | (intro i hi; cases hi) | (intro i hi; rcases LP.1 hi with hi | hi; exact ‹∀ i ∈ _,List.length (Input.elements i)≤32› i hi; (rw [LM.1 hi]; dsimp only; omega)) | (intro i hi; rcases List.mem_or_eq_of_mem_set hi with hi | hi; exact ‹∀ i ∈ _,List.length (Input.elements i)≤32› i hi; (rw [hi]; dsimp only; omega)))
     have j3:∀ i ∈ ((⟨b1,y,c,0,([]:List Elem),([]:List Input),a0,(⟨([]:List OState)⟩:BookS)⟩:EmpS)).inputs,i.elements.length≤32:=by (try dsimp only); first | assumption | omega | (simp only [LA,LC,LN,LS]; omega) | (first | (intro i hi; cases hi) | (intro i hi; rcases LP.1 hi with hi | hi; exact ‹∀ i ∈ _,List.length (Input.elements i)≤32› i hi; (rw [LM.1 hi]; dsimp only; omega)) | (intro i hi; rcases List.mem_or_eq_of_mem_set hi with hi | hi; exact ‹∀ i ∈ _,List.length (Input.elements i)≤32› i hi; (rw [hi]; dsimp only; omega)))
     have j4:=i9.closeObj (ty:=(empTy c1 c9)) (x:=(⟨b1,y,c,0,([]:List Elem),([]:List Input),a0,(⟨([]:List OState)⟩:BookS)⟩:EmpS)) ⟨_,_,_,_,_,_,rfl,(f0.mono (b7.t b8)),(f1.mono (b7.t b8)),(f2.mono (b7.t b8)),⟨_,_,rfl,(d4.mono ((((((((a1.t a2).t a3).t a7).t a9).t b0).t e9).t b7).t b8)),rfl⟩,(Sl.nil_ _ _ _ none 0),(Sl.nil_ _ _ _ none 0),j0,j1,j2,j3⟩
     have j5:=j4.closeStar
     have d0:Inv [] d w e7 (empR i3 c1 c9 ((⟨b1,y,c,0,([]:List Elem),([]:List Input),a0,(⟨([]:List OState)⟩:BookS)⟩:EmpS)) :: _) f4:=j5
     have j6:rNew t y c=((some ((⟨b1,y,c,0,([]:List Elem),([]:List Input),a0,(⟨([]:List OState)⟩:BookS)⟩:EmpS))),0):=ET (BE b3) (ET (IN a4) (ET (BE b6) (ET (IN a5) (ET (BE a6) (ET (ocase_some a8) (ET (BE e6) (rfl)))))))
     refine x_ret ⟨_,_,rfl,rfl,⟨_,_,rfl,rfl,rfl⟩⟩ (⟨_,_,rfl,d0.fr,d0.grow,by rw [j6]; exact ⟨(fun h=>by cases h),(fun x h=>by cases h; exact ⟨_,_,_,rfl,d0.fresh m0⟩)⟩⟩)
    ·refine k_op Z Z Z (ev_box c2 Z) ?_
     rintro _ q0 ⟨d1,rfl,d2,b9⟩
     refine k_next (d2.drop (.hd _)) b9 (k_all (is:=[1]) (by kernel_rfl) (by simp) (.cons ?_ .nil))
     have f7:=tClone_c (t:=t) d2.lt (show tableTy.rel _ _ t _ from ⟨_,_,_,rfl,(hS4.mono ((((((a1.t a2).t a3).t a7).t a9).t b0).t b9)),(hS5.mono ((((((a1.t a2).t a3).t a7).t a9).t b0).t b9)),(hS6.mono ((((((a1.t a2).t a3).t a7).t a9).t b0).t b9))⟩)
     obtain ⟨b2,f8⟩:∃ r,tClone t=r:=⟨_,rfl⟩
     rw [f8] at f7
     refine k_op Z Z Z (ev_pure d2 pf_142 Z f7) ?_
     rintro _ q1 ⟨f9,g0,g1,⟨q2,rfl,j7⟩⟩
     obtain ⟨q3,q4,q5,rfl,g2,g3,g4⟩:=j7
     obtain ⟨q6,q7,rfl,q8,q9⟩:=g2.fm
     obtain ⟨r0,r1,rfl,r2,r3⟩:=g3.fm
     obtain ⟨r4,r5,rfl,r6,r7⟩:=g4.fm
     refine k_next (g0.drop (.hd _)) g1 (k_y 7 (by kernel_rfl) Z Z Z (fun _ _=>(y_build ze_214 pl_214 (.cons Z Z Z Z (.here _ _ (.here _ _ (.here _ _ (.here _ _ (.here _ _ (.nil _)))))) (ble Z) (.cons Z Z Z Z (.next _ (.next _ (.next _ (.next _ (.next _ (.here _ _ (.nil _))))))) (ble Z) (.cons Z Z Z Z (.next _ (.next _ (.next _ (.next _ (.next _ (.next _ (.here _ _ (.here _ _ (.here _ _ (.here _ _ (.here _ _ (.nil _)))))))))))) (ble Z) (.cons Z Z Z Z (.next _ (.next _ (.next _ (.next _ (.next _ (.next _ (.next _ (.next _ (.next _ (.next _ (.next _ (.next _ (.next _ (.next _ (.here _ _ (.nil _)))))))))))))))) (ble Z) (.cons Z Z Z Z (.next _ (.next _ (.next _ (.next _ (.next _ (.next _ (.next _ (.next _ (.next _ (.next _ (.next _ (.next _ (.next _ (.next _ (.next _ (.here _ _ (.nil _))))))))))))))))) (ble Z) (.nil _)))))))) (k_all (is:=[8]) (by kernel_rfl) (by simp) (.cons ?_ .nil)))
     refine k_op Z Z Z (ev_box g0 Z) ?_
     rintro _ g5 ⟨j8,rfl,g6,c0⟩
     refine k_next ((g6.drop (.hd _)).drop (.hd _)) c0 (k_all (is:=[9]) (by kernel_rfl) (by simp) (.cons ?_ .nil))
     refine k_op Z Z Z (Ev.of_y2 (y_assign Z)) ?_
     rintro _ _ ⟨rfl,rfl⟩
     refine k_bar (b_all (i:=10) (by kernel_rfl) (by kernel_rfl) (k_op Z Z Z (Ev.of_y2 (y_assign Z)) ?_))
     rintro _ _ ⟨rfl,rfl⟩
     refine k_bar (b_done (by kernel_rfl) (x_draw ?_) (by kernel_rfl))
     refine x_next (c_ret ?_)
     have j9:=g6.front (.tl _ (.hd _))
     have k0:((⟨([]:List OState)⟩:BookS)).list.length≤8:=by (try dsimp only); first | assumption | omega | (simp only [LA,LC,LN,LS]; omega)
     have k1:=j9.closeObj (ty:=bookTy) (x:=(⟨([]:List OState)⟩:BookS)) ⟨_,rfl,(Sl.nil_ _ _ _ none 0),k0⟩
     have g7:Inv [] d w f9 (bookR d1 ((⟨([]:List OState)⟩:BookS)) :: _) g5:=k1
     have r8:=yearR_inv (g7.ok _ m2)
     have k2:=g7.front (.tl _ (.tl _ (.hd _)))
     have k3:=k2.closeStar
     have k4:=k3.front (.tl _ (.hd _))
     have k5:((⟨b2,y,c,0,([]:List Elem),([]:List Input),a0,(⟨([]:List OState)⟩:BookS)⟩:EmpS)).inputs.length≤((⟨b2,y,c,0,([]:List Elem),([]:List Input),a0,(⟨([]:List OState)⟩:BookS)⟩:EmpS)).posted.slips.length:=by (try dsimp only); first | assumption | omega | (simp only [LA,LC,LN,LS]; omega) | (first | (intro i hi; cases hi) | (intro i hi; rcases LP.1 hi with hi | hi; exact ‹∀ i ∈ _,List.length (Input.elements i)≤32› i hi; (rw [LM.1 hi]; dsimp only; omega)) | (intro i hi; rcases List.mem_or_eq_of_mem_set hi with hi | hi; exact ‹∀ i ∈ _,List.length (Input.elements i)≤32› i hi; (rw [hi]; dsimp only; omega)))
     have k6:((⟨b2,y,c,0,([]:List Elem),([]:List Input),a0,(⟨([]:List OState)⟩:BookS)⟩:EmpS)).inputs.length≤53:=by (try dsimp only); first | assumption | omega | (simp only [LA,LC,LN,LS]; omega) | (first | (intro i hi; cases hi) | (intro i hi; rcases LP.1 hi with hi | hi; exact ‹∀ i ∈ _,List.length (Input.elements i)≤32› i hi; (rw [LM.1 hi]; dsimp only; omega)) | (intro i hi; rcases List.mem_or_eq_of_mem_set hi with hi | hi; exact ‹∀ i ∈ _,List.length (Input.elements i)≤32› i hi; (rw [hi]; dsimp only; omega)))
     have k7:((⟨b2,y,c,0,([]:List Elem),([]:List Input),a0,(⟨([]:List OState)⟩:BookS)⟩:EmpS)).next.length≤32:=by (try dsimp only); first | assumption | omega | (simp only [LA,LC,LN,LS]; omega) | (first | (intro i hi; cases hi) | (intro i hi; rcases LP.1 hi with hi | hi; exact ‹∀ i ∈ _,List.length (Input.elements i)≤32› i hi; (rw [LM.1 hi]; dsimp only; omega)) | (intro i hi; rcases List.mem_or_eq_of_mem_set hi with hi | hi; exact ‹∀ i ∈ _,List.length (Input.elements i)≤32› i hi; (rw [hi]; dsimp only; omega)))
     have k8:∀ i ∈ ((⟨b2,y,c,0,([]:List Elem),([]:List Input),a0,(⟨([]:List OState)⟩:BookS)⟩:EmpS)).inputs,i.elements.length≤32:=by (try dsimp only); first | assumption | omega | (simp only [LA,LC,LN,LS]; omega) | (first | (intro i hi; cases hi) | (intro i hi; rcases LP.1 hi with hi | hi; exact ‹∀ i ∈ _,List.length (Input.elements i)≤32› i hi; (rw [LM.1 hi]; dsimp only; omega)) | (intro i hi; rcases List.mem_or_eq_of_mem_set hi with hi | hi; exact ‹∀ i ∈ _,List.length (Input.elements i)≤32› i hi; (rw [hi]; dsimp only; omega)))
     have k9:=k4.closeObj (ty:=(empTy c1 d1)) (x:=(⟨b2,y,c,0,([]:List Elem),([]:List Input),a0,(⟨([]:List OState)⟩:BookS)⟩:EmpS)) ⟨_,_,_,_,_,_,rfl,(g2.mono c0),(g3.mono c0),(g4.mono c0),⟨_,_,rfl,(d4.mono ((((((((a1.t a2).t a3).t a7).t a9).t b0).t b9).t g1).t c0)),rfl⟩,(Sl.nil_ _ _ _ none 0),(Sl.nil_ _ _ _ none 0),k5,k6,k7,k8⟩
     have l0:=k9.closeStar
     have d3:Inv [] d w f9 (empR j8 c1 d1 ((⟨b2,y,c,0,([]:List Elem),([]:List Input),a0,(⟨([]:List OState)⟩:BookS)⟩:EmpS)) :: _) g5:=l0
     have l1:rNew t y c=((some ((⟨b2,y,c,0,([]:List Elem),([]:List Input),a0,(⟨([]:List OState)⟩:BookS)⟩:EmpS))),0):=ET (BE b3) (ET (IN a4) (ET (BE b6) (ET (IN a5) (ET (BE a6) (ET (ocase_some a8) (ET (BE f8) (rfl)))))))
     refine x_ret ⟨_,_,rfl,rfl,⟨_,_,rfl,rfl,rfl⟩⟩ (⟨_,_,rfl,d3.fr,d3.grow,by rw [l1]; exact ⟨(fun h=>by cases h),(fun x h=>by cases h; exact ⟨_,_,_,rfl,d3.fresh m0⟩)⟩⟩)
theorem rNew_opt {t:Table} {y:PYear} {c:Code}:((rNew t y c).1=none→(rNew t y c).2≠0)∧(∀ x,(rNew t y c).1=some x→(rNew t y c).2=0):=by
 unfold rNew
 simp only [bnd]
 split
 ·exact ⟨(fun _=>by assumption),(fun x h=>by cases h)⟩
 split
 ·exact ⟨(fun _=>by assumption),(fun x h=>by cases h)⟩
 cases h:(yNew (t.contribs.length:Int)).1 with
 | none=>exact ⟨(fun _=>yNew_opt.1 h),(fun x h=>by cases h)⟩
 | some x=>exact ⟨(fun h=>by cases h),(fun x h=>rfl)⟩
end Go.Proofs.YtclblpmjamcknaaGreat
