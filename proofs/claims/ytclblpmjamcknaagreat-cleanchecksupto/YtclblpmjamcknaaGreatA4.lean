import Derived.Test.YtclblpmjamcknaaGreatA3
set_option linter.unusedVariables false
set_option linter.unusedSimpArgs false
set_option maxRecDepth 8000
set_option maxHeartbeats 1000000
namespace Go.Proofs.YtclblpmjamcknaaGreat
open Go.Sx
def dOf1:Date × Int:=
 (bnd (dNumber ((⟨2026,1,1⟩:Date))) fun a0=>
 (bnd (dNumber ((⟨2025,1,1⟩:Date))) fun a1=>
 (bnd (dLast 2025 1) fun a2=>
 (bnd (dLast 2025 1) fun a3=>
 (bnd (dLast 2025 2) fun a4=>
 (bnd (dLast 2025 2) fun a5=>
 (bnd (dLast 2025 3) fun a6=>
 (bnd (dLast 2025 3) fun a7=>
 (bnd (dLast 2025 4) fun a8=>
 ((⟨2025,4,5⟩:Date),0))))))))))
theorem dOf1_c  {d:Dat} {w:World} (hd:∀ b,d b→b < w.heap.size):Ret Tryz.prog 255 [.int .i64 45750] w [] d (fun u d' w'=>u=.tuple #[.agg #[.int .i64 dOf1.1.y,.int .i64 dOf1.1.m,.int .i64 dOf1.1.d],.int .i64 dOf1.2]):=by
 refine ret_enter (n:=71) Tryz.func255 Z Z (ble Z) ?_
 have hI0:=Inv.start hd
 refine csr ((g_e (ev_alloc hI0 ze_242) Z Z ?_))
 rintro _ w1 ⟨b4,rfl,hI2,hle3⟩
 refine GA Y (gnx ((c_seq (csr ((GM Y (g_y (y_lss Z Z) Z Z (GM Y (GM Y (g_y (y_geq Z Z) Z Z (g_y (y_pickF Z Z) Z Z (gnx (?_)))))))))))))
 refine c_condF Z (c_skip (x_next (csr ((GM Y (g_y (y_quoC (r:=125) Z Z (by decide) (by decide)) Z Z (g_y (y_addC (r:=2025) Z Z (by decide)) Z Z (g_y (y_build ze_242 pl_242 (.cons Z Z Z Z (.here _ _ (.nil _)) (ble Z) (.cons Z Z Z Z (.next _ (.here _ _ (.nil _))) (ble Z) (.cons Z Z Z Z (.next _ (.next _ (.here _ _ (.nil _)))) (ble Z) (.nil _))))) Z Z (g_e (ev_alloc hI2 ze_242) Z Z ?_)))))))))
 rintro _ w5 ⟨b8,rfl,hI6,hle7⟩
 refine g_e (ev_store hI6 Z Z Z sz_242 Z (.here _ _ (.here _ _ (.here _ _ (.nil _)))) (.hd _)) Z Z ?_
 rintro _ w9 ⟨a0,d6⟩
 refine gnx ((c_seq (c_block (c_loop_n 3 (c_seq (csr ((gfa fo_242_0 Z Z Z (gld sh_3 Z a0 m0 (i:=0) Z Z Z (g_y (y_lss Z Z) Z Z (gnx ((c_condT Z ?_)))))))))))))
 refine c_skip (x_next (c_block (csr ((gfa fo_242_0 Z Z Z (gld sh_3 Z a0 m0 (i:=0) Z Z Z (g_y (y_addC (r:=2026) Z Z (by decide)) Z Z (g_y (y_build ze_242 pl_242 (.cons Z Z Z Z (.here _ _ (.nil _)) (ble Z) (.cons Z Z Z Z (.next _ (.here _ _ (.nil _))) (ble Z) (.cons Z Z Z Z (.next _ (.next _ (.here _ _ (.nil _)))) (ble Z) (.nil _))))) Z Z ?_))))))))
 have b0:=dNumber_c (a:=(⟨2026,1,1⟩:Date)) a0.lt
 have b1:dNumber ((⟨2026,1,1⟩:Date))=(46021,0):=by decide
 rw [b1] at b0
 refine g_e (ev_pure a0 pf_202 Z b0) Z Z ?_
 rintro _ d7 ⟨d8,a8,d9,rfl⟩
 refine GM Y (g_y (y_extract Z Z) Z Z (g_y (y_extract Z Z) Z Z (GA Y (GA Y (gnx ((c_seq (csr ((GM Y (GM Y (g_y (y_gtr Z Z) Z Z (g_nil ?_)))))))))))))
 refine x_next (c_condT Z (c_exit (x_thenE (x_blockO Z (x_thenE (x_blockE (x_next ?_)))))))
 refine csr ((g_y (y_loadA (cs:=[.int .i64 2025,.int .i64 1,.int .i64 1]) sh_242 Z ((blk_cells a8 m0).part (f:=0) (.take _ (.take _ (.take _ (.nil _)))))) Z Z ?_))
 have b2:=dNumber_c (a:=(⟨2025,1,1⟩:Date)) a8.lt
 have b3:dNumber ((⟨2025,1,1⟩:Date))=(45656,0):=by decide
 rw [b3] at b2
 refine g_e (ev_pure a8 pf_202 Z b2) Z Z ?_
 rintro _ e0 ⟨e1,a1,e2,rfl⟩
 refine GM Y (g_y (y_extract Z Z) Z Z (g_y (y_extract Z Z) Z Z (GA Y (GA Y (gnx ((csr ((GM Y (GM Y (g_y (y_subC (r:=94) Z Z (by decide)) Z Z (GA Y (g_nil ?_)))))))))))))
 refine x_next (c_seq (c_block (c_loop_n 8 (c_seq (csr ((GM Y (gfa fo_242_0 Z Z Z (gld sh_3 Z a1 m0 (i:=0) Z Z Z (gfa fo_242_1 Z Z Z (gld sh_3 Z a1 m0 (i:=1) Z Z Z ?_)))))))))))
 have b5:=dLast_c (year:=2025) (month:=1) a1.lt
 have b6:dLast 2025 1=31:=by decide
 rw [b6] at b5
 refine g_e (ev_pure a1 pf_254 Z b5) Z Z ?_
 rintro _ e3 ⟨e4,a2,e5,rfl⟩
 refine g_y (y_geq Z Z) Z Z (gnx ((c_condT Z (c_skip (x_next (c_block (csr ((GM Y (gfa fo_242_0 Z Z Z (gld sh_3 Z a2 m0 (i:=0) Z Z Z (gfa fo_242_1 Z Z Z (gld sh_3 Z a2 m0 (i:=1) Z Z Z ?_)))))))))))))
 have b7:=dLast_c (year:=2025) (month:=1) a2.lt
 have b9:dLast 2025 1=31:=by decide
 rw [b9] at b7
 refine g_e (ev_pure a2 pf_254 Z b7) Z Z ?_
 rintro _ e6 ⟨e7,c0,e8,rfl⟩
 refine g_y (y_subC (r:=63) Z Z (by decide)) Z Z (GA Y (gnx ((c_region (gfa fo_242_1 Z Z Z (gld sh_3 Z c0 m0 (i:=1) Z Z Z (g_y (y_addC (r:=2) Z Z (by decide)) Z Z (gfa fo_242_1 Z Z Z (g_e (ev_store c0 Z Z Z sz_3 Z (.next _ (.here _ _ (.nil _))) (.hd _)) Z Z ?_)))))))))
 rintro _ e9 ⟨a3,f0⟩
 refine g_nil (x_blockN (x_again ?_))
 refine c_seq (csr ((GM Y (gfa fo_242_0 Z Z Z (gld sh_3 Z a3 m0 (i:=0) Z Z Z (gfa fo_242_1 Z Z Z (gld sh_3 Z a3 m0 (i:=1) Z Z Z ?_)))))))
 have c1:=dLast_c (year:=2025) (month:=2) a3.lt
 have c2:dLast 2025 2=28:=by decide
 rw [c2] at c1
 refine g_e (ev_pure a3 pf_254 Z c1) Z Z ?_
 rintro _ f1 ⟨f2,a4,f3,rfl⟩
 refine g_y (y_geq Z Z) Z Z (gnx ((c_condT Z (c_skip (x_next (c_block (csr ((GM Y (gfa fo_242_0 Z Z Z (gld sh_3 Z a4 m0 (i:=0) Z Z Z (gfa fo_242_1 Z Z Z (gld sh_3 Z a4 m0 (i:=1) Z Z Z ?_)))))))))))))
 have c3:=dLast_c (year:=2025) (month:=2) a4.lt
 have c4:dLast 2025 2=28:=by decide
 rw [c4] at c3
 refine g_e (ev_pure a4 pf_254 Z c3) Z Z ?_
 rintro _ f4 ⟨f5,c5,f6,rfl⟩
 refine g_y (y_subC (r:=35) Z Z (by decide)) Z Z (GA Y (gnx ((c_region (gfa fo_242_1 Z Z Z (gld sh_3 Z c5 m0 (i:=1) Z Z Z (g_y (y_addC (r:=3) Z Z (by decide)) Z Z (gfa fo_242_1 Z Z Z (g_e (ev_store c5 Z Z Z sz_3 Z (.next _ (.here _ _ (.nil _))) (.hd _)) Z Z ?_)))))))))
 rintro _ f7 ⟨a5,f8⟩
 refine g_nil (x_blockN (x_again ?_))
 refine c_seq (csr ((GM Y (gfa fo_242_0 Z Z Z (gld sh_3 Z a5 m0 (i:=0) Z Z Z (gfa fo_242_1 Z Z Z (gld sh_3 Z a5 m0 (i:=1) Z Z Z ?_)))))))
 have c6:=dLast_c (year:=2025) (month:=3) a5.lt
 have c7:dLast 2025 3=31:=by decide
 rw [c7] at c6
 refine g_e (ev_pure a5 pf_254 Z c6) Z Z ?_
 rintro _ f9 ⟨g0,a6,g1,rfl⟩
 refine g_y (y_geq Z Z) Z Z (gnx ((c_condT Z (c_skip (x_next (c_block (csr ((GM Y (gfa fo_242_0 Z Z Z (gld sh_3 Z a6 m0 (i:=0) Z Z Z (gfa fo_242_1 Z Z Z (gld sh_3 Z a6 m0 (i:=1) Z Z Z ?_)))))))))))))
 have c8:=dLast_c (year:=2025) (month:=3) a6.lt
 have c9:dLast 2025 3=31:=by decide
 rw [c9] at c8
 refine g_e (ev_pure a6 pf_254 Z c8) Z Z ?_
 rintro _ g2 ⟨g3,d0,g4,rfl⟩
 refine g_y (y_subC (r:=4) Z Z (by decide)) Z Z (GA Y (gnx ((c_region (gfa fo_242_1 Z Z Z (gld sh_3 Z d0 m0 (i:=1) Z Z Z (g_y (y_addC (r:=4) Z Z (by decide)) Z Z (gfa fo_242_1 Z Z Z (g_e (ev_store d0 Z Z Z sz_3 Z (.next _ (.here _ _ (.nil _))) (.hd _)) Z Z ?_)))))))))
 rintro _ g5 ⟨a7,g6⟩
 refine g_nil (x_blockN (x_again ?_))
 refine c_seq (csr ((GM Y (gfa fo_242_0 Z Z Z (gld sh_3 Z a7 m0 (i:=0) Z Z Z (gfa fo_242_1 Z Z Z (gld sh_3 Z a7 m0 (i:=1) Z Z Z ?_)))))))
 have d1:=dLast_c (year:=2025) (month:=4) a7.lt
 have d2:dLast 2025 4=30:=by decide
 rw [d2] at d1
 refine g_e (ev_pure a7 pf_254 Z d1) Z Z ?_
 rintro _ g7 ⟨g8,d3,g9,rfl⟩
 refine g_y (y_geq Z Z) Z Z (gnx ((c_condF Z (c_exit (x_thenE (x_thenE (x_blockE (x_next ?_))))))))
 refine csr ((gfa fo_242_2 Z Z Z (gld sh_3 Z d3 m0 (i:=2) Z Z Z (GM Y (g_y (y_addC (r:=5) Z Z (by decide)) Z Z (gfa fo_242_2 Z Z Z (g_e (ev_store d3 Z Z Z sz_3 Z (.next _ (.next _ (.here _ _ (.nil _)))) (.hd _)) Z Z ?_)))))))
 rintro _ h0 ⟨d4,h1⟩
 refine gnx ((csr ((g_y (y_loadA (cs:=[.int .i64 2025,.int .i64 4,.int .i64 5]) sh_242 Z ((blk_cells d4 m0).part (f:=0) (.take _ (.take _ (.take _ (.nil _)))))) Z Z (g_e (ev_store d4 Z Z Z sz_242 Z (.here _ _ (.here _ _ (.here _ _ (.nil _)))) (.tl _ (.hd _))) Z Z ?_)))))
 rintro _ h2 ⟨a9,h3⟩
 refine GA Y (gnx ((c_ret ?_)))
 have d5:dOf1=((⟨2025,4,5⟩:Date),0):=ET (BE b1) (ET (BE b3) (ET (BE b6) (ET (BE b9) (ET (BE c2) (ET (BE c4) (ET (BE c7) (ET (BE c9) (ET (BE d2) (rfl)))))))))
 refine x_ret ⟨_,_,_,rfl,rfl,blk_cells a9 m1,sh_242,⟨_,_,rfl,rfl,rfl⟩⟩ (⟨_,_,rfl,a9.fr,a9.grow,by rw [d5]; exact rfl⟩)
def dAdd1:Date × Int:=
 (bnd (dNumber ((⟨2025,4,6⟩:Date))) fun a1=>
 (bnd (dOf1) fun a0=>
 (a0.1,a0.2)))
theorem dAdd1_c  {d:Dat} {w:World} (hd:∀ b,d b→b < w.heap.size):Ret Tryz.prog 201 [.agg #[.int .i64 2025,.int .i64 4,.int .i64 6],.int .i64 (-1)] w [] d (fun u d' w'=>u=.tuple #[.agg #[.int .i64 dAdd1.1.y,.int .i64 dAdd1.1.m,.int .i64 dAdd1.1.d],.int .i64 dAdd1.2]):=by
 refine ret_enter (n:=30) Tryz.func201 Z Z (ble Z) ?_
 have hI0:=Inv.start hd
 refine csr ((g_e (ev_box hI0 Z) Z Z ?_))
 rintro _ w1 ⟨b4,rfl,hI2,hle3⟩
 refine g_e (ev_alloc hI2 ze_242) Z Z ?_
 rintro _ w5 ⟨b8,rfl,hI6,hle7⟩
 refine GA Y (gnx ((csr ((g_y (y_loadA (cs:=[.int .i64 2025,.int .i64 4,.int .i64 6]) sh_242 Z ((blk_cells hI6 m1).part (f:=0) (.take _ (.take _ (.take _ (.nil _)))))) Z Z ?_)))))
 have hq9:=dNumber_c (a:=(⟨2025,4,6⟩:Date)) hI6.lt
 have a1:dNumber ((⟨2025,4,6⟩:Date))=(45751,0):=by decide
 rw [a1] at hq9
 refine g_e (ev_pure hI6 pf_202 Z hq9) Z Z ?_
 rintro _ a8 ⟨a9,a2,b0,rfl⟩
 refine GM Y (g_y (y_extract Z Z) Z Z (g_y (y_extract Z Z) Z Z (GA Y (GA Y (gnx ((c_seq (csr ((GM Y (g_y (y_neq Z Z) Z Z (gnx (?_)))))))))))))
 refine c_condF Z (c_skip (x_next (c_seq (csr ((GM Y (g_y (y_gtr Z Z) Z Z (GM Y (GM Y (g_y (y_lss Z Z) Z Z (g_y (y_pickF Z Z) Z Z (gnx (?_)))))))))))))
 refine c_condF Z (c_skip (x_next (csr ((GM Y (GM Y (g_y (y_addC (r:=45750) Z Z (by decide)) Z Z ?_)))))))
 have a3:=dOf1_c a2.lt
 obtain ⟨a4,a5⟩:∃ r,dOf1=r:=⟨_,rfl⟩
 rw [a5] at a3
 refine g_e (ev_pure a2 pf_255 Z a3) Z Z ?_
 rintro _ b1 ⟨b2,a6,b3,rfl⟩
 refine g_y (y_extract Z Z) Z Z (g_y (y_extract Z Z) Z Z (g_e (ev_store a6 Z Z Z sz_242 Z (.here _ _ (.here _ _ (.here _ _ (.nil _)))) (.hd _)) Z Z ?_))
 rintro _ b5 ⟨a0,b6⟩
 refine GA Y (gnx ((c_ret ?_)))
 have a7:dAdd1=(a4.1,a4.2):=ET (BE a1) (ET (BE a5) (rfl))
 refine x_ret ⟨_,_,_,rfl,rfl,blk_cells a0 m0,sh_242,⟨_,_,rfl,rfl,rfl⟩⟩ (⟨_,_,rfl,a0.fr,a0.grow,by rw [a7]; exact rfl⟩)
def pNew1:PYear × Int:=
 (bnd (pNominal 4) fun a0=>
 (bnd (dMonths ((⟨2024,4,6⟩:Date)) 12) fun a1=>
 (bnd (dAdd1) fun a2=>
 (bnd (dNumber ((⟨2024,4,6⟩:Date))) fun a3=>
 (bnd (dBetween ((⟨2024,4,6⟩:Date)) ((⟨2025,4,6⟩:Date))) fun a4=>
 ((⟨4,(⟨2024,4,6⟩:Date),(⟨2025,4,5⟩:Date),45386,365⟩:PYear),0))))))
theorem pNew1_c  {d:Dat} {w:World} (hd:∀ b,d b→b < w.heap.size):Ret Tryz.prog 129 [.int .i64 4,.agg #[.int .i64 2024,.int .i64 4,.int .i64 6]] w [] d (fun u d' w'=>∃ (v0:Value),u=.tuple #[v0,.int .i64 pNew1.2]∧PtrD pYearTy d' w' v0 pNew1.1):=by
 refine ret_enter (n:=64) Tryz.func129 Z Z (ble Z) ?_
 have hI0:=Inv.start hd
 refine csr ((g_e (ev_box hI0 Z) Z Z ?_))
 rintro _ w1 ⟨b4,rfl,hI2,hle3⟩
 refine GA Y (GA Y (gnx ((c_seq (csr ((GM Y ?_)))))))
 have a5:=pNominal_c (freq:=4) hI2.lt
 have a6:pNominal 4=12:=by decide
 rw [a6] at a5
 refine g_e (ev_pure hI2 pf_151 Z a5) Z Z ?_
 rintro _ c6 ⟨c7,a2,c8,rfl⟩
 refine g_y (y_eql Z Z) Z Z (gnx ((c_condF Z (c_skip (x_next (csr ((g_y (y_loadA (cs:=[.int .i64 2024,.int .i64 4,.int .i64 6]) sh_242 Z ((blk_cells a2 m0).part (f:=0) (.take _ (.take _ (.take _ (.nil _)))))) Z Z ?_))))))))
 have a7:=dMonths_c (a:=(⟨2024,4,6⟩:Date)) (months:=12) a2.lt
 have a8:dMonths ((⟨2024,4,6⟩:Date)) 12=((⟨2025,4,6⟩:Date),0):=by decide
 rw [a8] at a7
 refine g_e (ev_pure a2 pf_200 Z a7) Z Z ?_
 rintro _ c9 ⟨d0,b7,d1,rfl⟩
 refine GM Y (g_y (y_extract Z Z) Z Z (g_y (y_extract Z Z) Z Z (g_e (ev_alloc b7 ze_242) Z Z ?_)))
 rintro _ d2 ⟨d3,rfl,b8,d4⟩
 refine g_e (ev_store b8 Z Z Z sz_242 Z (.here _ _ (.here _ _ (.here _ _ (.nil _)))) (.hd _)) Z Z ?_
 rintro _ d5 ⟨a0,d6⟩
 refine GA Y (gnx ((c_seq (csr ((GM Y (g_y (y_neq Z Z) Z Z (GM Y (gfa fo_242_1 Z Z Z (gld sh_3 Z a0 m1 (i:=1) Z Z Z (g_y (y_eql Z Z) Z Z (GM Y (gsk Z Z ?_)))))))))))))
 refine gsk Z Z (gsk Z Z (g_y (y_pickF Z Z) Z Z (g_y (y_pickF Z Z) Z Z (gnx ((c_condF Z (c_skip (x_next (csr ((g_y (y_loadA (cs:=[.int .i64 2025,.int .i64 4,.int .i64 6]) sh_242 Z ((blk_cells a0 m0).part (f:=0) (.take _ (.take _ (.take _ (.nil _)))))) Z Z ?_)))))))))))
 have a9:=dAdd1_c a0.lt
 have b0:dAdd1=((⟨2025,4,5⟩:Date),0):=by decide
 rw [b0] at a9
 refine g_e (ev_pure a0 pf_201 Z a9) Z Z ?_
 rintro _ d7 ⟨d8,b9,d9,rfl⟩
 refine GM Y (g_y (y_extract Z Z) Z Z (g_y (y_extract Z Z) Z Z (g_e (ev_alloc b9 ze_242) Z Z ?_)))
 rintro _ e0 ⟨e1,rfl,c0,e2⟩
 refine g_e (ev_store c0 Z Z Z sz_242 Z (.here _ _ (.here _ _ (.here _ _ (.nil _)))) (.hd _)) Z Z ?_
 rintro _ e3 ⟨a3,e4⟩
 refine GA Y (gnx ((c_seq (csr ((GM Y (g_y (y_neq Z Z) Z Z (gnx ((c_condF Z (c_skip (x_next (c_seq ?_)))))))))))))
 refine c_region (GM Y (g_y (y_loadA (cs:=[.int .i64 2024,.int .i64 4,.int .i64 6]) sh_242 Z ((blk_cells a3 m2).part (f:=0) (.take _ (.take _ (.take _ (.nil _)))))) Z Z (g_y (y_loadA (cs:=[.int .i64 2025,.int .i64 4,.int .i64 5]) sh_242 Z ((blk_cells a3 m0).part (f:=0) (.take _ (.take _ (.take _ (.nil _)))))) Z Z (g_y (y_build ze_273 pl_273 (.cons Z Z Z Z (.here _ _ (.nil _)) (ble Z) (.cons Z Z Z Z (.next _ (.here _ _ (.here _ _ (.here _ _ (.nil _))))) (ble Z) (.cons Z Z Z Z (.next _ (.next _ (.next _ (.next _ (.here _ _ (.here _ _ (.here _ _ (.nil _)))))))) (ble Z) (.nil _))))) Z Z (g_e (ev_box a3 Z) Z Z ?_)))))
 rintro _ e5 ⟨e6,rfl,a4,e7⟩
 refine GA Y (gnx ((csr ((GM Y (g_y (y_loadA (cs:=[.int .i64 2024,.int .i64 4,.int .i64 6]) sh_242 Z ((blk_cells a4 m3).part (f:=0) (.take _ (.take _ (.take _ (.nil _)))))) Z Z ?_))))))
 have b1:=dNumber_c (a:=(⟨2024,4,6⟩:Date)) a4.lt
 have b2:dNumber ((⟨2024,4,6⟩:Date))=(45386,0):=by decide
 rw [b2] at b1
 refine g_e (ev_pure a4 pf_202 Z b1) Z Z ?_
 rintro _ e8 ⟨e9,c1,f0,rfl⟩
 refine GM Y (g_y (y_extract Z Z) Z Z (g_y (y_extract Z Z) Z Z (g_y (y_nilCheck Z) Z Z (gfa fo_273_3 Z Z Z (g_e (ev_store c1 Z Z Z sz_3 Z (.next _ (.next _ (.next _ (.next _ (.next _ (.next _ (.next _ (.here _ _ (.nil _))))))))) (.hd _)) Z Z ?_)))))
 rintro _ f1 ⟨a1,f2⟩
 refine gnx ((csr ((g_y (y_loadA (cs:=[.int .i64 2024,.int .i64 4,.int .i64 6]) sh_242 Z ((blk_cells a1 m3).part (f:=0) (.take _ (.take _ (.take _ (.nil _)))))) Z Z (g_y (y_loadA (cs:=[.int .i64 2025,.int .i64 4,.int .i64 6]) sh_242 Z ((blk_cells a1 m2).part (f:=0) (.take _ (.take _ (.take _ (.nil _)))))) Z Z ?_)))))
 have b3:=dBetween_c (a:=(⟨2024,4,6⟩:Date)) (b:=(⟨2025,4,6⟩:Date)) a1.lt
 have b5:dBetween ((⟨2024,4,6⟩:Date)) ((⟨2025,4,6⟩:Date))=(365,0):=by decide
 rw [b5] at b3
 refine g_e (ev_pure a1 pf_203 Z b3) Z Z ?_
 rintro _ f3 ⟨f4,c2,f5,rfl⟩
 refine GM Y (g_y (y_extract Z Z) Z Z (g_y (y_extract Z Z) Z Z (GA Y (GA Y (gnx ((csr ((GM Y (GM Y (g_y (y_nilCheck Z) Z Z (gfa fo_273_4 Z Z Z (g_e (ev_store c2 Z Z Z sz_3 Z (.next _ (.next _ (.next _ (.next _ (.next _ (.next _ (.next _ (.next _ (.here _ _ (.nil _)))))))))) (.hd _)) Z Z ?_)))))))))))))
 rintro _ f6 ⟨c3,f7⟩
 refine gnx ((csr ((GM Y (GM Y (GA Y (GA Y (gnx ((c_ret ?_))))))))))
 obtain ⟨f8,b6,f9,c4⟩:=pub_blk c3 (.hd _) (by simp)
 have c5:pNew1=((⟨4,(⟨2024,4,6⟩:Date),(⟨2025,4,5⟩:Date),45386,365⟩:PYear),0):=ET (BE a6) (ET (BE a8) (ET (BE b0) (ET (BE b2) (ET (BE b5) (rfl)))))
 refine x_ret ⟨_,_,rfl,rfl,⟨_,_,rfl,rfl,rfl⟩⟩ (⟨_,_,rfl,b6.fr,b6.grow,by rw [c5]; exact ⟨_,rfl,⟨_,_,rfl,c4,rfl⟩⟩⟩)
end Go.Proofs.YtclblpmjamcknaaGreat
