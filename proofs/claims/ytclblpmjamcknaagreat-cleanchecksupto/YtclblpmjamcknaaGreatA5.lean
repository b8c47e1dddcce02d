import Derived.Test.YtclblpmjamcknaaGreatA4
set_option linter.unusedVariables false
set_option linter.unusedSimpArgs false
set_option maxRecDepth 8000
set_option maxHeartbeats 1000000
namespace Go.Proofs.YtclblpmjamcknaaGreat
open Go.Sx
theorem pLength_nn (f:Int):0≤pLength f:=by
 unfold pLength
 repeat' (first | split | (simp only [bnd]; split))
 all_goals first | omega | decide
def pyCount (y:PYear):Int:=
 (bnd (pLength y.freq) fun r6=>
 (if (r6=0) then (bnd (pNominal y.freq) fun a0=>
 a0)
 else (wI ((wI ((wI (y.days + r6)) - 1)).tdiv r6))))
theorem pyCount_c {y:PYear} {v_y:Value} {d:Dat} {w:World} (hd:∀ b,d b→b < w.heap.size) (h_y:PtrD pYearTy d w v_y y):Ret Tryz.prog 66 [v_y] w [] d (fun u d' w'=>u=.int .i64 ((pyCount y))):=by
 obtain ⟨b1,cs2,rfl,hc3,hr4⟩:=h_y
 obtain rfl:=hr4
 refine ret_enter (n:=25) Tryz.func66 Z Z (ble Z) ?_
 have hI0:=Inv.start hd
 refine csr ((GA Y (gnx ((csr ((GM Y (g_y (y_nilCheck Z) Z Z (gfa fo_273_0 Z Z Z (g_y (y_load1 sh_3 Z (hc3.cells.nth_ (i:=0) Z)) Z Z ?_))))))))))
 have hq5:=pLength_c (freq:=y.freq) hI0.lt
 obtain ⟨r6,hr7⟩:∃ r,pLength y.freq=r:=⟨_,rfl⟩
 rw [hr7] at hq5
 refine g_e (ev_pure hI0 pf_150 Z hq5) Z Z ?_
 rintro _ w9 ⟨d8,a1,a2,rfl⟩
 refine GA Y (gnx ((c_seq (csr ((GM Y (g_y (y_eql Z Z) Z Z (gnx ((c_cond Z (fun a0=>?_) (fun a0=>?_)))))))))))
 ·replace a0:=OT a0
  refine csr ((GM Y (g_y (y_nilCheck Z) Z Z (gfa fo_273_0 Z Z Z (g_y (y_load1 sh_3 Z ((hc3.mono a2).cells.nth_ (i:=0) Z)) Z Z ?_)))))
  have a3:=pNominal_c (freq:=y.freq) a1.lt
  obtain ⟨a6,a4⟩:∃ r,pNominal y.freq=r:=⟨_,rfl⟩
  rw [a4] at a3
  refine g_e (ev_pure a1 pf_151 Z a3) Z Z ?_
  rintro _ a9 ⟨b0,a5,b2,rfl⟩
  refine GA Y (gnx ((c_ret ?_)))
  have a7:pyCount y=a6:=ET (BE hr7) (ET (IP a0) (ET (BE a4) (rfl)))
  refine x_thenR (x_ret ⟨_,_,rfl,rfl,rfl⟩ ?_)
  exact ⟨_,_,rfl,a5.fr,a5.grow,by rw [a7]; exact rfl⟩
 ·replace a0:=OF a0
  refine c_skip (x_next (csr ((GM Y (g_y (y_nilCheck Z) Z Z (gfa fo_273_4 Z Z Z (g_y (y_load1 sh_3 Z ((hc3.mono a2).cells.nth_ (i:=8) Z)) Z Z (GM Y (g_y (y_addW Z Z) Z Z (g_y (y_subW Z Z) Z Z (GM Y (g_y (y_quoW Z Z (by have h9:=pLength_nn y.freq; omega)) Z Z (GA Y ?_)))))))))))))
  refine gnx ((c_ret ?_))
  have a8:pyCount y=(wI ((wI ((wI (y.days + r6)) - 1)).tdiv r6)):=ET (BE hr7) (ET (IN a0) (rfl))
  refine x_ret ⟨_,_,rfl,rfl,rfl⟩ (⟨_,_,rfl,a1.fr,a1.grow,by rw [a8]; exact rfl⟩)
def pyPart (y:PYear) (k:Int):Int × Int × Int:=
 (if (k < 1) then (0,0,1)
 else (bnd (pyCount y) fun a0=>
 (if (a0 < k) then (0,0,1)
 else (bnd (pNominal y.freq) fun a1=>
 (bnd (pNominal y.freq) fun a2=>
 ((min k a1),a2,0))))))
theorem pyPart_c {y:PYear} {v_y:Value} {k:Int} {d:Dat} {w:World} (hd:∀ b,d b→b < w.heap.size) (h_y:PtrD pYearTy d w v_y y):Ret Tryz.prog 261 [v_y,.int .i64 k] w [] d (fun u d' w'=>u=.tuple #[.int .i64 ((pyPart y k).1),.int .i64 ((pyPart y k).2.1),.int .i64 ((pyPart y k).2.2)]):=by
 obtain ⟨b1,cs2,rfl,hc3,hr4⟩:=h_y
 obtain rfl:=hr4
 refine ret_enter (n:=27) Tryz.func261 Z Z (ble Z) ?_
 have hI0:=Inv.start hd
 refine csr ((GA Y (GA Y (GA Y (gnx ((c_seq (csr ((GM Y (g_y (y_lss Z Z) Z Z (GM Y (g_split (t:=9) Z (fun a0=>?_) (fun a0=>?_))))))))))))))
 ·replace a0:=OT a0
  refine gsk Z Z (gsk Z Z (gsk Z Z (gsk Z Z (g_y (y_pickT Z Z) Z Z (gnx ((c_condT Z (csr ((GA Y (GA Y (GA Y (g_nil ?_)))))))))))))
  refine x_next (c_ret ?_)
  have b5:pyPart y k=(0,0,1):=ET (IP a0) (rfl)
  refine x_thenR (x_ret ⟨_,_,rfl,rfl,⟨_,_,rfl,rfl,⟨_,_,rfl,rfl,rfl⟩⟩⟩ ?_)
  exact ⟨_,_,rfl,hI0.fr,hI0.grow,by rw [b5]; exact rfl⟩
 ·replace a0:=OF a0
  refine GM Y (GM Y ?_)
  have a7:=pyCount_c (y:=y) hI0.lt (show PtrD pYearTy _ _ _ y from ⟨_,_,rfl,hc3,rfl⟩)
  obtain ⟨c6,a2⟩:∃ r,pyCount y=r:=⟨_,rfl⟩
  rw [a2] at a7
  refine g_e (ev_pure hI0 pf_66 Z a7) Z Z ?_
  rintro _ b6 ⟨b7,a3,a8,rfl⟩
  refine g_y (y_gtr Z Z) Z Z (g_y (y_pickF Z Z) Z Z (gnx ((c_cond Z (fun a1=>?_) (fun a1=>?_)))))
  ·replace a1:=OT a1
   refine csr ((GA Y (GA Y (GA Y (gnx ((c_ret ?_)))))))
   have b8:pyPart y k=(0,0,1):=ET (IN a0) (ET (BE a2) (ET (IP a1) (rfl)))
   refine x_thenR (x_ret ⟨_,_,rfl,rfl,⟨_,_,rfl,rfl,⟨_,_,rfl,rfl,rfl⟩⟩⟩ ?_)
   exact ⟨_,_,rfl,a3.fr,a3.grow,by rw [b8]; exact rfl⟩
  ·replace a1:=OF a1
   refine c_skip (x_next (c_seq ?_))
   have a4:=a3.drew; have a9:=Le.drew b7 b6
   refine c_drawK 13 follows_mixed a4 (k_y 0 (by kernel_rfl) Z Z Z (fun _ _=>(y_move Z)) (k_y 1 (by kernel_rfl) Z Z Z (fun _ _=>(y_move Z)) (k_y 2 (by kernel_rfl) Z Z Z (fun _ _=>(y_nilCheck Z)) (k_y 3 (by kernel_rfl) Z Z Z (fun _ _=>(y_fieldAddr fo_273_0 Z)) (k_y 4 (by kernel_rfl) Z Z Z (fun c7 ⟨c8,c9,b9⟩=>(y_load1 sh_3 Z ((hc3.mono ((a8.t a9).t b9)).cells.nth_ (i:=0) Z))) (k_y 7 (by kernel_rfl) Z Z Z (fun _ _=>(y_move Z)) (k_y 8 (by kernel_rfl) Z Z Z (fun _ _=>(y_nilCheck Z)) (k_y 9 (by kernel_rfl) Z Z Z (fun _ _=>(y_fieldAddr fo_273_0 Z)) (k_y 10 (by kernel_rfl) Z Z Z (fun d0 ⟨d1,d2,c0⟩=>(y_load1 sh_3 Z ((hc3.mono ((a8.t a9).t c0)).cells.nth_ (i:=0) Z))) (k_all (is:=[5]) (by kernel_rfl) (by simp) (.cons ?_ .nil)))))))))))
   have b0:=pNominal_c (freq:=y.freq) a4.lt
   obtain ⟨c1,b2⟩:∃ r,pNominal y.freq=r:=⟨_,rfl⟩
   rw [b2] at b0
   refine k_op Z Z Z (ev_pure a4 pf_151 Z b0) ?_
   rintro _ d3 ⟨d4,a5,c2,rfl⟩
   refine k_next a5 c2 (k_y 6 (by kernel_rfl) Z Z Z (fun _ _=>(y_min Z Z)) (k_all (is:=[11]) (by kernel_rfl) (by simp) (.cons ?_ .nil)))
   have b3:=pNominal_c (freq:=y.freq) a5.lt
   obtain ⟨c3,b4⟩:∃ r,pNominal y.freq=r:=⟨_,rfl⟩
   rw [b4] at b3
   refine k_op Z Z Z (ev_pure a5 pf_151 Z b3) ?_
   rintro _ d5 ⟨d6,a6,c4,rfl⟩
   refine k_next a6 c4 (k_y 12 (by kernel_rfl) Z Z Z (fun _ _=>(y_assign Z)) (k_all (is:=[13]) (by kernel_rfl) (by simp) (.cons ?_ .nil)))
   refine k_op Z Z Z (Ev.of_y2 (y_assign Z)) ?_
   rintro _ _ ⟨rfl,rfl⟩
   refine k_bar (b_all (i:=14) (by kernel_rfl) (by kernel_rfl) (k_op Z Z Z (Ev.of_y2 (y_assign Z)) ?_))
   rintro _ _ ⟨rfl,rfl⟩
   refine k_bar (b_done (by kernel_rfl) (x_draw ?_) (by kernel_rfl))
   refine x_next (c_ret ?_)
   have c5:pyPart y k=((min k c1),c3,0):=ET (IN a0) (ET (BE a2) (ET (IN a1) (ET (BE b2) (ET (BE b4) (rfl)))))
   refine x_ret ⟨_,_,rfl,rfl,⟨_,_,rfl,rfl,⟨_,_,rfl,rfl,rfl⟩⟩⟩ (⟨_,_,rfl,a6.fr,a6.grow,by rw [c5]; exact rfl⟩)
def tNext (t:Table) (y:PYear) (k:Int) (s:TStep) (taxable:Int) (ahead:Int):Int × Int:=
 (bnd (pyPart y k) fun a0=>
 (if (a0.2.2≠0) then (0,a0.2.2)
 else (cond s.code.alone ((bnd (tDue t s.code s.taxable 1 a0.2.1) fun a1=>
 (if (a1.2≠0) then (0,a1.2)
 else (bnd (mAdd ahead a1.1) fun a2=>
 (a2.1,a2.2)))))
 ((bnd (tDue t s.code taxable a0.1 a0.2.1) fun a3=>
 (a3.1,a3.2))))))
theorem tNext_c {t:Table} {cs_t:List Value} {y:PYear} {v_y:Value} {k:Int} {s:TStep} {taxable:Int} {ahead:Int} {d:Dat} {w:World} (hd:∀ b,d b→b < w.heap.size) (h_t:tableTy.rel d w t cs_t) (h_y:PtrD pYearTy d w v_y y):Ret Tryz.prog 207 [.agg cs_t.toArray,v_y,.int .i64 k,.agg #[.int .i64 s.code.scheme,.int .i64 s.code.kind,.int .i64 s.code.amount,.int .i64 s.code.flat,.bool s.code.alone,.int .i64 s.taxable],.int .i64 taxable,.int .i64 ahead] w [] d (fun u d' w'=>u=.tuple #[.int .i64 ((tNext t y k s taxable ahead).1),.int .i64 ((tNext t y k s taxable ahead).2)]):=by
 obtain ⟨v1,v2,v3,rfl,hS4,hS5,hS6⟩:=h_t
 obtain ⟨A7,c8,rfl,hn9,d5⟩:=hS4.fm
 obtain ⟨b2,b3,rfl,d6,d7⟩:=hS5.fm
 obtain ⟨b4,b5,rfl,d8,d9⟩:=hS6.fm
 obtain ⟨e0,e1,rfl,c7,c9⟩:=h_y
 obtain rfl:=c9
 refine ret_enter (n:=59) Tryz.func207 Z Z (ble Z) ?_
 have hI0:=Inv.start hd
 refine csr ((g_e (ev_box hI0 Z) Z Z ?_))
 rintro _ e2 ⟨e3,rfl,d0,a3⟩
 refine g_e (ev_box d0 Z) Z Z ?_
 rintro _ e4 ⟨e5,rfl,b6,a4⟩
 refine GA Y (GA Y (gnx ((csr ((GM Y (GM Y ?_)))))))
 have b7:=pyPart_c (y:=y) (k:=k) b6.lt (show PtrD pYearTy _ _ _ y from ⟨_,_,rfl,(c7.mono (a3.t a4)),rfl⟩)
 obtain ⟨a5,a8⟩:∃ r,pyPart y k=r:=⟨_,rfl⟩
 rw [a8] at b7
 refine g_e (ev_pure b6 pf_261 Z b7) Z Z ?_
 rintro _ e6 ⟨e7,a0,a7,rfl⟩
 refine GM Y (g_y (y_extract Z Z) Z Z (g_y (y_extract Z Z) Z Z (g_y (y_extract Z Z) Z Z (GA Y (GA Y (GA Y (gnx ((c_seq (csr ((GM Y (g_y (y_neq Z Z) Z Z ?_)))))))))))))
 refine gnx ((c_cond Z (fun a1=>?_) (fun a1=>?_)))
 ·replace a1:=OT a1
  refine csr ((GM Y (GA Y (GA Y (gnx ((c_ret ?_)))))))
  have d1:tNext t y k s taxable ahead=(0,a5.2.2):=ET (BE a8) (ET (IP a1) (rfl))
  refine x_thenR (x_ret ⟨_,_,rfl,rfl,⟨_,_,rfl,rfl,rfl⟩⟩ ?_)
  exact ⟨_,_,rfl,a0.fr,a0.grow,by rw [d1]; exact rfl⟩
 ·replace a1:=OF a1
  refine c_skip (x_next (c_seq (csr ((gfa fo_248_0 Z Z Z (gfa fo_28_4 Z Z Z (gld sh_4 Z a0 m0 (i:=4) Z Z Z (g_y (y_not Z) Z Z (gnx ((c_cond Z (fun a2=>?_) (fun a2=>?_))))))))))))
  ·replace a2:=not_t a2
   refine csr ((g_y (y_loadA (cs:=[.slice A7 (t.schemes).length c8,.slice b2 (t.contribs).length b3,.slice b4 (t.kinds).length b5,.int .i64 t.limit,.int .i64 t.round]) sh_26 Z ((blk_cells a0 m1).part (f:=0) (.take _ (.take _ (.take _ (.take _ (.take _ (.nil _)))))))) Z Z (gfa fo_248_0 Z Z Z (g_y (y_loadA (cs:=[.int .i64 s.code.scheme,.int .i64 s.code.kind,.int .i64 s.code.amount,.int .i64 s.code.flat,.bool s.code.alone]) sh_28 Z ((blk_cells a0 m0).part (f:=0) (.take _ (.take _ (.take _ (.take _ (.take _ (.nil _)))))))) Z Z (GM Y (GM Y (GM Y ?_)))))))
   have b8:=tDue_c (t:=t) (c:=s.code) (taxable:=taxable) (n:=a5.1) (q:=a5.2.1) a0.lt (show tableTy.rel _ _ t _ from ⟨_,_,_,rfl,(hS4.mono ((a3.t a4).t a7)),(hS5.mono ((a3.t a4).t a7)),(hS6.mono ((a3.t a4).t a7))⟩)
   obtain ⟨b9,c0⟩:∃ r,tDue t s.code taxable a5.1 a5.2.1=r:=⟨_,rfl⟩
   rw [c0] at b8
   refine g_e (ev_pure a0 pf_262 Z b8) Z Z ?_
   rintro _ e8 ⟨e9,c1,f0,rfl⟩
   refine g_y (y_extract Z Z) Z Z (g_y (y_extract Z Z) Z Z (GA Y (GA Y (gnx ((c_ret ?_))))))
   have d2:tNext t y k s taxable ahead=(b9.1,b9.2):=ET (BE a8) (ET (IN a1) (ET (cond_f a2) (ET (BE c0) (rfl))))
   refine x_thenR (x_ret ⟨_,_,rfl,rfl,⟨_,_,rfl,rfl,rfl⟩⟩ ?_)
   exact ⟨_,_,rfl,c1.fr,c1.grow,by rw [d2]; exact rfl⟩
  ·replace a2:=not_f a2
   refine c_skip (x_next (csr ((g_y (y_loadA (cs:=[.slice A7 (t.schemes).length c8,.slice b2 (t.contribs).length b3,.slice b4 (t.kinds).length b5,.int .i64 t.limit,.int .i64 t.round]) sh_26 Z ((blk_cells a0 m1).part (f:=0) (.take _ (.take _ (.take _ (.take _ (.take _ (.nil _)))))))) Z Z (gfa fo_248_0 Z Z Z (g_y (y_loadA (cs:=[.int .i64 s.code.scheme,.int .i64 s.code.kind,.int .i64 s.code.amount,.int .i64 s.code.flat,.bool s.code.alone]) sh_28 Z ((blk_cells a0 m0).part (f:=0) (.take _ (.take _ (.take _ (.take _ (.take _ (.nil _)))))))) Z Z (gfa fo_248_1 Z Z Z (gld sh_2 Z a0 m0 (i:=5) Z Z Z (GM Y ?_)))))))))
   have c2:=tDue_c (t:=t) (c:=s.code) (taxable:=s.taxable) (n:=1) (q:=a5.2.1) a0.lt (show tableTy.rel _ _ t _ from ⟨_,_,_,rfl,(hS4.mono ((a3.t a4).t a7)),(hS5.mono ((a3.t a4).t a7)),(hS6.mono ((a3.t a4).t a7))⟩)
   obtain ⟨b0,b1⟩:∃ r,tDue t s.code s.taxable 1 a5.2.1=r:=⟨_,rfl⟩
   rw [b1] at c2
   refine g_e (ev_pure a0 pf_262 Z c2) Z Z ?_
   rintro _ f1 ⟨f2,a9,f3,rfl⟩
   refine GM Y (g_y (y_extract Z Z) Z Z (g_y (y_extract Z Z) Z Z (GA Y (GA Y (gnx ((c_seq (csr ((GM Y (g_y (y_neq Z Z) Z Z (gnx (?_)))))))))))))
   refine c_cond Z (fun a6=>?_) (fun a6=>?_)
   ·replace a6:=OT a6
    refine csr ((GM Y (GA Y (GA Y (gnx ((c_ret ?_)))))))
    have d3:tNext t y k s taxable ahead=(0,b0.2):=ET (BE a8) (ET (IN a1) (ET (cond_t a2) (ET (BE b1) (ET (IP a6) (rfl)))))
    refine x_thenR (x_ret ⟨_,_,rfl,rfl,⟨_,_,rfl,rfl,rfl⟩⟩ ?_)
    exact ⟨_,_,rfl,a9.fr,a9.grow,by rw [d3]; exact rfl⟩
   ·replace a6:=OF a6
    refine c_skip (x_next (csr ((GM Y (GM Y ?_)))))
    have c3:=mAdd_c (a:=ahead) (b:=b0.1) a9.lt
    obtain ⟨c4,c5⟩:∃ r,mAdd ahead b0.1=r:=⟨_,rfl⟩
    rw [c5] at c3
    refine g_e (ev_pure a9 pf_116 Z c3) Z Z ?_
    rintro _ f4 ⟨f5,c6,f6,rfl⟩
    refine g_y (y_extract Z Z) Z Z (g_y (y_extract Z Z) Z Z (GA Y (GA Y (gnx ((c_ret ?_))))))
    have d4:tNext t y k s taxable ahead=(c4.1,c4.2):=ET (BE a8) (ET (IN a1) (ET (cond_t a2) (ET (BE b1) (ET (IN a6) (ET (BE c5) (rfl))))))
    refine x_ret ⟨_,_,rfl,rfl,⟨_,_,rfl,rfl,rfl⟩⟩ (⟨_,_,rfl,c6.fr,c6.grow,by rw [d4]; exact rfl⟩)
def tYear_l1 (t:Table) (y:PYear):List TStep→Nat→(List Int)→Int→Int→Out (List Int) ((List Int) × Int)
 | [],a2,a3,a4,a5=>(Out.next a3)
 | a6 :: tl1,a2,a3,a4,a5=>(bnd (mAdd a4 a6.taxable) fun a0=>
 (if (a0.2≠0) then (Out.ret ((([]:List Int),a0.2)))
 else (bnd (tNext t y (((a2:Int) + 1)) a6 a0.1 a5) fun a1=>
 (if (a1.2≠0) then (Out.ret ((([]:List Int),a1.2)))
 else (tYear_l1 t y tl1 (a2 + 1) ((a3 ++ [a1.1])) a0.1 a1.1)))))
def tYear (t:Table) (y:PYear) (list:(List TStep)):(List Int) × Int:=
 (bnd (pyCount y) fun a0=>
 (if (a0 < (list.length:Int)) then (([]:List Int),1)
 else (out (tYear_l1 t y list 0 (([]:List Int)) 0 0) fun a1=>
 (a1,0))))
theorem tYear_c {t:Table} {cs_t:List Value} {y:PYear} {v_y:Value} {list:(List TStep)} {v_list:Value} {d:Dat} {w:World} (hd:∀ b,d b→b < w.heap.size) (h_t:tableTy.rel d w t cs_t) (h_y:PtrD pYearTy d w v_y y) (h_list:Sl tStepTy d w v_list list):Ret Tryz.prog 132 [.agg cs_t.toArray,v_y,v_list] w [] d (fun u d' w'=>∃ (v0:Value),u=.tuple #[v0,.int .i64 ((tYear t y list).2)]∧Sl intTy d' w' v0 (tYear t y list).1):=by
 obtain ⟨v1,v2,v3,rfl,hS4,hS5,hS6⟩:=h_t
 obtain ⟨A7,c8,rfl,hn9,i1⟩:=hS4.fm
 obtain ⟨d0,d1,rfl,i2,i3⟩:=hS5.fm
 obtain ⟨d2,d3,rfl,i4,i5⟩:=hS6.fm
 obtain ⟨f1,i6,rfl,e3,f2⟩:=h_y
 obtain rfl:=f2
 obtain ⟨f3,f4,rfl,i7,i8⟩:=h_list.fm
 refine ret_enter (n:=56) Tryz.func132 Z Z (ble Z) ?_
 have hI0:=Inv.start hd
 refine csr ((g_e (ev_box hI0 Z) Z Z ?_))
 rintro _ i9 ⟨d4,rfl,e4,b1⟩
 refine GA Y (GA Y (gnx ((c_seq (csr ((GM Y (gln el_243 Z Z Z (GM Y ?_)))))))))
 have e5:=pyCount_c (y:=y) e4.lt (show PtrD pYearTy _ _ _ y from ⟨_,_,rfl,(e3.mono b1),rfl⟩)
 obtain ⟨j0,b6⟩:∃ r,pyCount y=r:=⟨_,rfl⟩
 rw [b6] at e5
 refine g_e (ev_pure e4 pf_66 Z e5) Z Z ?_
 rintro _ e6 ⟨d5,d6,b7,rfl⟩
 refine g_y (y_gtr Z Z) Z Z (gnx ((c_cond Z (fun a5=>?_) (fun a5=>?_))))
 ·replace a5:=OT a5
  refine csr ((GA Y (GA Y (gnx ((c_ret ?_))))))
  have f5:tYear t y list=(([]:List Int),1):=ET (BE b6) (ET (IP a5) (rfl))
  refine x_thenR (x_ret ⟨_,_,rfl,rfl,⟨_,_,rfl,rfl,rfl⟩⟩ ?_)
  exact ⟨_,_,rfl,d6.fr,d6.grow,by rw [f5]; exact ⟨_,rfl,(Sl.nil_ _ _ _ none 0)⟩⟩
 ·replace a5:=OF a5
  refine c_skip (x_next (csr ((GA Y (gnx ((csr ((GA Y (GA Y (gnx ((c_seq ?_)))))))))))))
  refine csr ((GM Y (gln el_243 Z Z Z (GM Y (gnx (?_))))))
  have f6:=nil_row intTy 2 d6
  refine c_cut1 (ι:=List Int × Option Addr × Nat × Dat) (fun ⟨a6,c3,c4,c5⟩=>[(8,.slice c3 a6.length c4)]) (fun ⟨a6,c3,c4,c5⟩ d7=>Inv [] d w c5 [row intTy 2 (.slice c3 a6.length c4) (a6),blk d4 26 [.slice A7 (t.schemes).length c8,.slice d0 (t.contribs).length d1,.slice d2 (t.kinds).length d3,.int .i64 t.limit,.int .i64 t.round]] d7∧Le d5 e6 c5 d7∧tYear_l1 t y list 0 (([]:List Int)) 0 0=Out.next a6∧a6.length≤list.length) ?_ ?_
  ·refine c_block (c_loop (ι:=List Int × Option Addr × Nat × Int × Int × Nat × Dat) (fun ⟨a2,b2,b3,a3,a4,a0,b4⟩=>[(1,.pointer (some ⟨f1,0,none⟩)),(3,.pointer (some ⟨d4,0,none⟩)),(8,.slice b2 a2.length b3),(9,.int .i64 a3),(10,.int .i64 a4),(19,.slice f3 (list).length f4),(20,.int .i64 (list.length:Int)),(21,.int .i64 (a0:Int))]) (fun ⟨a2,b2,b3,a3,a4,a0,b4⟩ d8=>Inv [] d w b4 [row intTy 2 (.slice b2 a2.length b3) (a2),blk d4 26 [.slice A7 (t.schemes).length c8,.slice d0 (t.contribs).length d1,.slice d2 (t.kinds).length d3,.int .i64 t.limit,.int .i64 t.round]] d8∧Le d5 e6 b4 d8∧tYear_l1 t y list 0 (([]:List Int)) 0 0=tYear_l1 t y (list.drop a0) a0 a2 a3 a4∧a0≤list.length∧a2.length≤a0) (fun ⟨a2,b2,b3,a3,a4,a0,b4⟩=>list.length - a0) (([]:List Int),none,0,0,0,0,d5) (.cons Z (.cons Z (.cons Z (.cons Z (.cons Z (.cons Z (.cons Z (.cons Z (.nil _))))))))) ⟨f6,Le.refl _ _,rfl,Nat.zero_le _,by simp⟩ ?_)
   rintro ⟨a2,b2,b3,a3,a4,a0,b4⟩ d8 ⟨d9,a8,c6,j1,j2⟩
   have f7:=row_len (d9.ok _ m0); unfold big at f7
   refine csr ((g_y (y_lss Z Z) Z Z (gnx ((c_seq (c_cond Z (fun b8=>?_) (fun b8=>?_)))))))
   ·replace b8:=OT b8
    obtain ⟨a1,c7⟩:=has (xs:=list) (k:=a0) (by omega)
    refine c_skip (x_next (c_seq (c_block (csr ((GM Y ?_))))))
    obtain ⟨j3,j4,j5,f8,f9,g0,j6⟩:=Sl.at_ (h_list.mono ((b1.t b7).t a8)) c7
    obtain rfl:=f9
    refine g_y (y_indexAddr (i:=a0) el_243 Z f8 Z (rfl) (by omega)) Z Z (g_y (y_loadA (cs:=[.int .i64 a1.code.scheme,.int .i64 a1.code.kind,.int .i64 a1.code.amount,.int .i64 a1.code.flat,.bool a1.code.alone,.int .i64 a1.taxable]) sh_248 Z (g0.part (f:=0) (.take _ (.take _ (.take _ (.take _ (.take _ (.take _ (.nil _))))))))) Z Z (g_e (ev_alloc d9 ze_248) Z Z ?_))
    rintro _ j7 ⟨j8,rfl,g1,b9⟩
    refine GA Y (g_e (ev_store g1 Z Z Z sz_248 Z (.here _ _ (.here _ _ (.here _ _ (.here _ _ (.here _ _ (.here _ _ (.nil _))))))) (.hd _)) Z Z ?_)
    rintro _ j9 ⟨e0,c0⟩
    refine gnx ((csr ((GA Y (gnx ((c_seq (csr ((GM Y (gfa fo_248_1 Z Z Z (gld sh_2 Z e0 m0 (i:=5) Z Z Z ?_))))))))))))
    have e7:=mAdd_c (a:=a3) (b:=a1.taxable) e0.lt
    obtain ⟨c1,c9⟩:∃ r,mAdd a3 a1.taxable=r:=⟨_,rfl⟩
    rw [c9] at e7
    refine g_e (ev_pure e0 pf_116 Z e7) Z Z ?_
    rintro _ k0 ⟨k1,b5,c2,rfl⟩
    refine GM Y (g_y (y_extract Z Z) Z Z (g_y (y_extract Z Z) Z Z (GA Y (GA Y (gnx ((csr ((GM Y (g_y (y_neq Z Z) Z Z (gnx ((c_cond Z (fun a7=>?_) (fun a7=>?_))))))))))))))
    ·replace a7:=OT a7
     refine csr ((GM Y (GA Y (GA Y (gnx ((c_ret ?_)))))))
     have g2:tYear_l1 t y list 0 (([]:List Int)) 0 0=(Out.ret ((([]:List Int),c1.2))):=c6.trans (ET (congrArg (fun l=>tYear_l1 t y l a0 a2 a3 a4) (drop_cons c7)) (ET (BE c9) (ET (IP a7) (rfl))))
     have g3:tYear t y list=(([]:List Int),c1.2):=ET (BE b6) (ET (IN a5) (ET (out_ret g2) (rfl)))
     refine x_thenR (x_blockR (x_thenR (x_rndR (x_blockR (x_cutR (x_thenR (x_ret ⟨_,_,rfl,rfl,⟨_,_,rfl,rfl,rfl⟩⟩ ?_)))))))
     exact ⟨_,_,rfl,b5.fr,b5.grow,by rw [g3]; exact ⟨_,rfl,(Sl.nil_ _ _ _ none 0)⟩⟩
    ·replace a7:=OF a7
     refine c_skip (x_next (c_seq (csr ((g_y (y_loadA (cs:=[.slice A7 (t.schemes).length c8,.slice d0 (t.contribs).length d1,.slice d2 (t.kinds).length d3,.int .i64 t.limit,.int .i64 t.round]) sh_26 Z ((blk_cells b5 m2).part (f:=0) (.take _ (.take _ (.take _ (.take _ (.take _ (.nil _)))))))) Z Z (GM Y (GM Y (g_y (y_add Z Z (by omega)) Z Z (g_y (y_loadA (cs:=[.int .i64 a1.code.scheme,.int .i64 a1.code.kind,.int .i64 a1.code.amount,.int .i64 a1.code.flat,.bool a1.code.alone,.int .i64 a1.taxable]) sh_248 Z ((blk_cells b5 m0).part (f:=0) (.take _ (.take _ (.take _ (.take _ (.take _ (.take _ (.nil _))))))))) Z Z (GM Y (GM Y ?_)))))))))))
     have e8:=tNext_c (t:=t) (y:=y) (k:=((a0:Int) + 1)) (s:=a1) (taxable:=c1.1) (ahead:=a4) b5.lt (show tableTy.rel _ _ t _ from ⟨_,_,_,rfl,(hS4.mono (((((b1.t b7).t a8).t b9).t c0).t c2)),(hS5.mono (((((b1.t b7).t a8).t b9).t c0).t c2)),(hS6.mono (((((b1.t b7).t a8).t b9).t c0).t c2))⟩) (show PtrD pYearTy _ _ _ y from ⟨_,_,rfl,(e3.mono (((((b1.t b7).t a8).t b9).t c0).t c2)),rfl⟩)
     obtain ⟨a9,e1⟩:∃ r,tNext t y (((a0:Int) + 1)) a1 c1.1 a4=r:=⟨_,rfl⟩
     rw [e1] at e8
     refine g_e (ev_pure b5 pf_207 Z e8) Z Z ?_
     rintro _ k2 ⟨k3,e2,g4,rfl⟩
     refine GM Y (g_y (y_extract Z Z) Z Z (g_y (y_extract Z Z) Z Z (GA Y (GA Y (gnx ((csr ((GM Y (g_y (y_neq Z Z) Z Z (gnx ((c_cond Z (fun b0=>?_) (fun b0=>?_))))))))))))))
     ·replace b0:=OT b0
      refine csr ((GM Y (GA Y (GA Y (gnx ((c_ret ?_)))))))
      have g5:tYear_l1 t y list 0 (([]:List Int)) 0 0=(Out.ret ((([]:List Int),a9.2))):=c6.trans (ET (congrArg (fun l=>tYear_l1 t y l a0 a2 a3 a4) (drop_cons c7)) (ET (BE c9) (ET (IN a7) (ET (BE e1) (ET (IP b0) (rfl))))))
      have g6:tYear t y list=(([]:List Int),a9.2):=ET (BE b6) (ET (IN a5) (ET (out_ret g5) (rfl)))
      refine x_thenR (x_blockR (x_thenR (x_rndR (x_blockR (x_cutR (x_thenR (x_ret ⟨_,_,rfl,rfl,⟨_,_,rfl,rfl,rfl⟩⟩ ?_)))))))
      exact ⟨_,_,rfl,e2.fr,e2.grow,by rw [g6]; exact ⟨_,rfl,(Sl.nil_ _ _ _ none 0)⟩⟩
     ·replace b0:=OF b0
      refine c_skip (x_next (c_region (GM Y (GM Y (g_e (ev_buildSl (T:=intTy) (xs:=[a9.1]) e2 el_174 ze_2 Z Z (ble Z) (ble Z) (.cons Z Z Z Z (.here _ _ (.nil _)) (ble Z) (.nil _)) (.cons (x:=a9.1) (cs:=[.int .i64 a9.1]) Z .nil)) Z Z ?_)))))
      rintro _ k4 ⟨g7,g8,g9,h0,k5,rfl⟩
      refine g_e (ev_append g8 ei_174 Z Z m1 h0 (by simp only [LA,LC,LN,big] at *; omega) (by simp only [LA,LC,LN,big] at *; omega)) Z Z ?_
      rintro _ k6 ⟨h1,h2,h3,h4,rfl⟩
      have h5:=h1 _ (.tl _ (.hd _))
      refine GA Y (g_nil (x_blockN (x_next ?_)))
      refine c_region (g_y (y_add Z Z (by omega)) Z Z (GM Y (g_nil ?_)))
      have h6:=h5.drop (.hd _)
      refine x_round ((a2 ++ [a9.1]),h3,h4,c1.1,a9.1,a0 + 1,g7) (by dsimp only; omega) (.cons Z (.cons Z (.cons Z (.cons Z (.cons Z (.cons Z (.cons Z (.cons Z (.nil _))))))))) ⟨h6,((((((a8.t b9).t c0).t c2).t g4).t g9).t h2),c6.trans (ET (congrArg (fun l=>tYear_l1 t y l a0 a2 a3 a4) (drop_cons c7)) (ET (BE c9) (ET (IN a7) (ET (BE e1) (ET (IN b0) (rfl)))))),by omega,by first | omega | (simp only [LA,LC,LN] at *; omega)⟩
   ·replace b8:=OF b8
    refine c_exit (x_thenE (x_rndE (x_blockE (x_cut (a2,b2,b3,b4) (.cons Z (.nil _)) ⟨d9,a8,c6.trans (ET (congrArg (fun l=>tYear_l1 t y l a0 a2 a3 a4) (drop_nil (by omega))) (rfl)),by first | omega | (simp only [LA,LC,LN] at *; omega)⟩))))
  ·rintro ⟨a6,c3,c4,c5⟩ d7 ⟨e9,k7,h7,k8⟩
   have h8:=row_len (e9.ok _ m0); unfold big at h8
   refine x_next (csr ((GM Y (GA Y (GA Y (gnx ((c_ret ?_))))))))
   obtain ⟨k9,f0,l0,h9⟩:=pub_row e9 (.hd _) (by simp)
   have i0:tYear t y list=(a6,0):=ET (BE b6) (ET (IN a5) (ET (out_next h7) (rfl)))
   refine x_ret ⟨_,_,rfl,rfl,⟨_,_,rfl,rfl,rfl⟩⟩ (⟨_,_,rfl,f0.fr,f0.grow,by rw [i0]; exact ⟨_,rfl,h9⟩⟩)
end Go.Proofs.YtclblpmjamcknaaGreat
