import Derived.Test.YtclblpmjamcknaaGreatA1
import Derived.Test.YtclblpmjamcknaaGreatCore15
set_option linter.unusedVariables false
set_option linter.unusedSimpArgs false
set_option maxRecDepth 8000
set_option maxHeartbeats 1000000
namespace Go.Proofs.YtclblpmjamcknaaGreat
open Go.Sx
def kTax_m1 (a2:Nat) (a0:Int) (a3:Int) (a4:Int) (a5:Nat) (a1:Band):Int × Int × Int:=
 (if (a0 < a1.rate) then (a1.rate,(a2:Int),(a5:Int))
 else (a0,a3,a4))
def kTax_l2 (a4:Nat):List Band→Nat→Int→Int→Int→Int × Int × Int
 | [],a0,a1,a2,a3=>(a1,a2,a3)
 | a5 :: tl7,a0,a1,a2,a3=>(bnd (kTax_m1 a4 a1 a2 a3 a0 a5) fun ⟨a6,a7,a8⟩=>
 (kTax_l2 a4 tl7 (a0 + 1) a6 a7 a8))
def kTax_l1:List (List Band)→Nat→Int→Int→Int→Int × Int × Int
 | [],a0,a1,a2,a3=>(a1,a2,a3)
 | a4 :: tl1,a0,a1,a2,a3=>(bnd (kTax_l2 a0 a4 0 a1 a2 a3) fun ⟨a5,a6,a7⟩=>
 (kTax_l1 tl1 (a0 + 1) a5 a6 a7))
def kTax (t:Table):Int × Int × Int:=
 (bnd (kTax_l1 t.schemes 0 t.limit ((-1)) ((-1))) fun ⟨a0,a1,a2⟩=>
 (a0,a1,a2))
theorem kTax_c {t:Table} {cs_t:List Value} {d:Dat} {w:World} (hd:∀ b,d b→b < w.heap.size) (h_t:tableTy.rel d w t cs_t):Ret Tryz.prog 186 [.agg cs_t.toArray] w [] d (fun u d' w'=>u=.tuple #[.int .i64 ((kTax t).1),.int .i64 ((kTax t).2.1),.int .i64 ((kTax t).2.2)]):=by
 obtain ⟨v1,v2,v3,rfl,hS4,hS5,hS6⟩:=h_t
 obtain ⟨A7,c8,rfl,hn9,h3⟩:=hS4.fm
 obtain ⟨b2,b3,rfl,h4,h5⟩:=hS5.fm
 obtain ⟨b4,b5,rfl,h6,h7⟩:=hS6.fm
 refine ret_enter (n:=42) Tryz.func186 Z Z (ble Z) ?_
 have hI0:=Inv.start hd
 refine csr ((g_e (ev_box hI0 Z) Z Z ?_))
 rintro _ e2 ⟨b6,rfl,d6,f5⟩
 refine GA Y (GA Y (GA Y (gnx ((csr ((gfa fo_26_3 Z Z Z (gld sh_3 Z d6 m0 (i:=3) Z Z Z (GA Y (GA Y (GA Y (gnx (?_)))))))))))))
 refine c_seq (csr ((gfa fo_26_0 Z Z Z (gld sh_22 Z d6 m0 (i:=0) Z Z Z (gln el_22 Z Z Z (GM Y (gnx ((c_cut1 (ι:=Int × Int × Int × Dat) (fun ⟨b7,b8,b9,d3⟩=>[(5,.int .i64 b7),(6,.int .i64 b8),(7,.int .i64 b9)]) (fun ⟨b7,b8,b9,d3⟩ d7=>Inv [] d w d3 [blk b6 26 [.slice A7 (t.schemes).length c8,.slice b2 (t.contribs).length b3,.slice b4 (t.kinds).length b5,.int .i64 t.limit,.int .i64 t.round]] d7∧Le d e2 d3 d7∧kTax_l1 t.schemes 0 t.limit ((-1)) ((-1))=(b7,b8,b9)) ?_ ?_)))))))))
 ·refine c_block (c_loop (ι:=Int × Int × Int × Nat × Dat) (fun ⟨a2,a3,a4,a0,a9⟩=>[(5,.int .i64 a2),(6,.int .i64 a3),(7,.int .i64 a4),(15,.slice A7 (t.schemes).length c8),(16,.int .i64 (t.schemes.length:Int)),(17,.int .i64 (a0:Int))]) (fun ⟨a2,a3,a4,a0,a9⟩ c0=>Inv [] d w a9 [blk b6 26 [.slice A7 (t.schemes).length c8,.slice b2 (t.contribs).length b3,.slice b4 (t.kinds).length b5,.int .i64 t.limit,.int .i64 t.round]] c0∧Le d e2 a9 c0∧kTax_l1 t.schemes 0 t.limit ((-1)) ((-1))=kTax_l1 (t.schemes.drop a0) a0 a2 a3 a4∧a0≤t.schemes.length) (fun ⟨a2,a3,a4,a0,a9⟩=>t.schemes.length - a0) (t.limit,(-1),(-1),0,d) (.cons Z (.cons Z (.cons Z (.cons Z (.cons Z (.cons Z (.nil _))))))) ⟨d6,Le.refl _ _,rfl,Nat.zero_le _⟩ ?_)
  rintro ⟨a2,a3,a4,a0,a9⟩ c0 ⟨e3,d8,e4,h8⟩
  refine csr ((g_y (y_lss Z Z) Z Z (gnx ((c_seq (c_cond Z (fun c1=>?_) (fun c1=>?_)))))))
  ·replace c1:=OT c1
   obtain ⟨a5,e5⟩:=has (xs:=t.schemes) (k:=a0) (by omega)
   refine c_skip (x_next (c_seq (c_block (csr ((GM Y ?_))))))
   obtain ⟨h9,i0,i1,f6,f7,f8,i2⟩:=Sl.at_ (hS4.mono (f5.t d8)) e5
   obtain ⟨i3,rfl,e6⟩:=f7
   obtain ⟨e7,e8,rfl,i4,i5⟩:=e6.fm
   refine g_y (y_indexAddr (i:=a0) el_22 Z f6 Z (rfl) (by omega)) Z Z (g_y (y_load1 sh_34 Z (f8.nth_ (i:=0) Z)) Z Z (GA Y (GA Y (gnx ((csr ((GM Y (gln el_34 Z Z Z (GM Y (gnx ((c_cut1 (ι:=Int × Int × Int × Dat) (fun ⟨c2,c3,c4,c5⟩=>[(5,.int .i64 c2),(6,.int .i64 c3),(7,.int .i64 c4),(15,.slice A7 (t.schemes).length c8),(16,.int .i64 (t.schemes.length:Int)),(17,.int .i64 (a0:Int))]) (fun ⟨c2,c3,c4,c5⟩ d9=>Inv [] d w c5 [blk b6 26 [.slice A7 (t.schemes).length c8,.slice b2 (t.contribs).length b3,.slice b4 (t.kinds).length b5,.int .i64 t.limit,.int .i64 t.round]] d9∧Le a9 c0 c5 d9∧kTax_l2 a0 a5 0 a2 a3 a4=(c2,c3,c4)) ?_ ?_)))))))))))))
   ·refine c_block (c_loop (ι:=Int × Int × Int × Nat × Dat) (fun ⟨a6,a7,a8,a1,b0⟩=>[(5,.int .i64 a6),(6,.int .i64 a7),(7,.int .i64 a8),(8,.int .i64 (a0:Int)),(15,.slice A7 (t.schemes).length c8),(16,.int .i64 (t.schemes.length:Int)),(17,.int .i64 (a0:Int)),(22,.slice e7 (a5).length e8),(23,.int .i64 (a5.length:Int)),(24,.int .i64 (a1:Int))]) (fun ⟨a6,a7,a8,a1,b0⟩ d4=>Inv [] d w b0 [blk b6 26 [.slice A7 (t.schemes).length c8,.slice b2 (t.contribs).length b3,.slice b4 (t.kinds).length b5,.int .i64 t.limit,.int .i64 t.round]] d4∧Le a9 c0 b0 d4∧kTax_l2 a0 a5 0 a2 a3 a4=kTax_l2 a0 (a5.drop a1) a1 a6 a7 a8∧a1≤a5.length) (fun ⟨a6,a7,a8,a1,b0⟩=>a5.length - a1) (a2,a3,a4,0,a9) (.cons Z (.cons Z (.cons Z (.cons Z (.cons Z (.cons Z (.cons Z (.cons Z (.cons Z (.cons Z (.nil _))))))))))) ⟨e3,Le.refl _ _,rfl,Nat.zero_le _⟩ ?_)
    rintro ⟨a6,a7,a8,a1,b0⟩ d4 ⟨e9,e0,f0,i6⟩
    refine csr ((g_y (y_lss Z Z) Z Z (gnx ((c_seq (c_cond Z (fun c6=>?_) (fun c6=>?_)))))))
    ·replace c6:=OT c6
     obtain ⟨c7,f1⟩:=has (xs:=a5) (k:=a1) (by omega)
     refine c_skip (x_next (c_cut (ι:=Int × Int × Int × Dat) (fun ⟨c9,d0,d1,d2⟩=>[(5,.int .i64 c9),(6,.int .i64 d0),(7,.int .i64 d1),(8,.int .i64 (a0:Int)),(15,.slice A7 (t.schemes).length c8),(16,.int .i64 (t.schemes.length:Int)),(17,.int .i64 (a0:Int)),(22,.slice e7 (a5).length e8),(23,.int .i64 (a5.length:Int)),(24,.int .i64 (a1:Int))]) (fun ⟨c9,d0,d1,d2⟩ e1=>Inv [] d w d2 [blk b6 26 [.slice A7 (t.schemes).length c8,.slice b2 (t.contribs).length b3,.slice b4 (t.kinds).length b5,.int .i64 t.limit,.int .i64 t.round]] e1∧Le b0 d4 d2 e1∧kTax_m1 a0 a6 a7 a8 a1 c7=(c9,d0,d1)) ?_ ?_))
     ·refine c_block (csr ((GM Y ?_)))
      obtain ⟨i7,i8,i9,f9,g0,g1,j0⟩:=Sl.at_ (e6.mono e0) f1
      obtain rfl:=g0
      refine g_y (y_indexAddr (i:=a1) el_34 Z f9 Z (rfl) (by omega)) Z Z (g_y (y_loadA (cs:=[.int .i64 c7.frm,.int .i64 c7.rate,.int .i64 c7.emp]) sh_33 Z (g1.part (f:=0) (.take _ (.take _ (.take _ (.nil _)))))) Z Z (g_e (ev_alloc e9 ze_33) Z Z ?_))
      rintro _ j1 ⟨j2,rfl,g2,f2⟩
      refine GA Y (g_e (ev_store g2 Z Z Z sz_33 Z (.here _ _ (.here _ _ (.here _ _ (.nil _)))) (.hd _)) Z Z ?_)
      rintro _ j3 ⟨d5,f3⟩
      refine gnx ((csr ((gfa fo_33_1 Z Z Z (gld sh_3 Z d5 m0 (i:=1) Z Z Z (GM Y (g_y (y_gtr Z Z) Z Z (gnx ((c_cond Z (fun b1=>?_) (fun b1=>?_)))))))))))
      ·replace b1:=OT b1
       refine c_region (gfa fo_33_1 Z Z Z (gld sh_3 Z d5 m0 (i:=1) Z Z Z (GM Y (GM Y (GA Y (GA Y (GA Y (g_nil ?_))))))))
       have g3:=d5.drop (.hd _)
       refine x_blockN (x_cut (c7.rate,(a0:Int),(a1:Int),b0) (.cons Z (.cons Z (.cons Z (.cons Z (.cons Z (.cons Z (.cons Z (.cons Z (.cons Z (.cons Z (.nil _))))))))))) ⟨g3,(f2.t f3),ET (IP b1) (rfl)⟩)
      ·replace b1:=OF b1
       refine c_skip ?_
       have g4:=d5.drop (.hd _)
       refine x_blockN (x_cut (a6,a7,a8,b0) (.cons Z (.cons Z (.cons Z (.cons Z (.cons Z (.cons Z (.cons Z (.cons Z (.cons Z (.cons Z (.nil _))))))))))) ⟨g4,(f2.t f3),ET (IN b1) (rfl)⟩)
     ·rintro ⟨c9,d0,d1,d2⟩ e1 ⟨g5,g6,g7⟩
      refine c_region (g_y (y_add Z Z (by omega)) Z Z (GM Y (g_nil (x_round (c9,d0,d1,a1 + 1,d2) (by dsimp only; omega) (.cons Z (.cons Z (.cons Z (.cons Z (.cons Z (.cons Z (.cons Z (.cons Z (.cons Z (.cons Z (.nil _))))))))))) ⟨g5,(e0.t g6),f0.trans (ET (congrArg (fun l=>kTax_l2 a0 l a1 a6 a7 a8) (drop_cons f1)) (ET (BE g7) (rfl))),by omega⟩))))
    ·replace c6:=OF c6
     refine c_exit (x_thenE (x_rndE (x_blockE (x_cut (a6,a7,a8,b0) (.cons Z (.cons Z (.cons Z (.cons Z (.cons Z (.cons Z (.nil _))))))) ⟨e9,e0,f0.trans (ET (congrArg (fun l=>kTax_l2 a0 l a1 a6 a7 a8) (drop_nil (by omega))) (rfl))⟩))))
   ·rintro ⟨c2,c3,c4,c5⟩ d9 ⟨g8,g9,h0⟩
    refine x_blockN (x_next ?_)
    refine c_region (g_y (y_add Z Z (by omega)) Z Z (GM Y (g_nil (x_round (c2,c3,c4,a0 + 1,c5) (by dsimp only; omega) (.cons Z (.cons Z (.cons Z (.cons Z (.cons Z (.cons Z (.nil _))))))) ⟨g8,(d8.t g9),e4.trans (ET (congrArg (fun l=>kTax_l1 l a0 a2 a3 a4) (drop_cons e5)) (ET (BE h0) (rfl))),by omega⟩))))
  ·replace c1:=OF c1
   refine c_exit (x_thenE (x_rndE (x_blockE (x_cut (a2,a3,a4,a9) (.cons Z (.cons Z (.cons Z (.nil _)))) ⟨e3,d8,e4.trans (ET (congrArg (fun l=>kTax_l1 l a0 a2 a3 a4) (drop_nil (by omega))) (rfl))⟩))))
 ·rintro ⟨b7,b8,b9,d3⟩ d7 ⟨f4,j4,h1⟩
  refine x_next (csr ((GM Y (GM Y (GM Y (GA Y (GA Y (GA Y (gnx ((c_ret ?_)))))))))))
  have h2:kTax t=(b7,b8,b9):=ET (BE h1) (rfl)
  refine x_ret ⟨_,_,rfl,rfl,⟨_,_,rfl,rfl,⟨_,_,rfl,rfl,rfl⟩⟩⟩ (⟨_,_,rfl,f4.fr,f4.grow,by rw [h2]; exact rfl⟩)
def bTop_l1:List Band→Nat→Int→Int
 | [],a1,a0=>a0
 | a2 :: tl1,a1,a0=>(bTop_l1 tl1 (a1 + 1) ((max a0 a2.rate)))
def bTop (list:(List Band)):Int:=
 (bnd (bTop_l1 list 0 0) fun a0=>
 a0)
theorem bTop_c {list:(List Band)} {v_list:Value} {d:Dat} {w:World} (hd:∀ b,d b→b < w.heap.size) (h_list:Sl bandTy d w v_list list):Ret Tryz.prog 187 [v_list] w [] d (fun u d' w'=>u=.int .i64 ((bTop list))):=by
 obtain ⟨A1,c2,rfl,hn3,hb4⟩:=h_list.fm
 refine ret_enter (n:=18) Tryz.func187 Z Z (ble Z) ?_
 have hI0:=Inv.start hd
 refine csr ((GA Y (gnx ((csr ((GA Y (gnx ((c_seq (csr ((GM Y ?_)))))))))))))
 refine gln el_34 Z Z Z (GM Y (gnx ((c_cut1 (ι:=Int × Dat) (fun ⟨a3,a5⟩=>[(3,.int .i64 a3)]) (fun ⟨a3,a5⟩ a7=>Inv [] d w a5 [] a7∧Le d w a5 a7∧bTop_l1 list 0 0=a3) ?_ ?_))))
 ·refine c_block (c_loop (ι:=Int × Nat × Dat) (fun ⟨a1,a0,a2⟩=>[(3,.int .i64 a1),(6,.slice A1 (list).length c2),(7,.int .i64 (list.length:Int)),(8,.int .i64 (a0:Int))]) (fun ⟨a1,a0,a2⟩ a8=>Inv [] d w a2 [] a8∧Le d w a2 a8∧bTop_l1 list 0 0=bTop_l1 (list.drop a0) a0 a1∧a0≤list.length) (fun ⟨a1,a0,a2⟩=>list.length - a0) (0,0,d) (.cons Z (.cons Z (.cons Z (.cons Z (.nil _))))) ⟨hI0,Le.refl _ _,rfl,Nat.zero_le _⟩ ?_)
  rintro ⟨a1,a0,a2⟩ a8 ⟨b0,a9,b1,c5⟩
  refine csr ((g_y (y_lss Z Z) Z Z (gnx ((c_seq (c_cond Z (fun a4=>?_) (fun a4=>?_)))))))
  ·replace a4:=OT a4
   obtain ⟨a6,b2⟩:=has (xs:=list) (k:=a0) (by omega)
   refine c_skip (x_next (c_seq (c_block (csr (?_)))))
   obtain ⟨c6,c7,c8,b5,b6,b7,c9⟩:=Sl.at_ (h_list.mono a9) b2
   obtain rfl:=b6
   refine g_y (y_indexAddr (i:=a0) el_34 Z b5 Z (rfl) (by omega)) Z Z (g_y (y_loadA (cs:=[.int .i64 a6.frm,.int .i64 a6.rate,.int .i64 a6.emp]) sh_33 Z (b7.part (f:=0) (.take _ (.take _ (.take _ (.nil _)))))) Z Z (g_e (ev_alloc b0 ze_33) Z Z ?_))
   rintro _ d0 ⟨d1,rfl,b8,b9⟩
   refine g_e (ev_store b8 Z Z Z sz_33 Z (.here _ _ (.here _ _ (.here _ _ (.nil _)))) (.hd _)) Z Z ?_
   rintro _ d2 ⟨b3,c0⟩
   refine gnx ((c_region (GM Y (gfa fo_33_1 Z Z Z (gld sh_3 Z b3 m0 (i:=1) Z Z Z (g_y (y_max Z Z) Z Z (GA Y (g_nil (x_blockN (x_next ?_))))))))))
   refine c_region (g_y (y_add Z Z (by omega)) Z Z (GM Y (g_nil ?_)))
   have c1:=b3.drop (.hd _)
   refine x_round ((max a1 a6.rate),a0 + 1,a2) (by dsimp only; omega) (.cons Z (.cons Z (.cons Z (.cons Z (.nil _))))) ⟨c1,((a9.t b9).t c0),b1.trans (ET (congrArg (fun l=>bTop_l1 l a0 a1) (drop_cons b2)) (rfl)),by omega⟩
  ·replace a4:=OF a4
   refine c_exit (x_thenE (x_rndE (x_blockE (x_cut (a1,a2) (.cons Z (.nil _)) ⟨b0,a9,b1.trans (ET (congrArg (fun l=>bTop_l1 l a0 a1) (drop_nil (by omega))) (rfl))⟩))))
 ·rintro ⟨a3,a5⟩ a7 ⟨b4,d3,c3⟩
  refine x_next (csr ((GM Y (GA Y (gnx ((c_ret ?_)))))))
  have c4:bTop list=a3:=ET (BE c3) (rfl)
  refine x_ret ⟨_,_,rfl,rfl,rfl⟩ (⟨_,_,rfl,b4.fr,b4.grow,by rw [c4]; exact rfl⟩)
def clBand (s:(List Band)):(List Band):=
 (([]:List Band) ++ s)
theorem clBand_c {s:(List Band)} {v_s:Value} {d:Dat} {w:World} (hd:∀ b,d b→b < w.heap.size) (h_s:Sl bandTy d w v_s s):Ret Tryz.prog 212 [v_s] w [] d (fun u d' w'=>Fresh (row bandTy 33 u (clBand s)) d' w w'):=by
 obtain ⟨A1,c2,rfl,hn3,hb4⟩:=h_s.fm
 refine ret_enter (n:=8) Tryz.func212 Z Z (ble Z) ?_
 have hI0:=Inv.start hd
 refine csr ((GA Y (gnx ((c_seq (csr ((GM Y (g_y (y_slEqNil Tryz.underlying34 Z Z) Z Z (gnx ((c_cond Z (fun hc7=>?_) (fun hc7=>?_)))))))))))))
 ·have hn8:=Sl.none_nil h_s hc7
  refine csr ((GA Y (gnx ((c_ret ?_)))))
  have hI9:=nil_row bandTy 33 hI0
  have a1:clBand s=([]:List Band):=by rw [hn8]; rfl
  refine x_thenR (x_ret ⟨_,_,rfl,rfl,rfl⟩ ?_)
  exact ⟨_,_,rfl,hI9.fr,hI9.grow,by rw [a1]; exact hI9.fresh m0⟩
 ·skip
  refine c_skip (x_next (csr ((g_e (ev_buildRow (T:=bandTy) (xs:=([]:List Band)) hI0 el_34 ze_33 Z Z (ble Z) (ble Z) (.nil _) .nil) Z Z ?_))))
  rintro _ a6 ⟨a7,rfl,a2,a3⟩
  refine GM Y (g_e (ev_append a2 ei_34 Z Z m0 (h_s.mono a3) (by simp only [LA,LC,LN,big] at *; omega) (by simp only [LA,LC,LN,big] at *; omega)) Z Z ?_)
  rintro _ a8 ⟨a4,a9,b0,b1,rfl⟩
  have a0:=a4 _ (.hd _)
  refine GA Y (gnx ((c_ret ?_)))
  have a5:clBand s=(([]:List Band) ++ s):=rfl
  refine x_ret ⟨_,_,rfl,rfl,rfl⟩ (⟨_,_,rfl,a0.fr,a0.grow,by rw [a5]; exact a0.fresh m0⟩)
def pTotal_l1:List Share→Nat→Int→Int→Out (Int × Int) (Share × Int)
 | [],a4,a0,a1=>(Out.next ((a0,a1)))
 | a5 :: tl1,a4,a0,a1=>(bnd (mAdd a0 a5.ee) fun a2=>
 (if (a2.2≠0) then (Out.ret (((⟨0,0⟩:Share),a2.2)))
 else (bnd (mAdd a1 a5.er) fun a3=>
 (if (a3.2≠0) then (Out.ret (((⟨0,0⟩:Share),a3.2)))
 else (pTotal_l1 tl1 (a4 + 1) a2.1 a3.1)))))
def pTotal (list:(List Share)):Share × Int:=
 (out (pTotal_l1 list 0 0 0) fun ⟨a0,a1⟩=>
 ((⟨a0,a1⟩:Share),0))
theorem pTotal_c {list:(List Share)} {v_list:Value} {d:Dat} {w:World} (hd:∀ b,d b→b < w.heap.size) (h_list:Sl shareTy d w v_list list):Ret Tryz.prog 195 [v_list] w [] d (fun u d' w'=>u=.tuple #[.agg #[.int .i64 ((pTotal list).1.ee),.int .i64 ((pTotal list).1.er)],.int .i64 ((pTotal list).2)]):=by
 obtain ⟨A1,c2,rfl,hn3,hb4⟩:=h_list.fm
 refine ret_enter (n:=45) Tryz.func195 Z Z (ble Z) ?_
 have hI0:=Inv.start hd
 refine csr ((g_e (ev_alloc hI0 ze_68) Z Z ?_))
 rintro _ w5 ⟨b8,rfl,hI6,hle7⟩
 refine GA Y (gnx ((csr ((g_e (ev_alloc hI6 ze_68) Z Z ?_)))))
 rintro _ w9 ⟨b1,rfl,d3,d4⟩
 refine gnx ((c_seq (csr ((GM Y (gln el_48 Z Z Z (GM Y (gnx ((c_cut1 (ι:=Int × Int × Dat) (fun ⟨a5,a6,b2⟩=>[(2,.pointer (some ⟨b8,0,none⟩)),(4,.pointer (some ⟨b1,0,none⟩))]) (fun ⟨a5,a6,b2⟩ b7=>Inv [] d w b2 [blk b1 68 [.int .i64 a5,.int .i64 a6],blk b8 68 [.int .i64 0,.int .i64 0]] b7∧Le d w9 b2 b7∧pTotal_l1 list 0 0 0=Out.next ((a5,a6))) ?_ ?_))))))))))
 ·refine c_block (c_loop (ι:=Nat × Int × Int × Dat) (fun ⟨a0,a1,a2,a7⟩=>[(2,.pointer (some ⟨b8,0,none⟩)),(4,.pointer (some ⟨b1,0,none⟩)),(10,.slice A1 (list).length c2),(11,.int .i64 (list.length:Int)),(12,.int .i64 (a0:Int))]) (fun ⟨a0,a1,a2,a7⟩ b9=>Inv [] d w a7 [blk b1 68 [.int .i64 a1,.int .i64 a2],blk b8 68 [.int .i64 0,.int .i64 0]] b9∧Le d w9 a7 b9∧pTotal_l1 list 0 0 0=pTotal_l1 (list.drop a0) a0 a1 a2∧a0≤list.length) (fun ⟨a0,a1,a2,a7⟩=>list.length - a0) (0,0,0,d) (.cons Z (.cons Z (.cons Z (.cons Z (.cons Z (.nil _)))))) ⟨d3,Le.refl _ _,rfl,Nat.zero_le _⟩ ?_)
  rintro ⟨a0,a1,a2,a7⟩ b9 ⟨c8,c0,b3,f3⟩
  refine csr ((g_y (y_lss Z Z) Z Z (gnx ((c_seq (c_cond Z (fun a9=>?_) (fun a9=>?_)))))))
  ·replace a9:=OT a9
   obtain ⟨a8,b4⟩:=has (xs:=list) (k:=a0) (by omega)
   refine c_skip (x_next (c_seq (c_block (csr (?_)))))
   obtain ⟨f4,f5,f6,d5,d6,d7,f7⟩:=Sl.at_ (h_list.mono ((hle7.t d4).t c0)) b4
   obtain rfl:=d6
   refine g_y (y_indexAddr (i:=a0) el_48 Z d5 Z (rfl) (by omega)) Z Z (g_y (y_loadA (cs:=[.int .i64 a8.ee,.int .i64 a8.er]) sh_68 Z (d7.part (f:=0) (.take _ (.take _ (.nil _))))) Z Z (g_e (ev_alloc c8 ze_68) Z Z ?_))
   rintro _ f8 ⟨f9,rfl,d8,d9⟩
   refine g_e (ev_store d8 Z Z Z sz_68 Z (.here _ _ (.here _ _ (.nil _))) (.hd _)) Z Z ?_
   rintro _ g0 ⟨b5,e0⟩
   refine gnx ((csr ((gfa fo_68_0 Z Z Z (gld sh_2 Z b5 m1 (i:=0) Z Z Z (gfa fo_68_0 Z Z Z (gld sh_2 Z b5 m0 (i:=0) Z Z Z ?_)))))))
   have c9:=mAdd_c (a:=a1) (b:=a8.ee) b5.lt
   obtain ⟨c1,b6⟩:∃ r,mAdd a1 a8.ee=r:=⟨_,rfl⟩
   rw [b6] at c9
   refine g_e (ev_pure b5 pf_116 Z c9) Z Z ?_
   rintro _ g1 ⟨g2,b0,e1,rfl⟩
   refine GM Y (g_y (y_extract Z Z) Z Z (g_y (y_extract Z Z) Z Z (GA Y (GA Y (gnx ((c_seq (csr ((GM Y (g_y (y_neq Z Z) Z Z (gnx (?_)))))))))))))
   refine c_cond Z (fun a3=>?_) (fun a3=>?_)
   ·replace a3:=OT a3
    refine csr ((g_y (y_build ze_68 pl_68 (.nil _)) Z Z (GM Y (g_e (ev_store b0 Z Z Z sz_68 Z (.here _ _ (.here _ _ (.nil _))) (.tl _ (.tl _ (.hd _)))) Z Z ?_))))
    rintro _ g3 ⟨c3,g4⟩
    refine GA Y (gnx ((c_ret ?_)))
    have e2:pTotal_l1 list 0 0 0=(Out.ret (((⟨0,0⟩:Share),c1.2))):=b3.trans (ET (congrArg (fun l=>pTotal_l1 l a0 a1 a2) (drop_cons b4)) (ET (BE b6) (ET (IP a3) (rfl))))
    have e3:pTotal list=((⟨0,0⟩:Share),c1.2):=ET (out_ret e2) (rfl)
    refine x_thenR (x_blockR (x_thenR (x_rndR (x_blockR (x_cutR (x_thenR (x_ret ⟨_,_,_,rfl,rfl,blk_cells c3 m2,sh_68,⟨_,_,rfl,rfl,rfl⟩⟩ ?_)))))))
    exact ⟨_,_,rfl,c3.fr,c3.grow,by rw [e3]; exact rfl⟩
   ·replace a3:=OF a3
    refine c_skip (x_next (csr ((gfa fo_68_1 Z Z Z (gld sh_2 Z b0 m1 (i:=1) Z Z Z (gfa fo_68_1 Z Z Z (gld sh_2 Z b0 m0 (i:=1) Z Z Z ?_)))))))
    have d0:=mAdd_c (a:=a2) (b:=a8.er) b0.lt
    obtain ⟨c4,c5⟩:∃ r,mAdd a2 a8.er=r:=⟨_,rfl⟩
    rw [c5] at d0
    refine g_e (ev_pure b0 pf_116 Z d0) Z Z ?_
    rintro _ g5 ⟨e4,d1,e5,rfl⟩
    refine GM Y (g_y (y_extract Z Z) Z Z (g_y (y_extract Z Z) Z Z (GA Y (GA Y (gnx ((c_seq (csr ((GM Y (g_y (y_neq Z Z) Z Z (gnx (?_)))))))))))))
    refine c_cond Z (fun a4=>?_) (fun a4=>?_)
    ·replace a4:=OT a4
     refine csr ((g_y (y_build ze_68 pl_68 (.nil _)) Z Z (GM Y (g_e (ev_store d1 Z Z Z sz_68 Z (.here _ _ (.here _ _ (.nil _))) (.tl _ (.tl _ (.hd _)))) Z Z ?_))))
     rintro _ g6 ⟨c6,g7⟩
     refine GA Y (gnx ((c_ret ?_)))
     have e6:pTotal_l1 list 0 0 0=(Out.ret (((⟨0,0⟩:Share),c4.2))):=b3.trans (ET (congrArg (fun l=>pTotal_l1 l a0 a1 a2) (drop_cons b4)) (ET (BE b6) (ET (IN a3) (ET (BE c5) (ET (IP a4) (rfl))))))
     have e7:pTotal list=((⟨0,0⟩:Share),c4.2):=ET (out_ret e6) (rfl)
     refine x_thenR (x_blockR (x_thenR (x_rndR (x_blockR (x_cutR (x_thenR (x_ret ⟨_,_,_,rfl,rfl,blk_cells c6 m2,sh_68,⟨_,_,rfl,rfl,rfl⟩⟩ ?_)))))))
     exact ⟨_,_,rfl,c6.fr,c6.grow,by rw [e7]; exact rfl⟩
    ·replace a4:=OF a4
     refine c_skip (x_next (c_region (GM Y (GM Y (g_y (y_build ze_68 pl_68 (.cons Z Z Z Z (.here _ _ (.nil _)) (ble Z) (.cons Z Z Z Z (.next _ (.here _ _ (.nil _))) (ble Z) (.nil _)))) Z Z (g_e (ev_store d1 Z Z Z sz_68 Z (.here _ _ (.here _ _ (.nil _))) (.tl _ (.hd _))) Z Z ?_))))))
     rintro _ g8 ⟨e8,e9⟩
     refine g_nil (x_blockN (x_next ?_))
     refine c_region (g_y (y_add Z Z (by omega)) Z Z (GM Y (g_nil ?_)))
     have f0:=e8.drop (.hd _)
     refine x_round (a0 + 1,c1.1,c4.1,e4) (by dsimp only; omega) (.cons Z (.cons Z (.cons Z (.cons Z (.cons Z (.nil _)))))) ⟨f0,(((((c0.t d9).t e0).t e1).t e5).t e9),b3.trans (ET (congrArg (fun l=>pTotal_l1 l a0 a1 a2) (drop_cons b4)) (ET (BE b6) (ET (IN a3) (ET (BE c5) (ET (IN a4) (rfl)))))),by omega⟩
  ·replace a9:=OF a9
   refine c_exit (x_thenE (x_rndE (x_blockE (x_cut (a1,a2,a7) (.cons Z (.cons Z (.nil _))) ⟨c8,c0,b3.trans (ET (congrArg (fun l=>pTotal_l1 l a0 a1 a2) (drop_nil (by omega))) (rfl))⟩))))
 ·rintro ⟨a5,a6,b2⟩ b7 ⟨d2,g9,f1⟩
  refine x_next (csr ((g_y (y_loadA (cs:=[.int .i64 a5,.int .i64 a6]) sh_68 Z ((blk_cells d2 m0).part (f:=0) (.take _ (.take _ (.nil _))))) Z Z (g_e (ev_store d2 Z Z Z sz_68 Z (.here _ _ (.here _ _ (.nil _))) (.tl _ (.hd _))) Z Z ?_))))
  rintro _ h0 ⟨c7,h1⟩
  refine GA Y (gnx ((c_ret ?_)))
  have f2:pTotal list=((⟨a5,a6⟩:Share),0):=ET (out_next f1) (rfl)
  refine x_ret ⟨_,_,_,rfl,rfl,blk_cells c7 m1,sh_68,⟨_,_,rfl,rfl,rfl⟩⟩ (⟨_,_,rfl,c7.fr,c7.grow,by rw [f2]; exact rfl⟩)
def sSum_m1 (a1:List Share) (a2:Nat) (a3:Share):Int × Int × Int:=
 (opt (a1)[a2]? fun a4=>
 (bnd (pTotal ([a4,a3])) fun a0=>
 (a0.2,a0.1.ee,a0.1.er)))
def sSum_l2:List Share→Nat→(List Share)→Out (List Share) (Out (List Share) ((List Share) × Int))
 | [],a0,a1=>(Out.next a1)
 | a3 :: tl7,a0,a1=>(bnd (sSum_m1 a1 a0 a3) fun ⟨a2,a4,a5⟩=>
 (if (a2≠0) then (Out.ret ((Out.ret ((([]:List Share),a2)))))
 else (opt (a1)[a0]? fun a6=>
 (sSum_l2 tl7 (a0 + 1) ((a1.set a0 ((⟨a4,a5⟩:Share))))))))
def sSum_l1 (n:Int):List (List Share)→Nat→(List Share)→Out (List Share) ((List Share) × Int)
 | [],a1,a0=>(Out.next a0)
 | a2 :: tl1,a1,a0=>(if ((a2.length:Int)≠n) then (Out.ret ((([]:List Share),3)))
 else (out (sSum_l2 a2 0 a0) fun a3=>
 (sSum_l1 n tl1 (a1 + 1) a3)))
def sSum (n:Int) (list:(List (List Share))):(List Share) × Int:=
 (if (n < 0) then (([]:List Share),1)
 else (if (64 < n) then (([]:List Share),1)
 else (out (sSum_l1 n list 0 ((List.replicate n.toNat (⟨0,0⟩:Share)))) fun a0=>
 (a0,0))))
theorem sSum_c {n:Int} {list:(List (List Share))} {v_list:Value} {d:Dat} {w:World} (hd:∀ b,d b→b < w.heap.size) (h_list:Sl (Ty.slice shareTy) d w v_list list):Ret Tryz.prog 137 [.int .i64 n,v_list] w [] d (fun u d' w'=>∃ (v0:Value),u=.tuple #[v0,.int .i64 ((sSum n list).2)]∧Sl shareTy d' w' v0 (sSum n list).1):=by
 obtain ⟨A1,c2,rfl,hn3,hb4⟩:=h_list.fm
 refine ret_enter (n:=58) Tryz.func137 Z Z (ble Z) ?_
 have hI0:=Inv.start hd
 refine csr ((GA Y (GA Y (gnx ((c_seq (csr ((GM Y (g_y (y_lss Z Z) Z Z (GM Y (g_split (t:=14) Z (fun hg7=>?_) (fun hg7=>?_)))))))))))))
 ·replace hg7:=OT hg7
  refine gsk Z Z (gsk Z Z (g_y (y_pickT Z Z) Z Z (gnx ((c_condT Z (csr ((GA Y (GA Y (gnx ((c_ret ?_))))))))))))
  have hF8:sSum n list=(([]:List Share),1):=ET (IP hg7) (rfl)
  refine x_thenR (x_ret ⟨_,_,rfl,rfl,⟨_,_,rfl,rfl,rfl⟩⟩ ?_)
  exact ⟨_,_,rfl,hI0.fr,hI0.grow,by rw [hF8]; exact ⟨_,rfl,(Sl.nil_ _ _ _ none 0)⟩⟩
 ·replace hg7:=OF hg7
  refine GM Y (g_y (y_gtr Z Z) Z Z (g_y (y_pickF Z Z) Z Z (gnx ((c_cond Z (fun hc9=>?_) (fun hc9=>?_))))))
  ·replace hc9:=OT hc9
   refine csr ((GA Y (GA Y (gnx ((c_ret ?_))))))
   have i5:sSum n list=(([]:List Share),1):=ET (IN hg7) (ET (IP hc9) (rfl))
   refine x_thenR (x_ret ⟨_,_,rfl,rfl,⟨_,_,rfl,rfl,rfl⟩⟩ ?_)
   exact ⟨_,_,rfl,hI0.fr,hI0.grow,by rw [i5]; exact ⟨_,rfl,(Sl.nil_ _ _ _ none 0)⟩⟩
  ·replace hc9:=OF hc9
   refine c_skip (x_next (csr ((GM Y (g_e (ev_makeRow (T:=shareTy) (z:=(⟨0,0⟩:Share)) (m:=n.toNat) hI0 ei_62 ze_68 Z ((Int.toNat_of_nonneg (by omega)).symm) (by unfold big; omega) (ble Z) Z) Z Z ?_)))))
   rintro _ f0 ⟨a7,rfl,i6,i7⟩
   have n4:(List.replicate n.toNat (⟨0,0⟩:Share)).length=n.toNat:=by simp
   refine GA Y (gnx ((c_seq (csr ((GM Y (gln el_332 Z Z Z (GM Y (gnx ((c_cut1 (ι:=List Share × Dat) (fun ⟨b5,c7⟩=>[(6,.slice a7 n.toNat n.toNat)]) (fun ⟨b5,c7⟩ d4=>Inv [] d w c7 [row shareTy 68 (.slice a7 n.toNat n.toNat) (b5)] d4∧Le d f0 c7 d4∧sSum_l1 n list 0 ((List.replicate n.toNat (⟨0,0⟩:Share)))=Out.next b5∧b5.length=n.toNat) ?_ ?_)))))))))))
   ·refine c_block (c_loop (ι:=List Share × Nat × Dat) (fun ⟨a5,a1,a8⟩=>[(0,.int .i64 n),(6,.slice a7 n.toNat n.toNat),(20,.slice A1 (list).length c2),(21,.int .i64 (list.length:Int)),(22,.int .i64 (a1:Int))]) (fun ⟨a5,a1,a8⟩ b7=>Inv [] d w a8 [row shareTy 68 (.slice a7 n.toNat n.toNat) (a5)] b7∧Le d f0 a8 b7∧sSum_l1 n list 0 ((List.replicate n.toNat (⟨0,0⟩:Share)))=sSum_l1 n (list.drop a1) a1 a5∧a1≤list.length∧a5.length=n.toNat) (fun ⟨a5,a1,a8⟩=>list.length - a1) ((List.replicate n.toNat (⟨0,0⟩:Share)),0,d) (.cons Z (.cons Z (.cons Z (.cons Z (.cons Z (.nil _)))))) ⟨i6,Le.refl _ _,rfl,Nat.zero_le _,by omega⟩ ?_)
    rintro ⟨a5,a1,a8⟩ b7 ⟨b8,d5,c8,n5,n6⟩
    have i8:=row_len (b8.ok _ m0); unfold big at i8
    refine csr ((g_y (y_lss Z Z) Z Z (gnx ((c_seq (c_cond Z (fun b9=>?_) (fun b9=>?_)))))))
    ·replace b9:=OT b9
     obtain ⟨a6,c9⟩:=has (xs:=list) (k:=a1) (by omega)
     refine c_skip (x_next (c_seq (c_block (csr (?_)))))
     obtain ⟨n7,n8,n9,i9,j0,j1,o0⟩:=Sl.at_ (h_list.mono (i7.t d5)) c9
     obtain ⟨o1,rfl,f1⟩:=j0
     obtain ⟨f2,f3,rfl,o2,o3⟩:=f1.fm
     refine g_y (y_indexAddr (i:=a1) el_332 Z i9 Z (rfl) (by omega)) Z Z (g_y (y_load1 sh_62 Z (j1.nth_ (i:=0) Z)) Z Z (GA Y (gnx ((c_seq (csr ((GM Y (gln el_62 Z Z Z (GM Y (g_y (y_neq Z Z) Z Z (gnx (?_)))))))))))))
     refine c_cond Z (fun a9=>?_) (fun a9=>?_)
     ·replace a9:=OT a9
      refine csr ((GA Y (GA Y (gnx ((c_ret ?_))))))
      have j2:sSum_l1 n list 0 ((List.replicate n.toNat (⟨0,0⟩:Share)))=(Out.ret ((([]:List Share),3))):=c8.trans (ET (congrArg (fun l=>sSum_l1 n l a1 a5) (drop_cons c9)) (ET (IP a9) (rfl)))
      have j3:sSum n list=(([]:List Share),3):=ET (IN hg7) (ET (IN hc9) (ET (out_ret j2) (rfl)))
      refine x_thenR (x_blockR (x_thenR (x_rndR (x_blockR (x_cutR (x_thenR (x_ret ⟨_,_,rfl,rfl,⟨_,_,rfl,rfl,rfl⟩⟩ ?_)))))))
      exact ⟨_,_,rfl,b8.fr,b8.grow,by rw [j3]; exact ⟨_,rfl,(Sl.nil_ _ _ _ none 0)⟩⟩
     ·replace a9:=OF a9
      refine c_skip (x_next (csr ((GM Y (gln el_62 Z Z Z (GM Y (gnx ((c_cut1 (ι:=List Share × Dat) (fun ⟨b6,c0⟩=>[(0,.int .i64 n),(6,.slice a7 n.toNat n.toNat),(20,.slice A1 (list).length c2),(21,.int .i64 (list.length:Int)),(22,.int .i64 (a1:Int))]) (fun ⟨b6,c0⟩ d6=>Inv [] d w c0 [row shareTy 68 (.slice a7 n.toNat n.toNat) (b6)] d6∧Le a8 b7 c0 d6∧sSum_l2 a6 0 a5=Out.next b6∧b6.length=n.toNat) ?_ ?_)))))))))
      ·refine c_block (c_loop (ι:=List Share × Nat × Dat) (fun ⟨a3,a0,b0⟩=>[(0,.int .i64 n),(6,.slice a7 n.toNat n.toNat),(8,.slice f2 (a6).length f3),(20,.slice A1 (list).length c2),(21,.int .i64 (list.length:Int)),(22,.int .i64 (a1:Int)),(31,.int .i64 (a6.length:Int)),(32,.int .i64 (a0:Int))]) (fun ⟨a3,a0,b0⟩ c1=>Inv [] d w b0 [row shareTy 68 (.slice a7 n.toNat n.toNat) (a3)] c1∧Le a8 b7 b0 c1∧sSum_l2 a6 0 a5=sSum_l2 (a6.drop a0) a0 a3∧a0≤a6.length∧a3.length=n.toNat) (fun ⟨a3,a0,b0⟩=>a6.length - a0) (a5,0,a8) (.cons Z (.cons Z (.cons Z (.cons Z (.cons Z (.cons Z (.cons Z (.cons Z (.nil _))))))))) ⟨b8,Le.refl _ _,rfl,Nat.zero_le _,by omega⟩ ?_)
       rintro ⟨a3,a0,b0⟩ c1 ⟨d7,d8,d9,o4,o5⟩
       have j4:=row_len (d7.ok _ m0); unfold big at j4
       refine csr ((g_y (y_lss Z Z) Z Z (gnx ((c_seq (c_cond Z (fun c3=>?_) (fun c3=>?_)))))))
       ·replace c3:=OT c3
        obtain ⟨a2,e0⟩:=has (xs:=a6) (k:=a0) (by omega)
        refine c_skip (x_next (c_seq (c_block (csr ((GM Y (GA Y (gnx ((c_cut (ι:=Int × Nat × Int × Int × Dat) (fun ⟨b3,d0,b1,b2,c4⟩=>[(0,.int .i64 n),(6,.slice a7 n.toNat n.toNat),(8,.slice f2 (a6).length f3),(9,.int .i64 (a0:Int)),(10,.pointer (some ⟨d0,0,none⟩)),(11,.int .i64 b3),(20,.slice A1 (list).length c2),(21,.int .i64 (list.length:Int)),(22,.int .i64 (a1:Int)),(31,.int .i64 (a6.length:Int)),(32,.int .i64 (a0:Int))]) (fun ⟨b3,d0,b1,b2,c4⟩ e1=>Inv [] d w c4 [blk d0 68 [.int .i64 b1,.int .i64 b2],row shareTy 68 (.slice a7 n.toNat n.toNat) (a3)] e1∧Le b0 c1 c4 e1∧sSum_m1 a3 a0 a2=(b3,b1,b2)) ?_ ?_))))))))))
        ·have d1:=d7.drew; have d2:=Le.drew b0 c1
         refine c_drawK 15 follows_mixed d1 (k_y 0 (by kernel_rfl) Z Z Z (fun _ _=>(y_move Z)) (k_y 1 (by kernel_rfl) Z Z Z (fun _ _=>(y_move Z)) ?_))
         obtain ⟨a4,c5⟩:=has (xs:=a3) (k:=a0) (by omega)
         obtain ⟨o6,o7,f4,j5,o8⟩:=row_at0 (d1.ok _ m0) c5
         obtain rfl:=j5
         refine k_y 2 (by kernel_rfl) Z Z Z (fun _ _=>(y_indexAddr (i:=a0) el_62 Z f4 Z (rfl) (by omega))) (k_y 3 (by kernel_rfl) Z Z Z (fun o9 ⟨p0,j6,p1⟩=>(y_loadA (cs:=[.int .i64 a4.ee,.int .i64 a4.er]) sh_68 Z ((row_cells (j6.ok _ m0) f4 c5 (fun _ h=>h)).part (f:=0) (.take _ (.take _ (.nil _)))))) (k_y 4 (by kernel_rfl) Z Z Z (fun _ _=>(y_move Z)) (k_y 5 (by kernel_rfl) Z Z Z (fun _ _=>(y_move Z)) ?_)))
         obtain ⟨p2,p3,p4,j7,j8,j9,k0⟩:=Sl.at_ (f1.mono (d8.t d2)) e0
         obtain rfl:=j8
         refine k_y 6 (by kernel_rfl) Z Z Z (fun _ _=>(y_indexAddr (i:=a0) el_62 Z j7 Z (rfl) (by omega))) (k_y 7 (by kernel_rfl) Z Z Z (fun p5 ⟨p6,p7,k1⟩=>(y_loadA (cs:=[.int .i64 a2.ee,.int .i64 a2.er]) sh_68 Z ((j9.keep ((k1).blk _ k0)).part (f:=0) (.take _ (.take _ (.nil _)))))) (k_all (is:=[8,13]) (by kernel_rfl) (by simp) (.cons ?_ (.cons ?_ .nil))))
         ·refine k_op Z Z Z (ev_buildSl (T:=shareTy) (xs:=[a4,a2]) d1 el_48 ze_68 Z Z (ble Z) (ble Z) (.cons Z Z Z Z (.here _ _ (.here _ _ (.nil _))) (ble Z) (.cons Z Z Z Z (.next _ (.next _ (.here _ _ (.here _ _ (.nil _))))) (ble Z) (.nil _))) (.cons (x:=a4) (cs:=[.int .i64 a4.ee,.int .i64 a4.er]) Z (.cons (x:=a2) (cs:=[.int .i64 a2.ee,.int .i64 a2.er]) Z .nil))) ?_
          rintro _ p8 ⟨p9,d3,e2,f5,q0,rfl⟩
          refine k_next d3 e2 (k_all (is:=[9,13]) (by kernel_rfl) (by simp) (.cons ?_ (.cons ?_ .nil)))
          ·have f6:=pTotal_c (list:=[a4,a2]) d3.lt f5
           obtain ⟨e3,f7⟩:∃ r,pTotal ([a4,a2])=r:=⟨_,rfl⟩
           rw [f7] at f6
           refine k_op Z Z Z (ev_pure d3 pf_195 Z f6) ?_
           rintro _ q1 ⟨k2,f8,f9,rfl⟩
           refine k_next f8 f9 (k_y 10 (by kernel_rfl) Z Z Z (fun _ _=>(y_move Z)) (k_y 11 (by kernel_rfl) Z Z Z (fun _ _=>(y_extract Z Z)) (k_y 12 (by kernel_rfl) Z Z Z (fun _ _=>(y_extract Z Z)) (k_all (is:=[13]) (by kernel_rfl) (by simp) (.cons ?_ .nil)))))
           refine k_op Z Z Z (ev_alloc f8 ze_68) ?_
           rintro _ q2 ⟨k3,rfl,g0,g1⟩
           refine k_next (g0.drop (.hd _)) g1 (k_all (is:=[14]) (by kernel_rfl) (by simp) (.cons ?_ .nil))
           refine k_op Z Z Z (ev_store g0 Z Z Z sz_68 Z (.here _ _ (.here _ _ (.nil _))) (.hd _)) ?_
           rintro _ q3 ⟨g2,g3⟩
           refine k_next (g2.drop (.hd _)) g3 (k_all (is:=[15]) (by kernel_rfl) (by simp) (.cons ?_ .nil))
           refine k_op Z Z Z (Ev.of_y2 (y_assign Z)) ?_
           rintro _ _ ⟨rfl,rfl⟩
           refine k_bar (b_done (by kernel_rfl) (x_draw ?_) (by kernel_rfl))
           have k4:=g2.front (.hd _)
           refine x_cut (e3.2,k3,e3.1.ee,e3.1.er,k2) (.cons Z (.cons Z (.cons Z (.cons Z (.cons Z (.cons Z (.cons Z (.cons Z (.cons Z (.cons Z (.cons Z (.nil _)))))))))))) ⟨k4,((((d2.t e2).t f9).t g1).t g3),ET (opt_some c5) (ET (BE f7) (rfl))⟩
          ·refine k_op Z Z Z (ev_alloc d3 ze_68) ?_
           rintro _ q4 ⟨k5,rfl,e4,e5⟩
           refine k_next (e4.drop (.hd _)) e5 (k_all (is:=[9]) (by kernel_rfl) (by simp) (.cons ?_ .nil))
           have g4:=pTotal_c (list:=[a4,a2]) e4.lt (f5.mono e5)
           obtain ⟨e6,g5⟩:∃ r,pTotal ([a4,a2])=r:=⟨_,rfl⟩
           rw [g5] at g4
           refine k_op Z Z Z (ev_pure e4 pf_195 Z g4) ?_
           rintro _ q5 ⟨k6,g6,g7,rfl⟩
           refine k_next (g6.drop (.hd _)) g7 (k_y 10 (by kernel_rfl) Z Z Z (fun _ _=>(y_move Z)) (k_y 11 (by kernel_rfl) Z Z Z (fun _ _=>(y_extract Z Z)) (k_y 12 (by kernel_rfl) Z Z Z (fun _ _=>(y_extract Z Z)) (k_all (is:=[14]) (by kernel_rfl) (by simp) (.cons ?_ .nil)))))
           refine k_op Z Z Z (ev_store g6 Z Z Z sz_68 Z (.here _ _ (.here _ _ (.nil _))) (.hd _)) ?_
           rintro _ q6 ⟨g8,g9⟩
           refine k_next (g8.drop (.hd _)) g9 (k_all (is:=[15]) (by kernel_rfl) (by simp) (.cons ?_ .nil))
           refine k_op Z Z Z (Ev.of_y2 (y_assign Z)) ?_
           rintro _ _ ⟨rfl,rfl⟩
           refine k_bar (b_done (by kernel_rfl) (x_draw ?_) (by kernel_rfl))
           have k7:=g8.front (.hd _)
           refine x_cut (e6.2,k5,e6.1.ee,e6.1.er,k6) (.cons Z (.cons Z (.cons Z (.cons Z (.cons Z (.cons Z (.cons Z (.cons Z (.cons Z (.cons Z (.cons Z (.nil _)))))))))))) ⟨k7,((((d2.t e2).t e5).t g7).t g9),ET (opt_some c5) (ET (BE g5) (rfl))⟩
         ·refine k_op Z Z Z (ev_alloc d1 ze_68) ?_
          rintro _ q7 ⟨k8,rfl,h0,h1⟩
          refine k_next (h0.drop (.hd _)) h1 (k_all (is:=[8]) (by kernel_rfl) (by simp) (.cons ?_ .nil))
          refine k_op Z Z Z (ev_buildSl (T:=shareTy) (xs:=[a4,a2]) h0 el_48 ze_68 Z Z (ble Z) (ble Z) (.cons Z Z Z Z (.here _ _ (.here _ _ (.nil _))) (ble Z) (.cons Z Z Z Z (.next _ (.next _ (.here _ _ (.here _ _ (.nil _))))) (ble Z) (.nil _))) (.cons (x:=a4) (cs:=[.int .i64 a4.ee,.int .i64 a4.er]) Z (.cons (x:=a2) (cs:=[.int .i64 a2.ee,.int .i64 a2.er]) Z .nil))) ?_
          rintro _ q8 ⟨q9,e7,h2,k9,r0,rfl⟩
          refine k_next (e7.drop (.hd _)) h2 (k_all (is:=[9]) (by kernel_rfl) (by simp) (.cons ?_ .nil))
          have h3:=pTotal_c (list:=[a4,a2]) e7.lt k9
          obtain ⟨e8,h4⟩:∃ r,pTotal ([a4,a2])=r:=⟨_,rfl⟩
          rw [h4] at h3
          refine k_op Z Z Z (ev_pure e7 pf_195 Z h3) ?_
          rintro _ r1 ⟨l0,h5,h6,rfl⟩
          refine k_next (h5.drop (.hd _)) h6 (k_y 10 (by kernel_rfl) Z Z Z (fun _ _=>(y_move Z)) (k_y 11 (by kernel_rfl) Z Z Z (fun _ _=>(y_extract Z Z)) (k_y 12 (by kernel_rfl) Z Z Z (fun _ _=>(y_extract Z Z)) (k_all (is:=[14]) (by kernel_rfl) (by simp) (.cons ?_ .nil)))))
          refine k_op Z Z Z (ev_store h5 Z Z Z sz_68 Z (.here _ _ (.here _ _ (.nil _))) (.hd _)) ?_
          rintro _ r2 ⟨h7,h8⟩
          refine k_next (h7.drop (.hd _)) h8 (k_all (is:=[15]) (by kernel_rfl) (by simp) (.cons ?_ .nil))
          refine k_op Z Z Z (Ev.of_y2 (y_assign Z)) ?_
          rintro _ _ ⟨rfl,rfl⟩
          refine k_bar (b_done (by kernel_rfl) (x_draw ?_) (by kernel_rfl))
          have l1:=h7.front (.hd _)
          refine x_cut (e8.2,k8,e8.1.ee,e8.1.er,l0) (.cons Z (.cons Z (.cons Z (.cons Z (.cons Z (.cons Z (.cons Z (.cons Z (.cons Z (.cons Z (.cons Z (.nil _)))))))))))) ⟨l1,((((d2.t h1).t h2).t h6).t h8),ET (opt_some c5) (ET (BE h4) (rfl))⟩
        ·rintro ⟨b3,d0,b1,b2,c4⟩ e1 ⟨c6,l2,h9⟩
         refine c_seq (csr ((GM Y (g_y (y_neq Z Z) Z Z (gnx ((c_cond Z (fun b4=>?_) (fun b4=>?_))))))))
         ·replace b4:=OT b4
          refine csr ((GM Y (GA Y (GA Y (gnx ((c_ret ?_)))))))
          have l3:sSum_l2 a6 0 a5=(Out.ret ((Out.ret ((([]:List Share),b3))))):=d9.trans (ET (congrArg (fun l=>sSum_l2 l a0 a3) (drop_cons e0)) (ET (BE h9) (ET (IP b4) (rfl))))
          have l4:sSum_l1 n list 0 ((List.replicate n.toNat (⟨0,0⟩:Share)))=(Out.ret ((([]:List Share),b3))):=c8.trans (ET (congrArg (fun l=>sSum_l1 n l a1 a5) (drop_cons c9)) (ET (IN a9) (ET (out_ret l3) (rfl))))
          have l5:sSum n list=(([]:List Share),b3):=ET (IN hg7) (ET (IN hc9) (ET (out_ret l4) (rfl)))
          refine x_thenR (x_blockR (x_thenR (x_rndR (x_blockR (x_cutR (x_blockR (x_thenR (x_rndR (x_blockR (x_cutR (x_thenR (x_ret ⟨_,_,rfl,rfl,⟨_,_,rfl,rfl,rfl⟩⟩ ?_))))))))))))
          exact ⟨_,_,rfl,c6.fr,c6.grow,by rw [l5]; exact ⟨_,rfl,(Sl.nil_ _ _ _ none 0)⟩⟩
         ·replace b4:=OF b4
          refine c_skip (x_next (c_region (GM Y (GM Y (g_y (y_loadA (cs:=[.int .i64 b1,.int .i64 b2]) sh_68 Z ((blk_cells c6 m0).part (f:=0) (.take _ (.take _ (.nil _))))) Z Z ?_)))))
          obtain ⟨i0,e9⟩:=has (xs:=a3) (k:=a0) (by omega)
          obtain ⟨r3,r4,i1,l6,l7⟩:=row_at0 (c6.ok _ m1) e9
          obtain rfl:=l6
          refine g_y (y_indexAddr (i:=a0) el_62 Z i1 Z (rfl) (by omega)) Z Z (g_e (ev_storeRow (i:=a0) (off:=0) (cs:=[.int .i64 i0.ee,.int .i64 i0.er]) (y':=(⟨b1,b2⟩:Share)) c6 i1 Z Z Z sz_68 Z (.here _ _ (.here _ _ (.nil _))) (.tl _ (.hd _)) e9 l7 Z Z (ble Z)) Z Z ?_)
          rintro _ r5 ⟨l8,l9⟩
          have r6:(a3.set a0 ((⟨b1,b2⟩:Share))).length=n.toNat:=by (try simp only [LS]); omega
          refine g_nil (x_blockN (x_next ?_))
          refine c_region (g_y (y_add Z Z (by omega)) Z Z (GM Y (g_nil ?_)))
          have m6:=l8.drop (.hd _)
          refine x_round ((a3.set a0 ((⟨b1,b2⟩:Share))),a0 + 1,c4) (by dsimp only; omega) (.cons Z (.cons Z (.cons Z (.cons Z (.cons Z (.cons Z (.cons Z (.cons Z (.nil _))))))))) ⟨m6,((d8.t l2).t l9),d9.trans (ET (congrArg (fun l=>sSum_l2 l a0 a3) (drop_cons e0)) (ET (BE h9) (ET (IN b4) (ET (opt_some e9) (rfl))))),by omega,by omega⟩
       ·replace c3:=OF c3
        refine c_exit (x_thenE (x_rndE (x_blockE (x_cut (a3,b0) (.cons Z (.cons Z (.cons Z (.cons Z (.cons Z (.nil _)))))) ⟨d7,d8,d9.trans (ET (congrArg (fun l=>sSum_l2 l a0 a3) (drop_nil (by omega))) (rfl)),by omega⟩))))
      ·rintro ⟨b6,c0⟩ d6 ⟨i2,m7,m8,r7⟩
       have m9:=row_len (i2.ok _ m0); unfold big at m9
       refine x_blockN (x_next ?_)
       refine c_region (g_y (y_add Z Z (by omega)) Z Z (GM Y (g_nil (x_round (b6,a1 + 1,c0) (by dsimp only; omega) (.cons Z (.cons Z (.cons Z (.cons Z (.cons Z (.nil _)))))) ⟨i2,(d5.t m7),c8.trans (ET (congrArg (fun l=>sSum_l1 n l a1 a5) (drop_cons c9)) (ET (IN a9) (ET (out_next m8) (rfl)))),by omega,by omega⟩))))
    ·replace b9:=OF b9
     refine c_exit (x_thenE (x_rndE (x_blockE (x_cut (a5,a8) (.cons Z (.nil _)) ⟨b8,d5,c8.trans (ET (congrArg (fun l=>sSum_l1 n l a1 a5) (drop_nil (by omega))) (rfl)),by omega⟩))))
   ·rintro ⟨b5,c7⟩ d4 ⟨i3,r8,n0,r9⟩
    have n1:=row_len (i3.ok _ m0); unfold big at n1
    refine x_next (csr ((GM Y (GA Y (GA Y (gnx ((c_ret ?_))))))))
    obtain ⟨s0,i4,s1,n2⟩:=pub_row i3 (.hd _) (by simp)
    have n3:sSum n list=(b5,0):=ET (IN hg7) (ET (IN hc9) (ET (out_next n0) (rfl)))
    refine x_ret ⟨_,_,rfl,rfl,⟨_,_,rfl,rfl,rfl⟩⟩ (⟨_,_,rfl,i4.fr,i4.grow,by rw [n3]; exact ⟨_,rfl,n2⟩⟩)
theorem cCheck_nn {c:Code} (h:cCheck c=0):(0≤c.scheme∧c.scheme≤7)∧(0≤c.flat∧c.flat≤7)∧(1≤c.kind∧c.kind≤4)∧(0≤c.amount∧c.amount≤999999000):=by
 simp only [cCheck,cCheck_m1,cCheck_m2,cCheck_m3,cCheck_m4,cCheck_m5,bnd,out,Bool.cond_eq_ite] at h
 have k:∀ {a b:Int},¬ a < b↔b≤a:=by intro a b; omega
 by_cases h1:c.scheme < 0 <;> simp only [h1,if_true,if_false] at h
 ·cases h
 by_cases h2:7 < c.scheme <;> simp only [h2,if_true,if_false] at h
 ·cases h
 by_cases h3:c.kind < 1 <;> simp only [h3,if_true,if_false] at h
 ·cases h
 by_cases h4:4 < c.kind <;> simp only [h4,if_true,if_false] at h
 ·cases h
 by_cases h5:c.amount < 0 <;> by_cases h6:999999000 < c.amount <;> by_cases h7:c.flat < 0 <;> by_cases h8:7 < c.flat <;> by_cases h9:c.kind=3 <;> by_cases h10:c.flat=0 <;> by_cases h11:c.kind=2 <;> by_cases h12:c.amount=0 <;> by_cases h13:c.kind=1 <;>
  first
   | omega
   | (exfalso; simp [h5,h6,h7,h8,h9,h10,h11,h12,h13] at h)
def tFits_m1 (t:Table) (c:Code):Bool:=
 (if (c.kind=3) then (opt (t.schemes)[c.scheme.toNat]? fun a0=>
 (decide ((a0.length:Int)≤c.flat)))
 else false)
def tFits (t:Table) (c:Code):Int:=
 (bnd (cCheck c) fun a0=>
 (if (a0≠0) then a0
 else (if ((t.schemes.length:Int)≤c.scheme) then 81
 else (bnd (tFits_m1 t c) fun a1=>
 (cond a1 80
 0)))))
theorem tFits_c {t:Table} {cs_t:List Value} {c:Code} {d:Dat} {w:World} (hd:∀ b,d b→b < w.heap.size) (h_t:tableTy.rel d w t cs_t):Ret Tryz.prog 59 [.agg cs_t.toArray,.agg #[.int .i64 c.scheme,.int .i64 c.kind,.int .i64 c.amount,.int .i64 c.flat,.bool c.alone]] w [] d (fun u d' w'=>u=.int .i64 ((tFits t c))):=by
 obtain ⟨v1,v2,v3,rfl,hS4,hS5,hS6⟩:=h_t
 obtain ⟨A7,c8,rfl,hn9,e5⟩:=hS4.fm
 obtain ⟨b8,b9,rfl,e6,e7⟩:=hS5.fm
 obtain ⟨c0,c1,rfl,e8,e9⟩:=hS6.fm
 refine ret_enter (n:=32) Tryz.func59 Z Z (ble Z) ?_
 have hI0:=Inv.start hd
 refine csr ((g_e (ev_box hI0 Z) Z Z ?_))
 rintro _ f0 ⟨c2,rfl,c3,c4⟩
 refine g_e (ev_box c3 Z) Z Z ?_
 rintro _ f1 ⟨c5,rfl,a9,c6⟩
 refine GA Y (gnx ((c_seq (csr ((g_y (y_loadA (cs:=[.int .i64 c.scheme,.int .i64 c.kind,.int .i64 c.amount,.int .i64 c.flat,.bool c.alone]) sh_28 Z ((blk_cells a9 m0).part (f:=0) (.take _ (.take _ (.take _ (.take _ (.take _ (.nil _)))))))) Z Z ?_))))))
 have b4:=cCheck_c (c:=c) a9.lt
 obtain ⟨c7,a4⟩:∃ r,cCheck c=r:=⟨_,rfl⟩
 rw [a4] at b4
 refine g_e (ev_pure a9 pf_143 Z b4) Z Z ?_
 rintro _ b5 ⟨a5,a2,c9,rfl⟩
 refine GA Y (gnx ((csr ((GM Y (g_y (y_neq Z Z) Z Z (gnx ((c_cond Z (fun a0=>?_) (fun a0=>?_))))))))))
 ·replace a0:=OT a0
  refine csr ((GM Y (GA Y (gnx ((c_ret ?_))))))
  have d0:tFits t c=c7:=ET (BE a4) (ET (IP a0) (rfl))
  refine x_thenR (x_ret ⟨_,_,rfl,rfl,rfl⟩ ?_)
  exact ⟨_,_,rfl,a2.fr,a2.grow,by rw [d0]; exact rfl⟩
 ·replace a0:=OF a0
  refine c_skip (x_next (c_seq (csr ((gfa fo_28_0 Z Z Z (gld sh_3 Z a2 m0 (i:=0) Z Z Z (gfa fo_26_0 Z Z Z (gld sh_22 Z a2 m1 (i:=0) Z Z Z (gln el_22 Z Z Z (g_y (y_geq Z Z) Z Z (gnx ((c_cond Z (fun a1=>?_) (fun a1=>?_))))))))))))))
  ·replace a1:=OT a1
   refine csr ((GA Y (gnx ((c_ret ?_)))))
   have d1:tFits t c=81:=ET (BE a4) (ET (IN a0) (ET (IP a1) (rfl)))
   refine x_thenR (x_ret ⟨_,_,rfl,rfl,rfl⟩ ?_)
   exact ⟨_,_,rfl,a2.fr,a2.grow,by rw [d1]; exact rfl⟩
  ·replace a1:=OF a1
   refine c_skip (x_next (c_seq (c_cut (ι:=Bool × Dat) (fun ⟨a6,a7⟩=>[(31,.bool a6)]) (fun ⟨a6,a7⟩ b0=>Inv [] d w a7 [blk c5 28 [.int .i64 c.scheme,.int .i64 c.kind,.int .i64 c.amount,.int .i64 c.flat,.bool c.alone],blk c2 26 [.slice A7 (t.schemes).length c8,.slice b8 (t.contribs).length b9,.slice c0 (t.kinds).length c1,.int .i64 t.limit,.int .i64 t.round]] b0∧Le a5 b5 a7 b0∧tFits_m1 t c=a6) ?_ ?_)))
   ·have b1:=a2.drew; have b2:=Le.drew a5 b5
    refine c_drawK 15 follows_mixed b1 (k_y 0 (by kernel_rfl) Z Z Z (fun _ _=>(y_fieldAddr fo_28_1 Z)) (k_y 1 (by kernel_rfl) Z Z Z (fun f2 ⟨f3,d2,f4⟩=>(y_load1 sh_3 Z ((blk_cells d2 m0).nth_ (i:=1) Z))) (k_y 2 (by kernel_rfl) Z Z Z (fun _ _=>(y_eql Z Z)) (k_y 3 (by kernel_rfl) Z Z Z (fun _ _=>(y_move Z)) (k_split (t:=20) Z (fun a3=>?_) (fun a3=>?_))))))
    ·replace a3:=OT a3
     refine k_y 4 (by kernel_rfl) Z Z Z (fun _ _=>(y_fieldAddr fo_28_3 Z)) (k_y 5 (by kernel_rfl) Z Z Z (fun f5 ⟨f6,d3,f7⟩=>(y_load1 sh_3 Z ((blk_cells d3 m0).nth_ (i:=3) Z))) (k_y 6 (by kernel_rfl) Z Z Z (fun _ _=>(y_fieldAddr fo_26_0 Z)) (k_y 7 (by kernel_rfl) Z Z Z (fun f8 ⟨f9,d4,g0⟩=>(y_load1 sh_22 Z ((blk_cells d4 m1).nth_ (i:=0) Z))) (k_y 8 (by kernel_rfl) Z Z Z (fun _ _=>(y_fieldAddr fo_28_0 Z)) (k_y 9 (by kernel_rfl) Z Z Z (fun g1 ⟨g2,d5,g3⟩=>(y_load1 sh_3 Z ((blk_cells d5 m0).nth_ (i:=0) Z))) ?_)))))
     obtain ⟨d6,b6⟩:=has (xs:=t.schemes) (k:=c.scheme.toNat) (by have h9:=cCheck_nn (c:=c) (by omega); omega)
     obtain ⟨g4,g5,g6,d7,d8,d9,e0⟩:=Sl.at_ (hS4.mono (((c4.t c6).t c9).t b2)) b6
     obtain ⟨g7,rfl,e1⟩:=d8
     obtain ⟨g8,g9,rfl,h0,h1⟩:=e1.fm
     refine k_y 10 (by kernel_rfl) Z Z Z (fun _ _=>(y_indexAddr (i:=c.scheme.toNat) el_22 Z d7 Z ((Int.toNat_of_nonneg (by have h9:=cCheck_nn (c:=c) (by omega); omega)).symm) (by have h9:=cCheck_nn (c:=c) (by omega); omega))) (k_y 11 (by kernel_rfl) Z Z Z (fun h2 ⟨h3,h4,e2⟩=>(y_load1 sh_34 Z ((d9.keep ((e2).blk _ e0)).nth_ (i:=0) Z))) (k_y 12 (by kernel_rfl) Z Z Z (fun _ _=>(y_lenS (by rw [el_34]; rfl) Z)) (k_y 13 (by kernel_rfl) Z Z Z (fun _ _=>(y_geq Z Z)) (k_y 14 (by kernel_rfl) Z Z Z (fun _ _=>(y_pickT Z Z)) (k_done (by kernel_rfl) (x_draw ?_))))))
     refine x_cut ((decide ((d6.length:Int)≤c.flat)),a5) (.cons Z (.nil _)) ⟨b1,b2,ET (IP a3) (ET (opt_some b6) (rfl))⟩
    ·replace a3:=OF a3
     refine k_skip 4 (by kernel_rfl) Z Z Z (k_skip 5 (by kernel_rfl) Z Z Z (k_skip 6 (by kernel_rfl) Z Z Z (k_skip 7 (by kernel_rfl) Z Z Z (k_skip 8 (by kernel_rfl) Z Z Z (k_skip 9 (by kernel_rfl) Z Z Z (k_skip 10 (by kernel_rfl) Z Z Z (k_skip 11 (by kernel_rfl) Z Z Z (k_skip 12 (by kernel_rfl) Z Z Z (k_skip 13 (by kernel_rfl) Z Z Z (k_y 14 (by kernel_rfl) Z Z Z (fun _ _=>(y_pickF Z Z)) (k_done (by kernel_rfl) (x_draw ?_))))))))))))
     refine x_cut (false,a5) (.cons Z (.nil _)) ⟨b1,b2,ET (IN a3) (rfl)⟩
   ·rintro ⟨a6,a7⟩ b0 ⟨a8,h5,b7⟩
    refine c_cond Z (fun b3=>?_) (fun b3=>?_)
    ·skip
     refine csr ((GA Y (gnx ((c_ret ?_)))))
     have e3:tFits t c=80:=ET (BE a4) (ET (IN a0) (ET (IN a1) (ET (BE b7) (ET (cond_t b3) (rfl)))))
     refine x_thenR (x_ret ⟨_,_,rfl,rfl,rfl⟩ ?_)
     exact ⟨_,_,rfl,a8.fr,a8.grow,by rw [e3]; exact rfl⟩
    ·skip
     refine c_skip (x_next (csr ((GA Y (gnx ((c_ret ?_)))))))
     have e4:tFits t c=0:=ET (BE a4) (ET (IN a0) (ET (IN a1) (ET (BE b7) (ET (cond_f b3) (rfl)))))
     refine x_ret ⟨_,_,rfl,rfl,rfl⟩ (⟨_,_,rfl,a8.fr,a8.grow,by rw [e4]; exact rfl⟩)
def kWorst_l2 (a2:Contrib):List Band→Nat→Nat→Nat
 | [],a0,a1=>a1
 | a3 :: tl5,a0,a1=>(opt (a2.bands)[a1]? fun a4=>
 (if (a4.rate < a3.rate) then (kWorst_l2 a2 tl5 (a0 + 1) a0)
 else (kWorst_l2 a2 tl5 (a0 + 1) a1)))
def kWorst_l1:List Contrib→Nat→(List Int)→Int→List Int × Int
 | [],a3,a0,a1=>(a0,a1)
 | a2 :: tl1,a3,a0,a1=>(bnd (kWorst_l2 a2 a2.bands 0 0) fun a4=>
 (bnd (bTop a2.bands) fun a5=>
 (kWorst_l1 tl1 (a3 + 1) ((a0 ++ [(a4:Int)])) ((wI (a1 - a5))))))
def kWorst (t:Table):Choice × Int:=
 (bnd (tCheck t) fun a1=>
 (if (a1≠0) then ((⟨0,0,([]:List Int),0⟩:Choice),a1)
 else (bnd (kTax t) fun a0=>
 (bnd (kWorst_l1 t.contribs 0 (([]:List Int)) ((wI (10000 - a0.1)))) fun ⟨a2,a3⟩=>
 ((⟨a0.2.1,a0.2.2,a2,a3⟩:Choice),0)))))
theorem kWorst_c {t:Table} {cs_t:List Value} {d:Dat} {w:World} (hd:∀ b,d b→b < w.heap.size) (h_t:tableTy.rel d w t cs_t):Ret Tryz.prog 103 [.agg cs_t.toArray] w [] d (fun u d' w'=>∃ (cs0:List Value),u=.tuple #[.agg cs0.toArray,.int .i64 ((kWorst t).2)]∧choiceTy.rel d' w' (kWorst t).1 cs0):=by
 obtain ⟨v1,v2,v3,rfl,hS4,hS5,hS6⟩:=h_t
 obtain ⟨A7,c8,rfl,hn9,n9⟩:=hS4.fm
 obtain ⟨a9,b0,rfl,o0,o1⟩:=hS5.fm
 obtain ⟨c1,c2,rfl,o2,o3⟩:=hS6.fm
 refine ret_enter (n:=72) Tryz.func103 Z Z (ble Z) ?_
 have hI0:=Inv.start hd
 refine csr ((g_e (ev_box hI0 Z) Z Z ?_))
 rintro _ o4 ⟨d0,rfl,i2,b7⟩
 refine g_e (ev_alloc i2 ze_203) Z Z ?_
 rintro _ o5 ⟨b4,rfl,e1,b8⟩
 refine GA Y (gnx ((c_seq (csr ((g_y (y_loadA (cs:=[.slice A7 (t.schemes).length c8,.slice a9 (t.contribs).length b0,.slice c1 (t.kinds).length c2,.int .i64 t.limit,.int .i64 t.round]) sh_26 Z ((blk_cells e1 m1).part (f:=0) (.take _ (.take _ (.take _ (.take _ (.take _ (.nil _)))))))) Z Z ?_))))))
 have g2:=tCheck_c (t:=t) e1.lt (show tableTy.rel _ _ t _ from ⟨_,_,_,rfl,(hS4.mono (b7.t b8)),(hS5.mono (b7.t b8)),(hS6.mono (b7.t b8))⟩)
 obtain ⟨i3,e2⟩:∃ r,tCheck t=r:=⟨_,rfl⟩
 rw [e2] at g2
 refine g_e (ev_pure e1 pf_185 Z g2) Z Z ?_
 rintro _ o6 ⟨o7,d1,d2,rfl⟩
 refine GA Y (gnx ((csr ((GM Y (g_y (y_neq Z Z) Z Z (gnx ((c_cond Z (fun b9=>?_) (fun b9=>?_))))))))))
 ·replace b9:=OT b9
  refine csr ((g_y (y_build ze_203 pl_203 (.nil _)) Z Z (GM Y (g_e (ev_store d1 Z Z Z sz_203 Z (.here _ _ (.here _ _ (.here _ _ (.here _ _ (.nil _))))) (.hd _)) Z Z ?_))))
  rintro _ o8 ⟨e3,o9⟩
  refine GA Y (gnx ((c_ret ?_)))
  have i4:kWorst t=((⟨0,0,([]:List Int),0⟩:Choice),i3):=ET (BE e2) (ET (IP b9) (rfl))
  refine x_thenR (x_ret ⟨_,_,_,rfl,rfl,blk_cells e3 m0,sh_203,⟨_,_,rfl,rfl,rfl⟩⟩ ?_)
  exact ⟨_,_,rfl,e3.fr,e3.grow,by rw [i4]; exact ⟨_,rfl,⟨_,rfl,(Sl.nil_ _ _ _ none 0)⟩⟩⟩
 ·replace b9:=OF b9
  refine c_skip (x_next (csr ((g_y (y_loadA (cs:=[.slice A7 (t.schemes).length c8,.slice a9 (t.contribs).length b0,.slice c1 (t.kinds).length c2,.int .i64 t.limit,.int .i64 t.round]) sh_26 Z ((blk_cells d1 m1).part (f:=0) (.take _ (.take _ (.take _ (.take _ (.take _ (.nil _)))))))) Z Z ?_))))
  have g3:=kTax_c (t:=t) d1.lt (show tableTy.rel _ _ t _ from ⟨_,_,_,rfl,(hS4.mono ((b7.t b8).t d2)),(hS5.mono ((b7.t b8).t d2)),(hS6.mono ((b7.t b8).t d2))⟩)
  obtain ⟨a4,g4⟩:∃ r,kTax t=r:=⟨_,rfl⟩
  rw [g4] at g3
  refine g_e (ev_pure d1 pf_186 Z g3) Z Z ?_
  rintro _ p0 ⟨e4,i5,i6,rfl⟩
  refine GM Y (g_y (y_extract Z Z) Z Z (g_y (y_extract Z Z) Z Z (g_y (y_extract Z Z) Z Z (GA Y (GA Y (GA Y (gnx ((csr ((GM Y (GM Y (GM Y ?_)))))))))))))
  refine g_y (y_subW Z Z) Z Z (g_y (y_build ze_203 pl_203 (.cons Z Z Z Z (.here _ _ (.nil _)) (ble Z) (.cons Z Z Z Z (.next _ (.here _ _ (.nil _))) (ble Z) (.cons Z Z Z Z (.next _ (.next _ (.next _ (.here _ _ (.nil _))))) (ble Z) (.nil _))))) Z Z (g_e (ev_alloc i5 ze_203) Z Z ?_))
  rintro _ p1 ⟨b5,rfl,i7,i8⟩
  refine g_e (ev_store i7 Z Z Z sz_203 Z (.here _ _ (.here _ _ (.here _ _ (.here _ _ (.nil _))))) (.hd _)) Z Z ?_
  rintro _ g5 ⟨g6,i9⟩
  refine gnx ((c_seq (csr ((gfa fo_26_1 Z Z Z (gld sh_23 Z g6 m2 (i:=1) Z Z Z (gln el_23 Z Z Z (GM Y (gnx (?_))))))))))
  have j0:=nil_row intTy 3 g6
  refine c_cut1 (ι:=List Int × Option Addr × Nat × Int × Dat) (fun ⟨b1,c4,c5,c3,d3⟩=>[(2,.pointer (some ⟨b4,0,none⟩)),(8,.pointer (some ⟨b5,0,none⟩))]) (fun ⟨b1,c4,c5,c3,d3⟩ e5=>Inv [] d w d3 [row intTy 3 (.slice c4 b1.length c5) (b1),blk b5 203 [.int .i64 a4.2.1,.int .i64 a4.2.2,.slice c4 b1.length c5,.int .i64 c3],blk b4 203 [.int .i64 0,.int .i64 0,.slice none 0 0,.int .i64 0],blk d0 26 [.slice A7 (t.schemes).length c8,.slice a9 (t.contribs).length b0,.slice c1 (t.kinds).length c2,.int .i64 t.limit,.int .i64 t.round]] e5∧Le e4 g5 d3 e5∧kWorst_l1 t.contribs 0 (([]:List Int)) ((wI (10000 - a4.1)))=(b1,c3)∧b1.length≤t.contribs.length) ?_ ?_
  ·refine c_block (c_loop (ι:=List Int × Option Addr × Nat × Nat × Int × Dat) (fun ⟨a1,a7,a8,a3,a6,b2⟩=>[(2,.pointer (some ⟨b4,0,none⟩)),(8,.pointer (some ⟨b5,0,none⟩)),(32,.slice a9 (t.contribs).length b0),(33,.int .i64 (t.contribs.length:Int)),(34,.int .i64 (a3:Int))]) (fun ⟨a1,a7,a8,a3,a6,b2⟩ e6=>Inv [] d w b2 [row intTy 3 (.slice a7 a1.length a8) (a1),blk b5 203 [.int .i64 a4.2.1,.int .i64 a4.2.2,.slice a7 a1.length a8,.int .i64 a6],blk b4 203 [.int .i64 0,.int .i64 0,.slice none 0 0,.int .i64 0],blk d0 26 [.slice A7 (t.schemes).length c8,.slice a9 (t.contribs).length b0,.slice c1 (t.kinds).length c2,.int .i64 t.limit,.int .i64 t.round]] e6∧Le e4 g5 b2 e6∧kWorst_l1 t.contribs 0 (([]:List Int)) ((wI (10000 - a4.1)))=kWorst_l1 (t.contribs.drop a3) a3 a1 a6∧a3≤t.contribs.length∧a1.length≤a3) (fun ⟨a1,a7,a8,a3,a6,b2⟩=>t.contribs.length - a3) (([]:List Int),none,0,0,(wI (10000 - a4.1)),e4) (.cons Z (.cons Z (.cons Z (.cons Z (.cons Z (.nil _)))))) ⟨j0,Le.refl _ _,rfl,Nat.zero_le _,by simp⟩ ?_)
   rintro ⟨a1,a7,a8,a3,a6,b2⟩ e6 ⟨e7,e8,g7,p2,p3⟩
   have j1:=row_len (e7.ok _ m0); unfold big at j1
   refine csr ((g_y (y_lss Z Z) Z Z (gnx ((c_seq (c_cond Z (fun c6=>?_) (fun c6=>?_)))))))
   ·replace c6:=OT c6
    obtain ⟨a0,g8⟩:=has (xs:=t.contribs) (k:=a3) (by omega)
    refine c_skip (x_next (c_seq (c_block (csr (?_)))))
    obtain ⟨p4,p5,p6,j2,j3,j4,p7⟩:=Sl.at_ (hS5.mono ((((((b7.t b8).t d2).t i6).t i8).t i9).t e8)) g8
    obtain ⟨p8,rfl,d4⟩:=j3
    obtain ⟨d5,d6,rfl,p9,q0⟩:=d4.fm
    refine g_y (y_indexAddr (i:=a3) el_23 Z j2 Z (rfl) (by omega)) Z Z (g_y (y_loadA (cs:=[.string a0.name,.int .i64 a0.base,.slice d5 (a0.bands).length d6,.int .i64 a0.pceil,.int .i64 a0.yceil,.int .i64 a0.round]) sh_70 Z (j4.part (f:=0) (.take _ (.take _ (.take _ (.take _ (.take _ (.take _ (.nil _))))))))) Z Z (g_e (ev_alloc e7 ze_70) Z Z ?_))
    rintro _ q1 ⟨d7,rfl,j5,d8⟩
    refine g_e (ev_store j5 Z Z Z sz_70 Z (.here _ _ (.here _ _ (.here _ _ (.here _ _ (.here _ _ (.here _ _ (.nil _))))))) (.hd _)) Z Z ?_
    rintro _ g9 ⟨h0,d9⟩
    refine gnx ((csr ((GA Y (gnx ((c_seq (csr ((gfa fo_70_2 Z Z Z (gld sh_34 Z h0 m0 (i:=2) Z Z Z (gln el_34 Z Z Z (GM Y ?_)))))))))))))
    refine gnx ((c_cut1 (ι:=Nat × Dat) (fun ⟨b6,e0⟩=>[(2,.pointer (some ⟨b4,0,none⟩)),(8,.pointer (some ⟨b5,0,none⟩)),(10,.pointer (some ⟨d7,0,none⟩)),(11,.int .i64 (b6:Int)),(32,.slice a9 (t.contribs).length b0),(33,.int .i64 (t.contribs.length:Int)),(34,.int .i64 (a3:Int))]) (fun ⟨b6,e0⟩ e9=>Inv [] d w e0 [blk d7 70 [.string a0.name,.int .i64 a0.base,.slice d5 (a0.bands).length d6,.int .i64 a0.pceil,.int .i64 a0.yceil,.int .i64 a0.round],row intTy 3 (.slice a7 a1.length a8) (a1),blk b5 203 [.int .i64 a4.2.1,.int .i64 a4.2.2,.slice a7 a1.length a8,.int .i64 a6],blk b4 203 [.int .i64 0,.int .i64 0,.slice none 0 0,.int .i64 0],blk d0 26 [.slice A7 (t.schemes).length c8,.slice a9 (t.contribs).length b0,.slice c1 (t.kinds).length c2,.int .i64 t.limit,.int .i64 t.round]] e9∧Le b2 g9 e0 e9∧kWorst_l2 a0 a0.bands 0 0=b6) ?_ ?_))
    ·refine c_block (c_loop (ι:=Nat × Nat × Dat) (fun ⟨a2,a5,b3⟩=>[(2,.pointer (some ⟨b4,0,none⟩)),(8,.pointer (some ⟨b5,0,none⟩)),(10,.pointer (some ⟨d7,0,none⟩)),(11,.int .i64 (a5:Int)),(32,.slice a9 (t.contribs).length b0),(33,.int .i64 (t.contribs.length:Int)),(34,.int .i64 (a3:Int)),(39,.slice d5 (a0.bands).length d6),(40,.int .i64 (a0.bands.length:Int)),(41,.int .i64 (a2:Int))]) (fun ⟨a2,a5,b3⟩ f0=>Inv [] d w b3 [blk d7 70 [.string a0.name,.int .i64 a0.base,.slice d5 (a0.bands).length d6,.int .i64 a0.pceil,.int .i64 a0.yceil,.int .i64 a0.round],row intTy 3 (.slice a7 a1.length a8) (a1),blk b5 203 [.int .i64 a4.2.1,.int .i64 a4.2.2,.slice a7 a1.length a8,.int .i64 a6],blk b4 203 [.int .i64 0,.int .i64 0,.slice none 0 0,.int .i64 0],blk d0 26 [.slice A7 (t.schemes).length c8,.slice a9 (t.contribs).length b0,.slice c1 (t.kinds).length c2,.int .i64 t.limit,.int .i64 t.round]] f0∧Le b2 g9 b3 f0∧kWorst_l2 a0 a0.bands 0 0=kWorst_l2 a0 (a0.bands.drop a2) a2 a5∧a2≤a0.bands.length∧a5≤a2) (fun ⟨a2,a5,b3⟩=>a0.bands.length - a2) (0,0,b2) (.cons Z (.cons Z (.cons Z (.cons Z (.cons Z (.cons Z (.cons Z (.cons Z (.cons Z (.cons Z (.nil _))))))))))) ⟨h0,Le.refl _ _,rfl,Nat.zero_le _,by omega⟩ ?_)
     rintro ⟨a2,a5,b3⟩ f0 ⟨h1,c7,f1,q2,q3⟩
     refine csr ((g_y (y_lss Z Z) Z Z (gnx ((c_seq (c_cond Z (fun c9=>?_) (fun c9=>?_)))))))
     ·replace c9:=OT c9
      obtain ⟨f2,f3⟩:=has (xs:=a0.bands) (k:=a2) (by omega)
      refine c_skip (x_next (c_seq (c_block (csr ((GM Y ?_))))))
      obtain ⟨q4,q5,q6,j6,j7,j8,q7⟩:=Sl.at_ (d4.mono ((d8.t d9).t c7)) f3
      obtain rfl:=j7
      refine g_y (y_indexAddr (i:=a2) el_34 Z j6 Z (rfl) (by omega)) Z Z (g_y (y_loadA (cs:=[.int .i64 f2.frm,.int .i64 f2.rate,.int .i64 f2.emp]) sh_33 Z (j8.part (f:=0) (.take _ (.take _ (.take _ (.nil _)))))) Z Z (g_e (ev_alloc h1 ze_33) Z Z ?_))
      rintro _ q8 ⟨q9,rfl,j9,f4⟩
      refine GA Y (g_e (ev_store j9 Z Z Z sz_33 Z (.here _ _ (.here _ _ (.here _ _ (.nil _)))) (.hd _)) Z Z ?_)
      rintro _ k0 ⟨k1,f5⟩
      refine gnx ((c_seq ?_))
      have f6:=k1.drew; have f7:=Le.drew b3 k0
      refine c_drawK 9 follows_mixed f6 (k_y 0 (by kernel_rfl) Z Z Z (fun _ _=>(y_fieldAddr fo_33_1 Z)) (k_y 1 (by kernel_rfl) Z Z Z (fun r0 ⟨r1,k2,r2⟩=>(y_load1 sh_3 Z ((blk_cells k2 m0).nth_ (i:=1) Z))) (k_y 2 (by kernel_rfl) Z Z Z (fun _ _=>(y_fieldAddr fo_70_2 Z)) (k_y 3 (by kernel_rfl) Z Z Z (fun r3 ⟨r4,k3,r5⟩=>(y_load1 sh_34 Z ((blk_cells k3 m1).nth_ (i:=2) Z))) (k_y 4 (by kernel_rfl) Z Z Z (fun _ _=>(y_move Z)) ?_)))))
      obtain ⟨r6,f8⟩:=has (xs:=a0.bands) (k:=a5) (by omega)
      obtain ⟨r7,r8,r9,k4,k5,k6,k7⟩:=Sl.at_ (d4.mono (((((d8.t d9).t c7).t f4).t f5).t f7)) f8
      obtain rfl:=k5
      refine k_y 5 (by kernel_rfl) Z Z Z (fun _ _=>(y_indexAddr (i:=a5) el_34 Z k4 Z (rfl) (by omega))) (k_y 6 (by kernel_rfl) Z Z Z (fun _ _=>(y_fieldAddr fo_33_1 Z)) (k_y 7 (by kernel_rfl) Z Z Z (fun s0 ⟨s1,s2,k8⟩=>(y_load1 sh_3 Z ((k6.keep ((k8).blk _ k7)).nth_ (i:=1) Z))) (k_y 8 (by kernel_rfl) Z Z Z (fun _ _=>(y_gtr Z Z)) (k_done (by kernel_rfl) (x_draw ?_)))))
      refine x_next (c_cond Z (fun c0=>?_) (fun c0=>?_))
      ·replace c0:=OT c0
       refine c_region (GM Y (GA Y (g_nil (x_blockN (x_next ?_)))))
       refine c_region (g_y (y_add Z Z (by omega)) Z Z (GM Y (g_nil ?_)))
       have k9:=f6.drop (.hd _)
       refine x_round (a2 + 1,a2,b3) (by dsimp only; omega) (.cons Z (.cons Z (.cons Z (.cons Z (.cons Z (.cons Z (.cons Z (.cons Z (.cons Z (.cons Z (.nil _))))))))))) ⟨k9,(((c7.t f4).t f5).t f7),f1.trans (ET (congrArg (fun l=>kWorst_l2 a0 l a2 a5) (drop_cons f3)) (ET (opt_some f8) (ET (IP c0) (rfl)))),by omega,by omega⟩
      ·replace c0:=OF c0
       refine c_skip (x_blockN (x_next ?_))
       refine c_region (g_y (y_add Z Z (by omega)) Z Z (GM Y (g_nil ?_)))
       have l0:=f6.drop (.hd _)
       refine x_round (a2 + 1,a5,b3) (by dsimp only; omega) (.cons Z (.cons Z (.cons Z (.cons Z (.cons Z (.cons Z (.cons Z (.cons Z (.cons Z (.cons Z (.nil _))))))))))) ⟨l0,(((c7.t f4).t f5).t f7),f1.trans (ET (congrArg (fun l=>kWorst_l2 a0 l a2 a5) (drop_cons f3)) (ET (opt_some f8) (ET (IN c0) (rfl)))),by omega,by omega⟩
     ·replace c9:=OF c9
      refine c_exit (x_thenE (x_rndE (x_blockE (x_cut (a5,b3) (.cons Z (.cons Z (.cons Z (.cons Z (.cons Z (.cons Z (.cons Z (.nil _)))))))) ⟨h1,c7,f1.trans (ET (congrArg (fun l=>kWorst_l2 a0 l a2 a5) (drop_nil (by omega))) (rfl))⟩))))
    ·rintro ⟨b6,e0⟩ e9 ⟨h2,h3,l1⟩
     refine x_next (csr ((gfa fo_203_2 Z Z Z (gld sh_163 Z h2 m2 (i:=2) Z Z Z (GM Y (g_e (ev_buildSl (T:=intTy) (xs:=[(b6:Int)]) h2 el_163 ze_3 Z Z (ble Z) (ble Z) (.cons Z Z Z Z (.here _ _ (.nil _)) (ble Z) (.nil _)) (.cons (x:=(b6:Int)) (cs:=[.int .i64 (b6:Int)]) Z .nil)) Z Z ?_))))))
     rintro _ s3 ⟨l2,l3,h4,l4,s4,rfl⟩
     refine g_e (ev_append l3 ei_163 Z Z m1 l4 (by simp only [LA,LC,LN,big] at *; omega) (by simp only [LA,LC,LN,big] at *; omega)) Z Z ?_
     rintro _ s5 ⟨l5,h5,l6,l7,rfl⟩
     have l8:=l5 _ (.tl _ (.hd _))
     refine gfa fo_203_2 Z Z Z (g_e (ev_store l8 Z Z Z sz_163 Z (.next _ (.next _ (.here _ _ (.nil _)))) (.tl _ (.tl _ (.hd _)))) Z Z ?_)
     rintro _ l9 ⟨m6,h6⟩
     refine gnx (?_)
     have f9:=m6.drew; have h7:=Le.drew l2 l9
     refine c_drawK 6 follows_mixed f9 (k_y 0 (by kernel_rfl) Z Z Z (fun _ _=>(y_fieldAddr fo_203_3 Z)) (k_y 1 (by kernel_rfl) Z Z Z (fun s6 ⟨s7,m7,s8⟩=>(y_load1 sh_3 Z ((blk_cells m7 m2).nth_ (i:=3) Z))) (k_y 2 (by kernel_rfl) Z Z Z (fun _ _=>(y_fieldAddr fo_70_2 Z)) (k_y 3 (by kernel_rfl) Z Z Z (fun s9 ⟨t0,m8,t1⟩=>(y_load1 sh_34 Z ((blk_cells m8 m0).nth_ (i:=2) Z))) (k_all (is:=[4]) (by kernel_rfl) (by simp) (.cons ?_ .nil))))))
     have h8:=bTop_c (list:=a0.bands) f9.lt (d4.mono ((((((d8.t d9).t h3).t h4).t h5).t h6).t h7))
     obtain ⟨m9,h9⟩:∃ r,bTop a0.bands=r:=⟨_,rfl⟩
     rw [h9] at h8
     refine k_op Z Z Z (ev_pure f9 pf_187 Z h8) ?_
     rintro _ t2 ⟨n0,i0,i1,rfl⟩
     refine k_next i0 i1 (k_y 5 (by kernel_rfl) Z Z Z (fun _ _=>(y_subW Z Z)) (k_all (is:=[6]) (by kernel_rfl) (by simp) (.cons ?_ .nil)))
     refine k_op Z Z Z (Ev.of_y2 (y_fieldAddr fo_203_3 Z)) ?_
     rintro _ _ ⟨rfl,rfl⟩
     refine k_bar (b_all (i:=7) (by kernel_rfl) (by kernel_rfl) (k_op Z Z Z (ev_store i0 Z Z Z sz_3 Z (.next _ (.next _ (.next _ (.here _ _ (.nil _))))) (.tl _ (.tl _ (.hd _)))) ?_))
     rintro _ t3 ⟨n1,n2⟩
     refine k_bar (b_done (by kernel_rfl) (x_draw ?_) (by kernel_rfl))
     refine x_blockN (x_next ?_)
     refine c_region (g_y (y_add Z Z (by omega)) Z Z (GM Y (g_nil ?_)))
     have n3:=n1.drop (.hd _)
     refine x_round ((a1 ++ [(b6:Int)]),l6,l7,a3 + 1,(wI (a6 - m9)),n0) (by dsimp only; omega) (.cons Z (.cons Z (.cons Z (.cons Z (.cons Z (.nil _)))))) ⟨n3,(((((((((e8.t d8).t d9).t h3).t h4).t h5).t h6).t h7).t i1).t n2),g7.trans (ET (congrArg (fun l=>kWorst_l1 l a3 a1 a6) (drop_cons g8)) (ET (BE l1) (ET (BE h9) (rfl)))),by omega,by first | omega | (simp only [LA,LC,LN] at *; omega)⟩
   ·replace c6:=OF c6
    refine c_exit (x_thenE (x_rndE (x_blockE (x_cut (a1,a7,a8,a6,b2) (.cons Z (.cons Z (.nil _))) ⟨e7,e8,g7.trans (ET (congrArg (fun l=>kWorst_l1 l a3 a1 a6) (drop_nil (by omega))) (rfl)),by first | omega | (simp only [LA,LC,LN] at *; omega)⟩))))
  ·rintro ⟨b1,c4,c5,c3,d3⟩ e5 ⟨g0,t4,n4,t5⟩
   have n5:=row_len (g0.ok _ m0); unfold big at n5
   refine x_next (csr ((g_y (y_loadA (cs:=[.int .i64 a4.2.1,.int .i64 a4.2.2,.slice c4 b1.length c5,.int .i64 c3]) sh_203 Z ((blk_cells g0 m1).part (f:=0) (.take _ (.take _ (.take _ (.take _ (.nil _))))))) Z Z (g_e (ev_store g0 Z Z Z sz_203 Z (.here _ _ (.here _ _ (.here _ _ (.here _ _ (.nil _))))) (.tl _ (.tl _ (.hd _)))) Z Z ?_))))
   rintro _ t6 ⟨n6,t7⟩
   refine GA Y (gnx ((c_ret ?_)))
   obtain ⟨t8,g1,t9,n7⟩:=pub_row n6 (.hd _) (by simp)
   have n8:kWorst t=((⟨a4.2.1,a4.2.2,b1,c3⟩:Choice),0):=ET (BE e2) (ET (IN b9) (ET (BE g4) (ET (BE n4) (rfl))))
   refine x_ret ⟨_,_,_,rfl,rfl,blk_cells g1 m1,sh_203,⟨_,_,rfl,rfl,rfl⟩⟩ (⟨_,_,rfl,g1.fr,g1.grow,by rw [n8]; exact ⟨_,rfl,⟨_,rfl,n7⟩⟩⟩)
def kCheck (t:Table):Int:=
 (bnd (kWorst t) fun a0=>
 (if (a0.2≠0) then a0.2
 else (if ((wI (a0.1.kept * 20)) < 10000) then 100
 else 0)))
theorem kCheck_c {t:Table} {cs_t:List Value} {d:Dat} {w:World} (hd:∀ b,d b→b < w.heap.size) (h_t:tableTy.rel d w t cs_t):Ret Tryz.prog 58 [.agg cs_t.toArray] w [] d (fun u d' w'=>u=.int .i64 ((kCheck t))):=by
 obtain ⟨v1,v2,v3,rfl,hS4,hS5,hS6⟩:=h_t
 obtain ⟨A7,c8,rfl,hn9,b9⟩:=hS4.fm
 obtain ⟨a7,a8,rfl,c0,c1⟩:=hS5.fm
 obtain ⟨a9,b0,rfl,c2,c3⟩:=hS6.fm
 refine ret_enter (n:=17) Tryz.func58 Z Z (ble Z) ?_
 have hI0:=Inv.start hd
 refine csr ((g_e (ev_box hI0 Z) Z Z ?_))
 rintro _ c4 ⟨c5,rfl,a4,a5⟩
 refine GA Y (gnx ((csr ((g_y (y_loadA (cs:=[.slice A7 (t.schemes).length c8,.slice a7 (t.contribs).length a8,.slice a9 (t.kinds).length b0,.int .i64 t.limit,.int .i64 t.round]) sh_26 Z ((blk_cells a4 m0).part (f:=0) (.take _ (.take _ (.take _ (.take _ (.take _ (.nil _)))))))) Z Z ?_)))))
 have a6:=kWorst_c (t:=t) a4.lt (show tableTy.rel _ _ t _ from ⟨_,_,_,rfl,(hS4.mono a5),(hS5.mono a5),(hS6.mono a5)⟩)
 obtain ⟨b1,a3⟩:∃ r,kWorst t=r:=⟨_,rfl⟩
 rw [a3] at a6
 refine g_e (ev_pure a4 pf_103 Z a6) Z Z ?_
 rintro _ c6 ⟨c7,b2,c9,⟨d0,rfl,b3⟩⟩
 obtain ⟨d1,rfl,b4⟩:=b3
 obtain ⟨d2,d3,rfl,d4,d5⟩:=b4.fm
 refine GM Y (g_y (y_extract Z Z) Z Z (g_y (y_extract Z Z) Z Z (g_e (ev_alloc b2 ze_203) Z Z ?_)))
 rintro _ d6 ⟨d7,rfl,b5,d8⟩
 refine g_e (ev_store b5 Z Z Z sz_203 Z (.here _ _ (.here _ _ (.here _ _ (.here _ _ (.nil _))))) (.hd _)) Z Z ?_
 rintro _ d9 ⟨a1,e0⟩
 refine GA Y (gnx ((c_seq (csr ((GM Y (g_y (y_neq Z Z) Z Z (gnx ((c_cond Z (fun a0=>?_) (fun a0=>?_)))))))))))
 ·replace a0:=OT a0
  refine csr ((GM Y (GA Y (gnx ((c_ret ?_))))))
  have b6:kCheck t=b1.2:=ET (BE a3) (ET (IP a0) (rfl))
  refine x_thenR (x_ret ⟨_,_,rfl,rfl,rfl⟩ ?_)
  exact ⟨_,_,rfl,a1.fr,a1.grow,by rw [b6]; exact rfl⟩
 ·replace a0:=OF a0
  refine c_skip (x_next (c_seq (csr ((gfa fo_203_3 Z Z Z (gld sh_3 Z a1 m0 (i:=3) Z Z Z (g_y (y_mulW Z Z) Z Z (g_y (y_lss Z Z) Z Z (gnx ((c_cond Z (fun a2=>?_) (fun a2=>?_))))))))))))
  ·replace a2:=OT a2
   refine csr ((GA Y (gnx ((c_ret ?_)))))
   have b7:kCheck t=100:=ET (BE a3) (ET (IN a0) (ET (IP a2) (rfl)))
   refine x_thenR (x_ret ⟨_,_,rfl,rfl,rfl⟩ ?_)
   exact ⟨_,_,rfl,a1.fr,a1.grow,by rw [b7]; exact rfl⟩
  ·replace a2:=OF a2
   refine c_skip (x_next (csr ((GA Y (gnx ((c_ret ?_)))))))
   have b8:kCheck t=0:=ET (BE a3) (ET (IN a0) (ET (IN a2) (rfl)))
   refine x_ret ⟨_,_,rfl,rfl,rfl⟩ (⟨_,_,rfl,a1.fr,a1.grow,by rw [b8]; exact rfl⟩)
def fFloor_m1 (n:Int) (q:Int):Int × Int:=
 (if ((n.tmod q) < 0) then ((wI ((wI (n.tdiv q)) - 1)),(wI ((n.tmod q) + q)))
 else ((wI (n.tdiv q)),(n.tmod q)))
def fFloor (n:Int) (q:Int):Int × Int:=
 (bnd (fFloor_m1 n q) fun ⟨a0,a1⟩=>
 (a0,a1))
theorem fFloor_c {n:Int} {q:Int} {d:Dat} {w:World} (hd:∀ b,d b→b < w.heap.size) (hq0:0 < q):Ret Tryz.prog 291 [.int .i64 n,.int .i64 q] w [] d (fun u d' w'=>u=.tuple #[.int .i64 ((fFloor n q).1),.int .i64 ((fFloor n q).2)]):=by
 refine ret_enter (n:=23) Tryz.func291 Z Z (ble Z) ?_
 have hI0:=Inv.start hd
 refine csr ((GA Y (GA Y (gnx ((c_seq ?_))))))
 have hI3:=hI0.drew; have hle4:=Le.drew d w
 refine c_drawK 7 follows_mixed hI3 (k_y 0 (by kernel_rfl) Z Z Z (fun _ _=>(y_move Z)) (k_y 1 (by kernel_rfl) Z Z Z (fun _ _=>(y_move Z)) (k_y 2 (by kernel_rfl) Z Z Z (fun _ _=>(y_quoW Z Z (hq0))) (k_y 3 (by kernel_rfl) Z Z Z (fun _ _=>(y_move Z)) (k_y 4 (by kernel_rfl) Z Z Z (fun _ _=>(y_move Z)) (k_y 5 (by kernel_rfl) Z Z Z (fun _ _=>(y_rem Z Z (hq0))) (k_y 6 (by kernel_rfl) Z Z Z (fun _ _=>(y_assign Z)) (k_all (is:=[7]) (by kernel_rfl) (by simp) (.cons ?_ .nil)))))))))
 refine k_op Z Z Z (Ev.of_y2 (y_assign Z)) ?_
 rintro _ _ ⟨rfl,rfl⟩
 refine k_bar (b_done (by kernel_rfl) (x_draw ?_) (by kernel_rfl))
 refine x_next (c_cut (ι:=Int × Int × Dat) (fun ⟨a1,a2,d7⟩=>[(6,.int .i64 a1),(7,.int .i64 a2)]) (fun ⟨a1,a2,d7⟩ w6=>Inv [] d w d7 [] w6∧Le d w.drew d7 w6∧fFloor_m1 n q=(a1,a2)) ?_ ?_)
 ·refine csr ((GM Y (g_y (y_lss Z Z) Z Z (gnx ((c_cond Z (fun a0=>?_) (fun a0=>?_)))))))
  ·replace a0:=OT a0
   refine c_region (GM Y (g_y (y_subW Z Z) Z Z (GM Y (GM Y (g_y (y_addW Z Z) Z Z (GA Y (GA Y (g_nil (x_cut ((wI ((wI (n.tdiv q)) - 1)),(wI ((n.tmod q) + q)),d) (.cons Z (.cons Z (.nil _))) ⟨hI3,(Le.refl _ _),ET (IP a0) (rfl)⟩)))))))))
  ·replace a0:=OF a0
   refine c_skip (x_cut ((wI (n.tdiv q)),(n.tmod q),d) (.cons Z (.cons Z (.nil _))) ⟨hI3,(Le.refl _ _),ET (IN a0) (rfl)⟩)
 ·rintro ⟨a1,a2,d7⟩ w6 ⟨hI8,hle9,a3⟩
  refine csr ((GM Y (GM Y (GA Y (GA Y (gnx ((c_ret ?_))))))))
  have a4:fFloor n q=(a1,a2):=ET (BE a3) (rfl)
  refine x_ret ⟨_,_,rfl,rfl,⟨_,_,rfl,rfl,rfl⟩⟩ (⟨_,_,rfl,hI8.fr,hI8.grow,by rw [a4]; exact rfl⟩)
def fNearer (low:Int) (left:Int) (q:Int) (mode:Int):Bool:=
 (if (mode=2) then (decide (0 < left))
 else (if (mode=3) then (if (0 < left) then (decide (low < 0))
 else false)
 else (if (mode=1) then false
 else (if (left≠(wI (q - left))) then (decide ((wI (q - left)) < left))
 else (if (mode=4) then (decide (0≤low))
 else (if (mode=6) then (decide (low < 0))
 else (decide ((low.tmod 2)≠0))))))))
theorem fNearer_c {low:Int} {left:Int} {q:Int} {mode:Int} {d:Dat} {w:World} (hd:∀ b,d b→b < w.heap.size):Ret Tryz.prog 292 [.int .i64 low,.int .i64 left,.int .i64 q,.int .i64 mode] w [] d (fun u d' w'=>u=.bool ((fNearer low left q mode))):=by
 refine ret_enter (n:=48) Tryz.func292 Z Z (ble Z) ?_
 have hI0:=Inv.start hd
 refine csr ((GA Y (gnx ((c_seq (csr ((GM Y (gnx ((c_block (csr (?_)))))))))))))
 refine g_y (y_eql Z Z) Z Z (GA Y (gnx ((c_cond Z (fun hc5=>?_) (fun hc5=>?_)))))
 ·replace hc5:=OT hc5
  refine csr ((GM Y (g_y (y_gtr Z Z) Z Z (GA Y (gnx ((c_ret ?_)))))))
  have hF6:fNearer low left q mode=(decide (0 < left)):=ET (IP hc5) (rfl)
  refine x_blockR (x_thenR (x_ret ⟨_,_,rfl,rfl,rfl⟩ ?_))
  exact ⟨_,_,rfl,hI0.fr,hI0.grow,by rw [hF6]; exact rfl⟩
 ·replace hc5:=OF hc5
  refine csr ((g_y (y_eql Z Z) Z Z (GA Y (gnx ((c_cond Z (fun hc7=>?_) (fun hc7=>?_)))))))
  ·replace hc7:=OT hc7
   refine csr ((GM Y (g_y (y_gtr Z Z) Z Z (GM Y (g_split (t:=19) Z (fun hg8=>?_) (fun hg8=>?_))))))
   ·replace hg8:=OT hg8
    refine GM Y (g_y (y_lss Z Z) Z Z (g_y (y_pickT Z Z) Z Z (GA Y (gnx ((c_ret ?_))))))
    have hF9:fNearer low left q mode=(decide (low < 0)):=ET (IN hc5) (ET (IP hc7) (ET (IP hg8) (rfl)))
    refine x_blockR (x_thenR (x_ret ⟨_,_,rfl,rfl,rfl⟩ ?_))
    exact ⟨_,_,rfl,hI0.fr,hI0.grow,by rw [hF9]; exact rfl⟩
   ·replace hg8:=OF hg8
    refine gsk Z Z (gsk Z Z (g_y (y_pickF Z Z) Z Z (GA Y (gnx ((c_ret ?_))))))
    have a4:fNearer low left q mode=false:=ET (IN hc5) (ET (IP hc7) (ET (IN hg8) (rfl)))
    refine x_blockR (x_thenR (x_ret ⟨_,_,rfl,rfl,rfl⟩ ?_))
    exact ⟨_,_,rfl,hI0.fr,hI0.grow,by rw [a4]; exact rfl⟩
  ·replace hc7:=OF hc7
   refine csr ((g_y (y_eql Z Z) Z Z (GA Y (gnx ((c_cond Z (fun a0=>?_) (fun a0=>?_)))))))
   ·replace a0:=OT a0
    refine csr ((GA Y (gnx ((c_ret ?_)))))
    have a5:fNearer low left q mode=false:=ET (IN hc5) (ET (IN hc7) (ET (IP a0) (rfl)))
    refine x_blockR (x_thenR (x_ret ⟨_,_,rfl,rfl,rfl⟩ ?_))
    exact ⟨_,_,rfl,hI0.fr,hI0.grow,by rw [a5]; exact rfl⟩
   ·replace a0:=OF a0
    refine c_skip (x_blockN (x_next ?_))
    refine csr ((GM Y (GM Y (g_y (y_subW Z Z) Z Z (GA Y (gnx ((c_seq (c_block (csr ((GM Y (GM Y ?_)))))))))))))
    refine g_y (y_neq Z Z) Z Z (GA Y (gnx ((c_cond Z (fun a1=>?_) (fun a1=>?_)))))
    ·replace a1:=OT a1
     refine csr ((GM Y (GM Y (g_y (y_gtr Z Z) Z Z (GA Y (gnx ((c_ret ?_))))))))
     have a6:fNearer low left q mode=(decide ((wI (q - left)) < left)):=ET (IN hc5) (ET (IN hc7) (ET (IN a0) (ET (IP a1) (rfl))))
     refine x_blockR (x_thenR (x_ret ⟨_,_,rfl,rfl,rfl⟩ ?_))
     exact ⟨_,_,rfl,hI0.fr,hI0.grow,by rw [a6]; exact rfl⟩
    ·replace a1:=OF a1
     refine csr ((GM Y (g_y (y_eql Z Z) Z Z (GA Y (gnx ((c_cond Z (fun a2=>?_) (fun a2=>?_))))))))
     ·replace a2:=OT a2
      refine csr ((GM Y (g_y (y_geq Z Z) Z Z (GA Y (gnx ((c_ret ?_)))))))
      have a7:fNearer low left q mode=(decide (0≤low)):=ET (IN hc5) (ET (IN hc7) (ET (IN a0) (ET (IN a1) (ET (IP a2) (rfl)))))
      refine x_blockR (x_thenR (x_ret ⟨_,_,rfl,rfl,rfl⟩ ?_))
      exact ⟨_,_,rfl,hI0.fr,hI0.grow,by rw [a7]; exact rfl⟩
     ·replace a2:=OF a2
      refine csr ((GM Y (g_y (y_eql Z Z) Z Z (GA Y (gnx ((c_cond Z (fun a3=>?_) (fun a3=>?_))))))))
      ·replace a3:=OT a3
       refine csr ((GM Y (g_y (y_lss Z Z) Z Z (GA Y (gnx ((c_ret ?_)))))))
       have a8:fNearer low left q mode=(decide (low < 0)):=ET (IN hc5) (ET (IN hc7) (ET (IN a0) (ET (IN a1) (ET (IN a2) (ET (IP a3) (rfl))))))
       refine x_blockR (x_thenR (x_ret ⟨_,_,rfl,rfl,rfl⟩ ?_))
       exact ⟨_,_,rfl,hI0.fr,hI0.grow,by rw [a8]; exact rfl⟩
      ·replace a3:=OF a3
       refine c_skip (x_blockN (x_next ?_))
       refine csr ((GM Y (g_y (y_rem Z Z (by decide)) Z Z (g_y (y_neq Z Z) Z Z (GA Y (gnx ((c_ret ?_))))))))
       have a9:fNearer low left q mode=(decide ((low.tmod 2)≠0)):=ET (IN hc5) (ET (IN hc7) (ET (IN a0) (ET (IN a1) (ET (IN a2) (ET (IN a3) (rfl))))))
       refine x_ret ⟨_,_,rfl,rfl,rfl⟩ (⟨_,_,rfl,hI0.fr,hI0.grow,by rw [a9]; exact rfl⟩)
def fRound_m1 (q:Int) (mode:Int) (a0:Int × Int):Int:=
 (if (0 < a0.2) then (bnd (fNearer a0.1 a0.2 q mode) fun a1=>
 (cond a1 ((wI (a0.1 + 1)))
 a0.1))
 else a0.1)
def fRound (n:Int) (q:Int) (mode:Int):Int × Int:=
 (if (q≤0) then (0,1)
 else (bnd (fMode mode) fun a0=>
 (cond a0 ((bnd (fFloor n q) fun a1=>
 (bnd (fRound_m1 q mode a1) fun a2=>
 (a2,0))))
 ((0,1)))))
theorem fRound_c {n:Int} {q:Int} {mode:Int} {d:Dat} {w:World} (hd:∀ b,d b→b < w.heap.size):Ret Tryz.prog 259 [.int .i64 n,.int .i64 q,.int .i64 mode] w [] d (fun u d' w'=>u=.tuple #[.int .i64 ((fRound n q mode).1),.int .i64 ((fRound n q mode).2)]):=by
 refine ret_enter (n:=35) Tryz.func259 Z Z (ble Z) ?_
 have hI0:=Inv.start hd
 refine csr ((GA Y (GA Y (gnx ((c_seq (csr ((GM Y (g_y (y_leq Z Z) Z Z (GM Y (g_split (t:=12) Z (fun a0=>?_) (fun a0=>?_)))))))))))))
 ·replace a0:=OT a0
  refine gsk Z Z (gsk Z Z (gsk Z Z (g_y (y_pickT Z Z) Z Z (gnx ((c_condT Z (csr ((GA Y (GA Y (gnx ((c_ret ?_)))))))))))))
  have c1:fRound n q mode=(0,1):=ET (IP a0) (rfl)
  refine x_thenR (x_ret ⟨_,_,rfl,rfl,⟨_,_,rfl,rfl,rfl⟩⟩ ?_)
  exact ⟨_,_,rfl,hI0.fr,hI0.grow,by rw [c1]; exact rfl⟩
 ·replace a0:=OF a0
  refine GM Y ?_
  have b2:=fMode_c (mode:=mode) hI0.lt
  obtain ⟨c6,a7⟩:∃ r,fMode mode=r:=⟨_,rfl⟩
  rw [a7] at b2
  refine g_e (ev_pure hI0 pf_245 Z b2) Z Z ?_
  rintro _ c7 ⟨c8,a5,c9,rfl⟩
  refine g_y (y_not Z) Z Z (g_y (y_pickF Z Z) Z Z (gnx ((c_cond Z (fun a3=>?_) (fun a3=>?_)))))
  ·replace a3:=not_t a3
   refine csr ((GA Y (GA Y (gnx ((c_ret ?_))))))
   have c2:fRound n q mode=(0,1):=ET (IN a0) (ET (BE a7) (ET (cond_f a3) (rfl)))
   refine x_thenR (x_ret ⟨_,_,rfl,rfl,⟨_,_,rfl,rfl,rfl⟩⟩ ?_)
   exact ⟨_,_,rfl,a5.fr,a5.grow,by rw [c2]; exact rfl⟩
  ·replace a3:=not_f a3
   refine c_skip (x_next (csr ((GM Y (GM Y ?_)))))
   have b3:=fFloor_c (n:=n) (q:=q) a5.lt (by first | omega | (simp only [LA,LC,LN]; omega))
   obtain ⟨a1,b4⟩:∃ r,fFloor n q=r:=⟨_,rfl⟩
   rw [b4] at b3
   refine g_e (ev_pure a5 pf_291 Z b3) Z Z ?_
   rintro _ c3 ⟨b5,a8,d0,rfl⟩
   refine GM Y (g_y (y_extract Z Z) Z Z (g_y (y_extract Z Z) Z Z (GA Y (GA Y (gnx ((c_cut (ι:=Int × Dat) (fun ⟨a4,a6⟩=>[(8,.int .i64 a4)]) (fun ⟨a4,a6⟩ a9=>Inv [] d w a6 [] a9∧Le b5 c3 a6 a9∧fRound_m1 q mode a1=a4) ?_ ?_)))))))
   ·refine csr ((GM Y (g_y (y_gtr Z Z) Z Z (GM Y (g_split (t:=25) Z (fun a2=>?_) (fun a2=>?_))))))
    ·replace a2:=OT a2
     refine GM Y (GM Y (GM Y (GM Y ?_)))
     have b6:=fNearer_c (low:=a1.1) (left:=a1.2) (q:=q) (mode:=mode) a8.lt
     obtain ⟨d1,b0⟩:∃ r,fNearer a1.1 a1.2 q mode=r:=⟨_,rfl⟩
     rw [b0] at b6
     refine g_e (ev_pure a8 pf_292 Z b6) Z Z ?_
     rintro _ d2 ⟨b7,b8,b9,rfl⟩
     refine g_y (y_pickT Z Z) Z Z (gnx ((c_cond Z (fun b1=>?_) (fun b1=>?_))))
     ·skip
      refine c_region (GM Y (g_y (y_addW Z Z) Z Z (GA Y (g_nil (x_cut ((wI (a1.1 + 1)),b7) (.cons Z (.nil _)) ⟨b8,b9,ET (IP a2) (ET (BE b0) (ET (cond_t b1) (rfl)))⟩)))))
     ·skip
      refine c_skip (x_cut (a1.1,b7) (.cons Z (.nil _)) ⟨b8,b9,ET (IP a2) (ET (BE b0) (ET (cond_f b1) (rfl)))⟩)
    ·replace a2:=OF a2
     refine gsk Z Z (gsk Z Z (gsk Z Z (gsk Z Z (gsk Z Z (g_y (y_pickF Z Z) Z Z (gnx ((c_condF Z (c_skip (x_cut (a1.1,b5) (.cons Z (.nil _)) ⟨a8,(Le.refl _ _),ET (IN a2) (rfl)⟩))))))))))
   ·rintro ⟨a4,a6⟩ a9 ⟨c0,d3,c4⟩
    refine csr ((GM Y (GA Y (GA Y (gnx ((c_ret ?_)))))))
    have c5:fRound n q mode=(a4,0):=ET (IN a0) (ET (BE a7) (ET (cond_t a3) (ET (BE b4) (ET (BE c4) (rfl)))))
    refine x_ret ⟨_,_,rfl,rfl,⟨_,_,rfl,rfl,rfl⟩⟩ (⟨_,_,rfl,c0.fr,c0.grow,by rw [c5]; exact rfl⟩)
def eValue (e:Elem):Int × Int:=
 (bnd (mRight ([e.amount])) fun a1=>
 (cond a1 ((if (e.units < 0) then (0,1)
 else (if (100000 < e.units) then (0,1)
 else (bnd (fRound ((wI (e.amount * e.units))) 100 4) fun a0=>
 (if (a0.2≠0) then (0,a0.2)
 else (bnd (mRight ([a0.1])) fun a2=>
 (cond a2 ((a0.1,0))
 ((0,10)))))))))
 ((0,10))))
theorem eValue_c {e:Elem} {d:Dat} {w:World} (hd:∀ b,d b→b < w.heap.size):Ret Tryz.prog 205 [.agg #[.string e.kind,.int .i64 e.amount,.int .i64 e.units]] w [] d (fun u d' w'=>u=.tuple #[.int .i64 ((eValue e).1),.int .i64 ((eValue e).2)]):=by
 refine ret_enter (n:=36) Tryz.func205 Z Z (ble Z) ?_
 have hI0:=Inv.start hd
 refine csr ((g_e (ev_box hI0 Z) Z Z ?_))
 rintro _ w1 ⟨b4,rfl,hI2,hle3⟩
 refine GA Y (GA Y (gnx ((c_seq (csr ((gfa fo_40_1 Z Z Z (gld sh_2 Z hI2 m0 (i:=1) Z Z Z (g_e (ev_buildSl (T:=intTy) (xs:=[e.amount]) hI2 el_174 ze_2 Z Z (ble Z) (ble Z) (.cons Z Z Z Z (.here _ _ (.nil _)) (ble Z) (.nil _)) (.cons (x:=e.amount) (cs:=[.int .i64 e.amount]) Z .nil)) Z Z ?_)))))))))
 rintro _ c6 ⟨c7,b2,c8,b8,c9,rfl⟩
 have b3:=mRight_c (list:=[e.amount]) b2.lt b8
 obtain ⟨d0,a5⟩:∃ r,mRight ([e.amount])=r:=⟨_,rfl⟩
 rw [a5] at b3
 refine g_e (ev_pure b2 pf_117 Z b3) Z Z ?_
 rintro _ d1 ⟨d2,a0,d3,rfl⟩
 refine g_y (y_not Z) Z Z (gnx ((c_cond Z (fun a1=>?_) (fun a1=>?_))))
 ·replace a1:=not_t a1
  refine csr ((GA Y (GA Y (gnx ((c_ret ?_))))))
  have b9:eValue e=(0,10):=ET (BE a5) (ET (cond_f a1) (rfl))
  refine x_thenR (x_ret ⟨_,_,rfl,rfl,⟨_,_,rfl,rfl,rfl⟩⟩ ?_)
  exact ⟨_,_,rfl,a0.fr,a0.grow,by rw [b9]; exact rfl⟩
 ·replace a1:=not_f a1
  refine c_skip (x_next (c_seq (csr ((gfa fo_40_2 Z Z Z (gld sh_2 Z a0 m0 (i:=2) Z Z Z (g_y (y_lss Z Z) Z Z (GM Y (g_split (t:=14) Z (fun a2=>?_) (fun a2=>?_))))))))))
  ·replace a2:=OT a2
   refine gsk Z Z (gsk Z Z (gsk Z Z (g_y (y_pickT Z Z) Z Z (gnx ((c_condT Z (csr ((GA Y (GA Y (gnx ((c_ret ?_)))))))))))))
   have c0:eValue e=(0,1):=ET (BE a5) (ET (cond_t a1) (ET (IP a2) (rfl)))
   refine x_thenR (x_ret ⟨_,_,rfl,rfl,⟨_,_,rfl,rfl,rfl⟩⟩ ?_)
   exact ⟨_,_,rfl,a0.fr,a0.grow,by rw [c0]; exact rfl⟩
  ·replace a2:=OF a2
   refine gfa fo_40_2 Z Z Z (gld sh_2 Z a0 m0 (i:=2) Z Z Z (g_y (y_gtr Z Z) Z Z (g_y (y_pickF Z Z) Z Z (gnx ((c_cond Z (fun a3=>?_) (fun a3=>?_)))))))
   ·replace a3:=OT a3
    refine csr ((GA Y (GA Y (gnx ((c_ret ?_))))))
    have c1:eValue e=(0,1):=ET (BE a5) (ET (cond_t a1) (ET (IN a2) (ET (IP a3) (rfl))))
    refine x_thenR (x_ret ⟨_,_,rfl,rfl,⟨_,_,rfl,rfl,rfl⟩⟩ ?_)
    exact ⟨_,_,rfl,a0.fr,a0.grow,by rw [c1]; exact rfl⟩
   ·replace a3:=OF a3
    refine c_skip (x_next (csr ((gfa fo_40_1 Z Z Z (gld sh_2 Z a0 m0 (i:=1) Z Z Z (gfa fo_40_2 Z Z Z (gld sh_2 Z a0 m0 (i:=2) Z Z Z (g_y (y_mulW Z Z) Z Z ?_))))))))
    have b5:=fRound_c (n:=(wI (e.amount * e.units))) (q:=100) (mode:=4) a0.lt
    obtain ⟨a6,a8⟩:∃ r,fRound ((wI (e.amount * e.units))) 100 4=r:=⟨_,rfl⟩
    rw [a8] at b5
    refine g_e (ev_pure a0 pf_259 Z b5) Z Z ?_
    rintro _ d4 ⟨d5,b0,d6,rfl⟩
    refine GM Y (g_y (y_extract Z Z) Z Z (g_y (y_extract Z Z) Z Z (GA Y (GA Y (gnx ((c_seq (csr ((GM Y (g_y (y_neq Z Z) Z Z (gnx (?_)))))))))))))
    refine c_cond Z (fun a4=>?_) (fun a4=>?_)
    ·replace a4:=OT a4
     refine csr ((GM Y (GA Y (GA Y (gnx ((c_ret ?_)))))))
     have c2:eValue e=(0,a6.2):=ET (BE a5) (ET (cond_t a1) (ET (IN a2) (ET (IN a3) (ET (BE a8) (ET (IP a4) (rfl))))))
     refine x_thenR (x_ret ⟨_,_,rfl,rfl,⟨_,_,rfl,rfl,rfl⟩⟩ ?_)
     exact ⟨_,_,rfl,b0.fr,b0.grow,by rw [c2]; exact rfl⟩
    ·replace a4:=OF a4
     refine c_skip (x_next (c_seq (csr ((GM Y (g_e (ev_buildSl (T:=intTy) (xs:=[a6.1]) b0 el_174 ze_2 Z Z (ble Z) (ble Z) (.cons Z Z Z Z (.here _ _ (.nil _)) (ble Z) (.nil _)) (.cons (x:=a6.1) (cs:=[.int .i64 a6.1]) Z .nil)) Z Z ?_))))))
     rintro _ d7 ⟨d8,b6,d9,c3,e0,rfl⟩
     have b7:=mRight_c (list:=[a6.1]) b6.lt c3
     obtain ⟨e1,b1⟩:∃ r,mRight ([a6.1])=r:=⟨_,rfl⟩
     rw [b1] at b7
     refine g_e (ev_pure b6 pf_117 Z b7) Z Z ?_
     rintro _ e2 ⟨e3,a9,e4,rfl⟩
     refine g_y (y_not Z) Z Z (gnx ((c_cond Z (fun a7=>?_) (fun a7=>?_))))
     ·replace a7:=not_t a7
      refine csr ((GA Y (GA Y (gnx ((c_ret ?_))))))
      have c4:eValue e=(0,10):=ET (BE a5) (ET (cond_t a1) (ET (IN a2) (ET (IN a3) (ET (BE a8) (ET (IN a4) (ET (BE b1) (ET (cond_f a7) (rfl))))))))
      refine x_thenR (x_ret ⟨_,_,rfl,rfl,⟨_,_,rfl,rfl,rfl⟩⟩ ?_)
      exact ⟨_,_,rfl,a9.fr,a9.grow,by rw [c4]; exact rfl⟩
     ·replace a7:=not_f a7
      refine c_skip (x_next (csr ((GM Y (GA Y (GA Y (gnx ((c_ret ?_)))))))))
      have c5:eValue e=(a6.1,0):=ET (BE a5) (ET (cond_t a1) (ET (IN a2) (ET (IN a3) (ET (BE a8) (ET (IN a4) (ET (BE b1) (ET (cond_t a7) (rfl))))))))
      refine x_ret ⟨_,_,rfl,rfl,⟨_,_,rfl,rfl,rfl⟩⟩ (⟨_,_,rfl,a9.fr,a9.grow,by rw [c5]; exact rfl⟩)
def eCheck (t:Table) (e:Elem):Int:=
 (bnd (tKind t e.kind) fun a0=>
 (if (a0.2≠0) then a0.2
 else (bnd (mRight ([e.amount])) fun a1=>
 (cond a1 ((if (e.units < 0) then 1
 else (if (100000 < e.units) then 1
 else (bnd (eValue e) fun a2=>
 a2.2))))
 10))))
theorem eCheck_c {t:Table} {cs_t:List Value} {e:Elem} {d:Dat} {w:World} (hd:∀ b,d b→b < w.heap.size) (h_t:tableTy.rel d w t cs_t):Ret Tryz.prog 181 [.agg cs_t.toArray,.agg #[.string e.kind,.int .i64 e.amount,.int .i64 e.units]] w [] d (fun u d' w'=>u=.int .i64 ((eCheck t e))):=by
 obtain ⟨v1,v2,v3,rfl,hS4,hS5,hS6⟩:=h_t
 obtain ⟨A7,c8,rfl,hn9,d3⟩:=hS4.fm
 obtain ⟨b7,b8,rfl,d4,d5⟩:=hS5.fm
 obtain ⟨b9,c0,rfl,d6,d7⟩:=hS6.fm
 refine ret_enter (n:=38) Tryz.func181 Z Z (ble Z) ?_
 have hI0:=Inv.start hd
 refine csr ((g_e (ev_box hI0 Z) Z Z ?_))
 rintro _ d8 ⟨d9,rfl,c1,a9⟩
 refine g_e (ev_box c1 Z) Z Z ?_
 rintro _ e0 ⟨e1,rfl,a7,b0⟩
 refine GA Y (gnx ((c_seq (csr ((g_y (y_loadA (cs:=[.slice A7 (t.schemes).length c8,.slice b7 (t.contribs).length b8,.slice b9 (t.kinds).length c0,.int .i64 t.limit,.int .i64 t.round]) sh_26 Z ((blk_cells a7 m1).part (f:=0) (.take _ (.take _ (.take _ (.take _ (.take _ (.nil _)))))))) Z Z (gfa fo_40_0 Z Z Z (gld sh_9 Z a7 m0 (i:=0) Z Z Z ?_))))))))
 have b1:=tKind_c (t:=t) (name:=e.kind) a7.lt (show tableTy.rel _ _ t _ from ⟨_,_,_,rfl,(hS4.mono (a9.t b0)),(hS5.mono (a9.t b0)),(hS6.mono (a9.t b0))⟩)
 obtain ⟨c2,a5⟩:∃ r,tKind t e.kind=r:=⟨_,rfl⟩
 rw [a5] at b1
 refine g_e (ev_pure a7 pf_204 Z b1) Z Z ?_
 rintro _ e2 ⟨e3,c3,e4,rfl⟩
 refine GM Y (g_y (y_extract Z Z) Z Z (g_y (y_extract Z Z) Z Z (g_e (ev_alloc c3 ze_36) Z Z ?_)))
 rintro _ e5 ⟨e6,rfl,c4,e7⟩
 refine g_e (ev_store c4 Z Z Z sz_36 Z (.here _ _ (.here _ _ (.here _ _ (.here _ _ (.nil _))))) (.hd _)) Z Z ?_
 rintro _ e8 ⟨a8,e9⟩
 refine GA Y (gnx ((csr ((GM Y (g_y (y_neq Z Z) Z Z (gnx ((c_cond Z (fun a1=>?_) (fun a1=>?_))))))))))
 ·replace a1:=OT a1
  refine csr ((GM Y (GA Y (gnx ((c_ret ?_))))))
  have c5:eCheck t e=c2.2:=ET (BE a5) (ET (IP a1) (rfl))
  refine x_thenR (x_ret ⟨_,_,rfl,rfl,rfl⟩ ?_)
  exact ⟨_,_,rfl,a8.fr,a8.grow,by rw [c5]; exact rfl⟩
 ·replace a1:=OF a1
  refine c_skip (x_next (c_seq (csr ((gfa fo_40_1 Z Z Z (gld sh_2 Z a8 m1 (i:=1) Z Z Z (g_e (ev_buildSl (T:=intTy) (xs:=[e.amount]) a8 el_174 ze_2 Z Z (ble Z) (ble Z) (.cons Z Z Z Z (.here _ _ (.nil _)) (ble Z) (.nil _)) (.cons (x:=e.amount) (cs:=[.int .i64 e.amount]) Z .nil)) Z Z ?_)))))))
  rintro _ f0 ⟨f1,b2,f2,c6,f3,rfl⟩
  have b3:=mRight_c (list:=[e.amount]) b2.lt c6
  obtain ⟨f4,a6⟩:∃ r,mRight ([e.amount])=r:=⟨_,rfl⟩
  rw [a6] at b3
  refine g_e (ev_pure b2 pf_117 Z b3) Z Z ?_
  rintro _ f5 ⟨f6,a0,f7,rfl⟩
  refine g_y (y_not Z) Z Z (gnx ((c_cond Z (fun a2=>?_) (fun a2=>?_))))
  ·replace a2:=not_t a2
   refine csr ((GA Y (gnx ((c_ret ?_)))))
   have c7:eCheck t e=10:=ET (BE a5) (ET (IN a1) (ET (BE a6) (ET (cond_f a2) (rfl))))
   refine x_thenR (x_ret ⟨_,_,rfl,rfl,rfl⟩ ?_)
   exact ⟨_,_,rfl,a0.fr,a0.grow,by rw [c7]; exact rfl⟩
  ·replace a2:=not_f a2
   refine c_skip (x_next (c_seq (csr ((gfa fo_40_2 Z Z Z (gld sh_2 Z a0 m1 (i:=2) Z Z Z (g_y (y_lss Z Z) Z Z (GM Y (g_split (t:=27) Z (fun a3=>?_) (fun a3=>?_))))))))))
   ·replace a3:=OT a3
    refine gsk Z Z (gsk Z Z (gsk Z Z (g_y (y_pickT Z Z) Z Z (gnx ((c_condT Z (csr ((GA Y (gnx ((c_ret ?_))))))))))))
    have c9:eCheck t e=1:=ET (BE a5) (ET (IN a1) (ET (BE a6) (ET (cond_t a2) (ET (IP a3) (rfl)))))
    refine x_thenR (x_ret ⟨_,_,rfl,rfl,rfl⟩ ?_)
    exact ⟨_,_,rfl,a0.fr,a0.grow,by rw [c9]; exact rfl⟩
   ·replace a3:=OF a3
    refine gfa fo_40_2 Z Z Z (gld sh_2 Z a0 m1 (i:=2) Z Z Z (g_y (y_gtr Z Z) Z Z (g_y (y_pickF Z Z) Z Z (gnx ((c_cond Z (fun a4=>?_) (fun a4=>?_)))))))
    ·replace a4:=OT a4
     refine csr ((GA Y (gnx ((c_ret ?_)))))
     have d0:eCheck t e=1:=ET (BE a5) (ET (IN a1) (ET (BE a6) (ET (cond_t a2) (ET (IN a3) (ET (IP a4) (rfl))))))
     refine x_thenR (x_ret ⟨_,_,rfl,rfl,rfl⟩ ?_)
     exact ⟨_,_,rfl,a0.fr,a0.grow,by rw [d0]; exact rfl⟩
    ·replace a4:=OF a4
     refine c_skip (x_next (csr ((g_y (y_loadA (cs:=[.string e.kind,.int .i64 e.amount,.int .i64 e.units]) sh_40 Z ((blk_cells a0 m1).part (f:=0) (.take _ (.take _ (.take _ (.nil _)))))) Z Z ?_))))
     have b4:=eValue_c (e:=e) a0.lt
     obtain ⟨d1,b5⟩:∃ r,eValue e=r:=⟨_,rfl⟩
     rw [b5] at b4
     refine g_e (ev_pure a0 pf_205 Z b4) Z Z ?_
     rintro _ f8 ⟨f9,b6,g0,rfl⟩
     refine GM Y (g_y (y_extract Z Z) Z Z (g_y (y_extract Z Z) Z Z (GA Y (GA Y (gnx ((csr ((GM Y (GA Y (gnx ((c_ret ?_)))))))))))))
     have d2:eCheck t e=d1.2:=ET (BE a5) (ET (IN a1) (ET (BE a6) (ET (cond_t a2) (ET (IN a3) (ET (IN a4) (ET (BE b5) (rfl)))))))
     refine x_ret ⟨_,_,rfl,rfl,rfl⟩ (⟨_,_,rfl,b6.fr,b6.grow,by rw [d2]; exact rfl⟩)
def eCheckAll_l1 (t:Table):List Elem→Nat→Out (Unit) (Int)
 | [],a0=>(Out.next (()))
 | a2 :: tl1,a0=>(bnd (eCheck t a2) fun a1=>
 (if (a1≠0) then (Out.ret a1)
 else (eCheckAll_l1 t tl1 (a0 + 1) )))
def eCheckAll (t:Table) (list:(List Elem)):Int:=
 (if (32 < (list.length:Int)) then 2
 else (out (eCheckAll_l1 t list 0 ) fun _=>
 0))
theorem eCheckAll_c {t:Table} {cs_t:List Value} {list:(List Elem)} {v_list:Value} {d:Dat} {w:World} (hd:∀ b,d b→b < w.heap.size) (h_t:tableTy.rel d w t cs_t) (h_list:Sl elemTy d w v_list list):Ret Tryz.prog 98 [.agg cs_t.toArray,v_list] w [] d (fun u d' w'=>u=.int .i64 ((eCheckAll t list))):=by
 obtain ⟨v1,v2,v3,rfl,hS4,hS5,hS6⟩:=h_t
 obtain ⟨A7,c8,rfl,hn9,e4⟩:=hS4.fm
 obtain ⟨b2,b3,rfl,e5,e6⟩:=hS5.fm
 obtain ⟨b4,b5,rfl,e7,e8⟩:=hS6.fm
 obtain ⟨d0,d1,rfl,e9,f0⟩:=h_list.fm
 refine ret_enter (n:=24) Tryz.func98 Z Z (ble Z) ?_
 have hI0:=Inv.start hd
 refine csr ((g_e (ev_box hI0 Z) Z Z ?_))
 rintro _ c4 ⟨b6,rfl,b7,a7⟩
 refine GA Y (gnx ((c_seq (csr ((GM Y (gln el_43 Z Z Z (g_y (y_gtr Z Z) Z Z (gnx ((c_cond Z (fun a1=>?_) (fun a1=>?_))))))))))))
 ·replace a1:=OT a1
  refine csr ((GA Y (gnx ((c_ret ?_)))))
  have d2:eCheckAll t list=2:=ET (IP a1) (rfl)
  refine x_thenR (x_ret ⟨_,_,rfl,rfl,rfl⟩ ?_)
  exact ⟨_,_,rfl,b7.fr,b7.grow,by rw [d2]; exact rfl⟩
 ·replace a1:=OF a1
  refine c_skip (x_next (c_seq (csr ((GM Y (gln el_43 Z Z Z (GM Y (gnx ((c_cut1 (ι:=Dat) (fun a8=>[]) (fun a8 b8=>Inv [] d w a8 [blk b6 26 [.slice A7 (t.schemes).length c8,.slice b2 (t.contribs).length b3,.slice b4 (t.kinds).length b5,.int .i64 t.limit,.int .i64 t.round]] b8∧Le d c4 a8 b8∧eCheckAll_l1 t list 0 =Out.next (())) ?_ ?_))))))))))
  ·refine c_block (c_loop (ι:=Nat × Dat) (fun ⟨a0,a4⟩=>[(2,.pointer (some ⟨b6,0,none⟩)),(11,.slice d0 (list).length d1),(12,.int .i64 (list.length:Int)),(13,.int .i64 (a0:Int))]) (fun ⟨a0,a4⟩ b9=>Inv [] d w a4 [blk b6 26 [.slice A7 (t.schemes).length c8,.slice b2 (t.contribs).length b3,.slice b4 (t.kinds).length b5,.int .i64 t.limit,.int .i64 t.round]] b9∧Le d c4 a4 b9∧eCheckAll_l1 t list 0 =eCheckAll_l1 t (list.drop a0) a0 ∧a0≤list.length) (fun ⟨a0,a4⟩=>list.length - a0) (0,d) (.cons Z (.cons Z (.cons Z (.cons Z (.nil _))))) ⟨b7,Le.refl _ _,rfl,Nat.zero_le _⟩ ?_)
   rintro ⟨a0,a4⟩ b9 ⟨c5,a5,c0,f1⟩
   refine csr ((g_y (y_lss Z Z) Z Z (gnx ((c_seq (c_cond Z (fun a6=>?_) (fun a6=>?_)))))))
   ·replace a6:=OT a6
    obtain ⟨a2,c1⟩:=has (xs:=list) (k:=a0) (by omega)
    refine c_skip (x_next (c_seq (c_block (csr (?_)))))
    obtain ⟨f2,f3,f4,d3,d4,d5,f5⟩:=Sl.at_ (h_list.mono (a7.t a5)) c1
    obtain rfl:=d4
    refine g_y (y_indexAddr (i:=a0) el_43 Z d3 Z (rfl) (by omega)) Z Z (g_y (y_loadA (cs:=[.string a2.kind,.int .i64 a2.amount,.int .i64 a2.units]) sh_40 Z (d5.part (f:=0) (.take _ (.take _ (.take _ (.nil _)))))) Z Z (g_e (ev_alloc c5 ze_40) Z Z ?_))
    rintro _ f6 ⟨f7,rfl,d6,a9⟩
    refine g_e (ev_store d6 Z Z Z sz_40 Z (.here _ _ (.here _ _ (.here _ _ (.nil _)))) (.hd _)) Z Z ?_
    rintro _ f8 ⟨b0,b1⟩
    refine gnx ((csr ((g_y (y_loadA (cs:=[.slice A7 (t.schemes).length c8,.slice b2 (t.contribs).length b3,.slice b4 (t.kinds).length b5,.int .i64 t.limit,.int .i64 t.round]) sh_26 Z ((blk_cells b0 m1).part (f:=0) (.take _ (.take _ (.take _ (.take _ (.take _ (.nil _)))))))) Z Z (g_y (y_loadA (cs:=[.string a2.kind,.int .i64 a2.amount,.int .i64 a2.units]) sh_40 Z ((blk_cells b0 m0).part (f:=0) (.take _ (.take _ (.take _ (.nil _)))))) Z Z ?_)))))
    have c6:=eCheck_c (t:=t) (e:=a2) b0.lt (show tableTy.rel _ _ t _ from ⟨_,_,_,rfl,(hS4.mono (((a7.t a5).t a9).t b1)),(hS5.mono (((a7.t a5).t a9).t b1)),(hS6.mono (((a7.t a5).t a9).t b1))⟩)
    obtain ⟨c7,c2⟩:∃ r,eCheck t a2=r:=⟨_,rfl⟩
    rw [c2] at c6
    refine g_e (ev_pure b0 pf_181 Z c6) Z Z ?_
    rintro _ f9 ⟨d7,c3,d8,rfl⟩
    refine GA Y (gnx ((csr ((GM Y (g_y (y_neq Z Z) Z Z (gnx ((c_cond Z (fun a3=>?_) (fun a3=>?_))))))))))
    ·replace a3:=OT a3
     refine csr ((GM Y (GA Y (gnx ((c_ret ?_))))))
     have d9:eCheckAll_l1 t list 0 =(Out.ret c7):=c0.trans (ET (congrArg (fun l=>eCheckAll_l1 t l a0 ) (drop_cons c1)) (ET (BE c2) (ET (IP a3) (rfl))))
     have e0:eCheckAll t list=c7:=ET (IN a1) (ET (out_ret d9) (rfl))
     refine x_blockR (x_thenR (x_rndR (x_blockR (x_cutR (x_thenR (x_ret ⟨_,_,rfl,rfl,rfl⟩ ?_))))))
     exact ⟨_,_,rfl,c3.fr,c3.grow,by rw [e0]; exact rfl⟩
    ·replace a3:=OF a3
     refine c_skip (x_blockN (x_next ?_))
     refine c_region (g_y (y_add Z Z (by omega)) Z Z (GM Y (g_nil ?_)))
     have e1:=c3.drop (.hd _)
     refine x_round (a0 + 1,d7) (by dsimp only; omega) (.cons Z (.cons Z (.cons Z (.cons Z (.nil _))))) ⟨e1,(((a5.t a9).t b1).t d8),c0.trans (ET (congrArg (fun l=>eCheckAll_l1 t l a0 ) (drop_cons c1)) (ET (BE c2) (ET (IN a3) (rfl)))),by omega⟩
   ·replace a6:=OF a6
    refine c_exit (x_thenE (x_rndE (x_blockE (x_cut (a4) (.nil _) ⟨c5,a5,c0.trans (ET (congrArg (fun l=>eCheckAll_l1 t l a0 ) (drop_nil (by omega))) (rfl))⟩))))
  ·rintro a8 b8 ⟨c9,g0,e2⟩
   refine x_next (csr ((GA Y (gnx ((c_ret ?_))))))
   have e3:eCheckAll t list=0:=ET (IN a1) (ET (out_next e2) (rfl))
   refine x_ret ⟨_,_,rfl,rfl,rfl⟩ (⟨_,_,rfl,c9.fr,c9.grow,by rw [e3]; exact rfl⟩)
def fPart (x:Int) (rate:Int):Int × Int:=
 (bnd (mRight ([x])) fun a0=>
 (cond a0 ((bnd (fRate rate) fun a1=>
 (cond a1 (((wI (x * rate)),0))
 ((0,50)))))
 ((0,10))))
theorem fPart_c {x:Int} {rate:Int} {d:Dat} {w:World} (hd:∀ b,d b→b < w.heap.size):Ret Tryz.prog 316 [.int .i64 x,.int .i64 rate] w [] d (fun u d' w'=>u=.tuple #[.int .i64 ((fPart x rate).1),.int .i64 ((fPart x rate).2)]):=by
 refine ret_enter (n:=18) Tryz.func316 Z Z (ble Z) ?_
 have hI0:=Inv.start hd
 refine csr ((GA Y (GA Y (gnx ((c_seq (c_block (csr ((GM Y (g_e (ev_buildSl (T:=intTy) (xs:=[x]) hI0 el_174 ze_2 Z Z (ble Z) (ble Z) (.cons Z Z Z Z (.here _ _ (.nil _)) (ble Z) (.nil _)) (.cons (x:=x) (cs:=[.int .i64 x]) Z .nil)) Z Z ?_)))))))))))
 rintro _ b3 ⟨b4,a6,b5,a9,b6,rfl⟩
 have a7:=mRight_c (list:=[x]) a6.lt a9
 obtain ⟨b7,a2⟩:∃ r,mRight ([x])=r:=⟨_,rfl⟩
 rw [a2] at a7
 refine g_e (ev_pure a6 pf_117 Z a7) Z Z ?_
 rintro _ b8 ⟨b9,a3,c0,rfl⟩
 refine g_y (y_not Z) Z Z (GA Y (gnx ((c_cond Z (fun a0=>?_) (fun a0=>?_)))))
 ·replace a0:=not_t a0
  refine csr ((GA Y (GA Y (gnx ((c_ret ?_))))))
  have b0:fPart x rate=(0,10):=ET (BE a2) (ET (cond_f a0) (rfl))
  refine x_blockR (x_thenR (x_ret ⟨_,_,rfl,rfl,⟨_,_,rfl,rfl,rfl⟩⟩ ?_))
  exact ⟨_,_,rfl,a3.fr,a3.grow,by rw [b0]; exact rfl⟩
 ·replace a0:=not_f a0
  refine csr ((GM Y ?_))
  have a8:=fRate_c (rate:=rate) a3.lt
  obtain ⟨c1,a5⟩:∃ r,fRate rate=r:=⟨_,rfl⟩
  rw [a5] at a8
  refine g_e (ev_pure a3 pf_244 Z a8) Z Z ?_
  rintro _ c2 ⟨c3,a4,c4,rfl⟩
  refine g_y (y_not Z) Z Z (GA Y (gnx ((c_cond Z (fun a1=>?_) (fun a1=>?_)))))
  ·replace a1:=not_t a1
   refine csr ((GA Y (GA Y (gnx ((c_ret ?_))))))
   have b1:fPart x rate=(0,50):=ET (BE a2) (ET (cond_t a0) (ET (BE a5) (ET (cond_f a1) (rfl))))
   refine x_blockR (x_thenR (x_ret ⟨_,_,rfl,rfl,⟨_,_,rfl,rfl,rfl⟩⟩ ?_))
   exact ⟨_,_,rfl,a4.fr,a4.grow,by rw [b1]; exact rfl⟩
  ·replace a1:=not_f a1
   refine c_skip (x_blockN (x_next ?_))
   refine csr ((GM Y (GM Y (g_y (y_mulW Z Z) Z Z (GA Y (GA Y (gnx ((c_ret ?_)))))))))
   have b2:fPart x rate=((wI (x * rate)),0):=ET (BE a2) (ET (cond_t a0) (ET (BE a5) (ET (cond_t a1) (rfl))))
   refine x_ret ⟨_,_,rfl,rfl,⟨_,_,rfl,rfl,rfl⟩⟩ (⟨_,_,rfl,a4.fr,a4.grow,by rw [b2]; exact rfl⟩)
def bWidth_m1 (x:Int) (i:Nat) (list:(List Band)):Int:=
 (if (((i:Int) + 1) < (list.length:Int)) then (opt (list)[i + 1]? fun a0=>
 (min x a0.frm))
 else x)
def bWidth (x:Int) (i:Nat) (list:(List Band)):Int:=
 (bnd (bWidth_m1 x i list) fun a0=>
 (opt (list)[i]? fun a1=>
 (max 0 (wI (a0 - a1.frm)))))
theorem bWidth_c {x:Int} {i:Nat} {list:(List Band)} {v_list:Value} {d:Dat} {w:World} (hd:∀ b,d b→b < w.heap.size) (h_list:Sl bandTy d w v_list list) (hi0:i < list.length):Ret Tryz.prog 338 [.int .i64 x,.int .i64 (i:Int),v_list] w [] d (fun u d' w'=>u=.int .i64 ((bWidth x i list))):=by
 obtain ⟨A1,c2,rfl,hn3,hb4⟩:=h_list.fm
 refine ret_enter (n:=30) Tryz.func338 Z Z (ble Z) ?_
 have hI0:=Inv.start hd
 refine csr ((GA Y (gnx ((csr ((GM Y (GA Y (gnx ((c_cut (ι:=Int × Dat) (fun ⟨a1,a2⟩=>[(1,.int .i64 (i:Int)),(2,.slice A1 (list).length c2),(7,.int .i64 a1)]) (fun ⟨a1,a2⟩ a3=>Inv [] d w a2 [] a3∧Le d w a2 a3∧bWidth_m1 x i list=a1) ?_ ?_)))))))))))
 ·refine csr ((GM Y (g_y (y_add Z Z (by omega)) Z Z (GM Y (gln el_34 Z Z Z (g_y (y_lss Z Z) Z Z (gnx ((c_cond Z (fun a0=>?_) (fun a0=>?_))))))))))
  ·replace a0:=OT a0
   refine c_region (GM Y (GM Y (GM Y (g_y (y_add Z Z (by omega)) Z Z ?_))))
   obtain ⟨a7,a4⟩:=has (xs:=list) (k:=i + 1) (by omega)
   obtain ⟨b8,b9,c0,a8,a9,b0,c1⟩:=Sl.at_ h_list a4
   obtain rfl:=a9
   refine g_y (y_indexAddr (i:=i + 1) el_34 Z a8 Z (rfl) (by omega)) Z Z (gfa fo_33_0 Z Z Z (g_y (y_load1 sh_2 Z (b0.nth_ (i:=0) Z)) Z Z (g_y (y_min Z Z) Z Z (GA Y (g_nil (x_cut ((min x a7.frm),d) (.cons Z (.cons Z (.cons Z (.nil _)))) ⟨hI0,(Le.refl _ _),ET (IP a0) (ET (opt_some a4) (rfl))⟩))))))
  ·replace a0:=OF a0
   refine c_skip (x_cut (x,d) (.cons Z (.cons Z (.cons Z (.nil _)))) ⟨hI0,(Le.refl _ _),ET (IN a0) (rfl)⟩)
 ·rintro ⟨a1,a2⟩ a3 ⟨a5,b1,b2⟩
  refine csr ((GM Y (GM Y (GM Y ?_))))
  obtain ⟨b3,a6⟩:=has (xs:=list) (k:=i) (by omega)
  obtain ⟨c3,c4,c5,b4,b5,b6,c6⟩:=Sl.at_ (h_list.mono b1) a6
  obtain rfl:=b5
  refine g_y (y_indexAddr (i:=i) el_34 Z b4 Z (rfl) (by omega)) Z Z (gfa fo_33_0 Z Z Z (g_y (y_load1 sh_2 Z (b6.nth_ (i:=0) Z)) Z Z (g_y (y_subW Z Z) Z Z (g_y (y_max Z Z) Z Z (GA Y (gnx ((c_ret ?_))))))))
  have b7:bWidth x i list=(max 0 (wI (a1 - b3.frm))):=ET (BE b2) (ET (opt_some a6) (rfl))
  refine x_ret ⟨_,_,rfl,rfl,rfl⟩ (⟨_,_,rfl,a5.fr,a5.grow,by rw [b7]; exact rfl⟩)
def bandRate (b:Band):Int:=
 b.rate
theorem bandRate_c {b:Band} {d:Dat} {w:World} (hd:∀ b,d b→b < w.heap.size):Ret Tryz.prog 310 [.agg #[.int .i64 b.frm,.int .i64 b.rate,.int .i64 b.emp]] w [] d (fun u d' w'=>u=.int .i64 ((bandRate b))):=by
 refine ret_enter (n:=5) Tryz.func310 Z Z (ble Z) ?_
 have hI0:=Inv.start hd
 refine csr ((g_e (ev_box hI0 Z) Z Z ?_))
 rintro _ w1 ⟨b4,rfl,hI2,hle3⟩
 refine GA Y (gnx ((csr ((gfa fo_33_1 Z Z Z (gld sh_3 Z hI2 m0 (i:=1) Z Z Z (GA Y (gnx ((c_ret ?_))))))))))
 have hF5:bandRate b=b.rate:=rfl
 refine x_ret ⟨_,_,rfl,rfl,rfl⟩ (⟨_,_,rfl,hI2.fr,hI2.grow,by rw [hF5]; exact rfl⟩)
def bEach_l1 (x:Int) (list:(List Band)):Nat→Int→Nat→Int × Int
 | 0,_,_=>default
 | a4 + 1,a1,a0=>(if ((a0:Int)=(list.length:Int)) then (a1,0)
 else (opt (list)[a0]? fun a3=>
 (if (x≤a3.frm) then (a1,0)
 else (bnd (bWidth x a0 list) fun a5=>
 (bnd (bandRate a3) fun a6=>
 (bnd (fPart a5 a6) fun a2=>
 (if (a2.2≠0) then (0,a2.2)
 else (bEach_l1 x list a4 ((wI (a1 + a2.1))) (a0 + 1)))))))))
def bEach (x:Int) (list:(List Band)):Int × Int:=
 (bnd (bCheck list) fun a0=>
 (if (a0≠0) then (0,a0)
 else (bnd (mRight ([x])) fun a1=>
 (cond a1 ((bEach_l1 x list (list.length + 1) 0 0))
 ((0,10))))))
theorem bEach_c {x:Int} {list:(List Band)} {v_list:Value} {d:Dat} {w:World} (hd:∀ b,d b→b < w.heap.size) (h_list:Sl bandTy d w v_list list):Ret Tryz.prog 309 [.int .i64 x,v_list,.func (.func 310) #[] #[]] w [] d (fun u d' w'=>u=.tuple #[.int .i64 ((bEach x list).1),.int .i64 ((bEach x list).2)]):=by
 obtain ⟨A1,c2,rfl,hn3,hb4⟩:=h_list.fm
 refine ret_enter (n:=58) Tryz.func309 Z Z (ble Z) ?_
 have hI0:=Inv.start hd
 refine csr ((GA Y (GA Y (gnx ((c_scopeP (ι:=Nat × Int × Nat × Dat) (fun ⟨a2,a3,a0,a8⟩=>[(0,.int .i64 x),(1,.slice A1 (list).length c2),(2,.func (.func 310) #[] #[]),(9,.int .i64 a3),(10,.int .i64 (a0:Int))]) (fun ⟨a2,a3,a0,a8⟩ b2=>Inv [] d w a8 [] b2∧Le d w a8 b2∧bEach x list=bEach_l1 x list a2 a3 a0∧list.length < a0 + a2∧a0≤list.length) (fun ⟨a2,a3,a0,a8⟩=>a2) 0 Z ?_ (fun hP=>?_)))))))
 ·rintro ⟨a2,a3,a0,a8⟩ b2 ⟨a9,b3,b4,g1,g2⟩
  obtain ⟨e0,rfl⟩:∃ z,a2=z + 1:=⟨a2 - 1,by omega⟩
  refine c_seq (csr ((GM Y (GM Y (gln el_34 Z Z Z (g_y (y_eql Z Z) Z Z (GM Y (g_split (t:=26) Z (fun a1=>?_) (fun a1=>?_)))))))))
  ·replace a1:=OT a1
   refine gsk Z Z (gsk Z Z (gsk Z Z (gsk Z Z (gsk Z Z (gsk Z Z (gsk Z Z (g_y (y_pickT Z Z) Z Z (gnx ((c_condT Z (csr ((GM Y ?_)))))))))))))
   refine GA Y (GA Y (gnx ((c_ret ?_))))
   have e1:bEach x list=(a3,0):=ET (b4) (ET (IP a1) (rfl))
   refine x_thenR (x_jmp1R (x_ret ⟨_,_,rfl,rfl,⟨_,_,rfl,rfl,rfl⟩⟩ ?_))
   exact ⟨_,_,rfl,a9.fr,a9.grow,by rw [e1]; exact rfl⟩
  ·replace a1:=OF a1
   refine GM Y (GM Y (GM Y ?_))
   obtain ⟨b0,b1⟩:=has (xs:=list) (k:=a0) (by omega)
   obtain ⟨g3,g4,g5,e2,e3,e4,g6⟩:=Sl.at_ (h_list.mono b3) b1
   obtain rfl:=e3
   refine g_y (y_indexAddr (i:=a0) el_34 Z e2 Z (rfl) (by omega)) Z Z (gfa fo_33_0 Z Z Z (g_y (y_load1 sh_2 Z (e4.nth_ (i:=0) Z)) Z Z (g_y (y_leq Z Z) Z Z (g_y (y_pickF Z Z) Z Z (gnx ((c_cond Z (fun a4=>?_) (fun a4=>?_))))))))
   ·replace a4:=OT a4
    refine csr ((GM Y (GA Y (GA Y (gnx ((c_ret ?_)))))))
    have e5:bEach x list=(a3,0):=ET (b4) (ET (IN a1) (ET (opt_some b1) (ET (IP a4) (rfl))))
    refine x_thenR (x_jmp1R (x_ret ⟨_,_,rfl,rfl,⟨_,_,rfl,rfl,rfl⟩⟩ ?_))
    exact ⟨_,_,rfl,a9.fr,a9.grow,by rw [e5]; exact rfl⟩
   ·replace a4:=OF a4
    refine c_skip (x_next (c_seq ?_))
    have b7:=a9.drew; have b8:=Le.drew a8 b2
    refine c_drawK 15 follows_mixed b7 (k_y 0 (by kernel_rfl) Z Z Z (fun _ _=>(y_move Z)) (k_y 1 (by kernel_rfl) Z Z Z (fun _ _=>(y_move Z)) (k_y 2 (by kernel_rfl) Z Z Z (fun _ _=>(y_move Z)) (k_y 4 (by kernel_rfl) Z Z Z (fun _ _=>(y_move Z)) (k_y 5 (by kernel_rfl) Z Z Z (fun _ _=>(y_move Z)) (k_y 6 (by kernel_rfl) Z Z Z (fun _ _=>(y_move Z)) ?_))))))
    obtain ⟨g7,g8,g9,e6,e7,e8,e9⟩:=Sl.at_ (h_list.mono (b3.t b8)) b1
    obtain rfl:=e7
    refine k_y 7 (by kernel_rfl) Z Z Z (fun _ _=>(y_indexAddr (i:=a0) el_34 Z e6 Z (rfl) (by omega))) (k_y 8 (by kernel_rfl) Z Z Z (fun h0 ⟨h1,h2,f0⟩=>(y_loadA (cs:=[.int .i64 b0.frm,.int .i64 b0.rate,.int .i64 b0.emp]) sh_33 Z ((e8.keep ((f0).blk _ e9)).part (f:=0) (.take _ (.take _ (.take _ (.nil _))))))) (k_all (is:=[3]) (by kernel_rfl) (by simp) (.cons ?_ .nil)))
    have c8:=bWidth_c (x:=x) (i:=a0) (list:=list) b7.lt (h_list.mono (b3.t b8)) (by first | omega | (simp only [LA,LC,LN]; omega))
    obtain ⟨c9,b9⟩:∃ r,bWidth x a0 list=r:=⟨_,rfl⟩
    rw [b9] at c8
    refine k_op Z Z Z (ev_pure b7 pf_338 Z c8) ?_
    rintro _ h3 ⟨h4,c0,d0,rfl⟩
    refine k_next c0 d0 (k_all (is:=[9]) (by kernel_rfl) (by simp) (.cons ?_ .nil))
    have d1:=bandRate_c (b:=b0) c0.lt
    obtain ⟨d2,c1⟩:∃ r,bandRate b0=r:=⟨_,rfl⟩
    rw [c1] at d1
    refine k_op Z Z Z (ev_pureC c0 pf_310 Z Z d1) ?_
    rintro _ h5 ⟨h6,c3,d3,rfl⟩
    refine k_next c3 d3 (k_all (is:=[10]) (by kernel_rfl) (by simp) (.cons ?_ .nil))
    have d4:=fPart_c (x:=c9) (rate:=d2) c3.lt
    obtain ⟨d5,c4⟩:∃ r,fPart c9 d2=r:=⟨_,rfl⟩
    rw [c4] at d4
    refine k_op Z Z Z (ev_pure c3 pf_316 Z d4) ?_
    rintro _ h7 ⟨f1,b5,d6,rfl⟩
    refine k_next b5 d6 (k_y 11 (by kernel_rfl) Z Z Z (fun _ _=>(y_move Z)) (k_y 12 (by kernel_rfl) Z Z Z (fun _ _=>(y_extract Z Z)) (k_y 13 (by kernel_rfl) Z Z Z (fun _ _=>(y_extract Z Z)) (k_y 14 (by kernel_rfl) Z Z Z (fun _ _=>(y_assign Z)) (k_all (is:=[15]) (by kernel_rfl) (by simp) (.cons ?_ .nil))))))
    refine k_op Z Z Z (Ev.of_y2 (y_assign Z)) ?_
    rintro _ _ ⟨rfl,rfl⟩
    refine k_bar (b_done (by kernel_rfl) (x_draw ?_) (by kernel_rfl))
    refine x_next (c_seq (csr ((GM Y (g_y (y_neq Z Z) Z Z (gnx ((c_cond Z (fun a6=>?_) (fun a6=>?_)))))))))
    ·replace a6:=OT a6
     refine csr ((GM Y (GA Y (GA Y (gnx ((c_ret ?_)))))))
     have f2:bEach x list=(0,d5.2):=ET (b4) (ET (IN a1) (ET (opt_some b1) (ET (IN a4) (ET (BE b9) (ET (BE c1) (ET (BE c4) (ET (IP a6) (rfl))))))))
     refine x_thenR (x_jmp1R (x_ret ⟨_,_,rfl,rfl,⟨_,_,rfl,rfl,rfl⟩⟩ ?_))
     exact ⟨_,_,rfl,b5.fr,b5.grow,by rw [f2]; exact rfl⟩
    ·replace a6:=OF a6
     refine c_skip (x_next (csr ((GM Y (GM Y (g_y (y_addW Z Z) Z Z (GA Y (gnx ((csr ((GM Y (g_y (y_add Z Z (by omega)) Z Z ?_)))))))))))))
     refine GA Y (gnx ((c_goto (x_jump1 (e0,(wI (a3 + d5.1)),a0 + 1,f1) (by dsimp only; omega) (.cons Z (.cons Z (.cons Z (.cons Z (.cons Z (.nil _)))))) ⟨b5,((((b3.t b8).t d0).t d3).t d6),ET (b4) (ET (IN a1) (ET (opt_some b1) (ET (IN a4) (ET (BE b9) (ET (BE c1) (ET (BE c4) (ET (IN a6) (rfl)))))))),by omega,by omega⟩))))
 ·refine c_seq (csr ((GM Y ?_)))
  have d7:=bCheck_c (list:=list) hI0.lt h_list
  obtain ⟨f3,b6⟩:∃ r,bCheck list=r:=⟨_,rfl⟩
  rw [b6] at d7
  refine g_e (ev_pure hI0 pf_283 Z d7) Z Z ?_
  rintro _ h8 ⟨h9,c5,f4,rfl⟩
  refine GA Y (gnx ((csr ((GM Y (g_y (y_neq Z Z) Z Z (gnx ((c_cond Z (fun a5=>?_) (fun a5=>?_))))))))))
  ·replace a5:=OT a5
   refine csr ((GM Y (GA Y (GA Y (gnx ((c_ret ?_)))))))
   have f5:bEach x list=(0,f3):=ET (BE b6) (ET (IP a5) (rfl))
   refine x_thenR (x_jmp0R (x_ret ⟨_,_,rfl,rfl,⟨_,_,rfl,rfl,rfl⟩⟩ ?_))
   exact ⟨_,_,rfl,c5.fr,c5.grow,by rw [f5]; exact rfl⟩
  ·replace a5:=OF a5
   refine c_skip (x_next (c_seq (csr ((GM Y (g_e (ev_buildSl (T:=intTy) (xs:=[x]) c5 el_174 ze_2 Z Z (ble Z) (ble Z) (.cons Z Z Z Z (.here _ _ (.nil _)) (ble Z) (.nil _)) (.cons (x:=x) (cs:=[.int .i64 x]) Z .nil)) Z Z ?_))))))
   rintro _ i0 ⟨i1,d8,f6,f7,i2,rfl⟩
   have d9:=mRight_c (list:=[x]) d8.lt f7
   obtain ⟨i3,c6⟩:∃ r,mRight ([x])=r:=⟨_,rfl⟩
   rw [c6] at d9
   refine g_e (ev_pure d8 pf_117 Z d9) Z Z ?_
   rintro _ i4 ⟨f8,c7,f9,rfl⟩
   refine g_y (y_not Z) Z Z (gnx ((c_cond Z (fun a7=>?_) (fun a7=>?_))))
   ·replace a7:=not_t a7
    refine csr ((GA Y (GA Y (gnx ((c_ret ?_))))))
    have g0:bEach x list=(0,10):=ET (BE b6) (ET (IN a5) (ET (BE c6) (ET (cond_f a7) (rfl))))
    refine x_thenR (x_jmp0R (x_ret ⟨_,_,rfl,rfl,⟨_,_,rfl,rfl,rfl⟩⟩ ?_))
    exact ⟨_,_,rfl,c7.fr,c7.grow,by rw [g0]; exact rfl⟩
   ·replace a7:=not_f a7
    refine c_skip (x_next (csr ((GA Y (GA Y (gnx ((c_seq (c_label (x_next (hP (list.length + 1,0,0,f8) _ _ ⟨c7,((f4.t f6).t f9),ET (BE b6) (ET (IN a5) (ET (BE c6) (ET (cond_t a7) (rfl)))),by omega,by omega⟩ (.cons Z (.cons Z (.cons Z (.cons Z (.cons Z (.nil _)))))))))))))))))
def bExact (x:Int) (list:(List Band)):Int × Int:=
 (bnd (bEach x list) fun r6=>
 (r6.1,r6.2))
theorem bExact_c {x:Int} {list:(List Band)} {v_list:Value} {d:Dat} {w:World} (hd:∀ b,d b→b < w.heap.size) (h_list:Sl bandTy d w v_list list):Ret Tryz.prog 282 [.int .i64 x,v_list] w [] d (fun u d' w'=>u=.tuple #[.int .i64 ((bExact x list).1),.int .i64 ((bExact x list).2)]):=by
 obtain ⟨A1,c2,rfl,hn3,hb4⟩:=h_list.fm
 refine ret_enter (n:=11) Tryz.func282 Z Z (ble Z) ?_
 have hI0:=Inv.start hd
 refine csr ((GA Y (GA Y (gnx ((csr ((GM Y (GM Y ?_)))))))))
 have hq5:=bEach_c (x:=x) (list:=list) hI0.lt h_list
 obtain ⟨r6,hr7⟩:∃ r,bEach x list=r:=⟨_,rfl⟩
 rw [hr7] at hq5
 refine g_e (ev_pure hI0 pf_309 Z hq5) Z Z ?_
 rintro _ w9 ⟨d8,a0,a2,rfl⟩
 refine g_y (y_extract Z Z) Z Z (g_y (y_extract Z Z) Z Z (GA Y (GA Y (gnx ((c_ret ?_))))))
 have a1:bExact x list=(r6.1,r6.2):=ET (BE hr7) (rfl)
 refine x_ret ⟨_,_,rfl,rfl,⟨_,_,rfl,rfl,rfl⟩⟩ (⟨_,_,rfl,a0.fr,a0.grow,by rw [a1]; exact rfl⟩)
def fScale (x:Int) (n:Int) (q:Int):Int × Int:=
 (bnd (mRight ([x])) fun a1=>
 (cond a1 ((if (n < 0) then (0,1)
 else (if (q≤0) then (0,1)
 else (if (1048576 < n) then (0,1)
 else (if (1048576 < q) then (0,1)
 else (bnd (fFloor ((wI (x * n))) q) fun a0=>
 (bnd (mRight ([a0.1])) fun a2=>
 (cond a2 ((a0.1,0))
 ((0,10))))))))))
 ((0,10))))
theorem fScale_c {x:Int} {n:Int} {q:Int} {d:Dat} {w:World} (hd:∀ b,d b→b < w.heap.size):Ret Tryz.prog 339 [.int .i64 x,.int .i64 n,.int .i64 q] w [] d (fun u d' w'=>u=.tuple #[.int .i64 ((fScale x n q).1),.int .i64 ((fScale x n q).2)]):=by
 refine ret_enter (n:=41) Tryz.func339 Z Z (ble Z) ?_
 have hI0:=Inv.start hd
 refine csr ((GA Y (GA Y (gnx ((c_seq (csr ((GM Y (g_e (ev_buildSl (T:=intTy) (xs:=[x]) hI0 el_174 ze_2 Z Z (ble Z) (ble Z) (.cons Z Z Z Z (.here _ _ (.nil _)) (ble Z) (.nil _)) (.cons (x:=x) (cs:=[.int .i64 x]) Z .nil)) Z Z ?_))))))))))
 rintro _ c7 ⟨c8,b2,c9,b7,d0,rfl⟩
 have b3:=mRight_c (list:=[x]) b2.lt b7
 obtain ⟨d1,a5⟩:∃ r,mRight ([x])=r:=⟨_,rfl⟩
 rw [a5] at b3
 refine g_e (ev_pure b2 pf_117 Z b3) Z Z ?_
 rintro _ d2 ⟨d3,a0,d4,rfl⟩
 refine g_y (y_not Z) Z Z (gnx ((c_cond Z (fun a1=>?_) (fun a1=>?_))))
 ·replace a1:=not_t a1
  refine csr ((GA Y (GA Y (gnx ((c_ret ?_))))))
  have b8:fScale x n q=(0,10):=ET (BE a5) (ET (cond_f a1) (rfl))
  refine x_thenR (x_ret ⟨_,_,rfl,rfl,⟨_,_,rfl,rfl,rfl⟩⟩ ?_)
  exact ⟨_,_,rfl,a0.fr,a0.grow,by rw [b8]; exact rfl⟩
 ·replace a1:=not_f a1
  refine c_skip (x_next (c_seq (csr ((GM Y (g_y (y_lss Z Z) Z Z (GM Y (g_split (t:=16) Z (fun a2=>?_) (fun a2=>?_)))))))))
  ·replace a2:=OT a2
   refine gsk Z Z (gsk Z Z (g_y (y_pickT Z Z) Z Z (GM Y (gsk Z Z (gsk Z Z (g_y (y_pickT Z Z) Z Z (GM Y (gsk Z Z (gsk Z Z (g_y (y_pickT Z Z) Z Z (gnx ((c_condT Z ?_)))))))))))))
   refine csr ((GA Y (GA Y (gnx ((c_ret ?_))))))
   have b9:fScale x n q=(0,1):=ET (BE a5) (ET (cond_t a1) (ET (IP a2) (rfl)))
   refine x_thenR (x_ret ⟨_,_,rfl,rfl,⟨_,_,rfl,rfl,rfl⟩⟩ ?_)
   exact ⟨_,_,rfl,a0.fr,a0.grow,by rw [b9]; exact rfl⟩
  ·replace a2:=OF a2
   refine GM Y (g_y (y_leq Z Z) Z Z (g_y (y_pickF Z Z) Z Z (GM Y (g_split (t:=20) Z (fun a3=>?_) (fun a3=>?_)))))
   ·replace a3:=OT a3
    refine gsk Z Z (gsk Z Z (g_y (y_pickT Z Z) Z Z (GM Y (gsk Z Z (gsk Z Z (g_y (y_pickT Z Z) Z Z (gnx ((c_condT Z (csr ((GA Y (GA Y ?_)))))))))))))
    refine gnx ((c_ret ?_))
    have c0:fScale x n q=(0,1):=ET (BE a5) (ET (cond_t a1) (ET (IN a2) (ET (IP a3) (rfl))))
    refine x_thenR (x_ret ⟨_,_,rfl,rfl,⟨_,_,rfl,rfl,rfl⟩⟩ ?_)
    exact ⟨_,_,rfl,a0.fr,a0.grow,by rw [c0]; exact rfl⟩
   ·replace a3:=OF a3
    refine GM Y (g_y (y_gtr Z Z) Z Z (g_y (y_pickF Z Z) Z Z (GM Y (g_split (t:=24) Z (fun a4=>?_) (fun a4=>?_)))))
    ·replace a4:=OT a4
     refine gsk Z Z (gsk Z Z (g_y (y_pickT Z Z) Z Z (gnx ((c_condT Z (csr ((GA Y (GA Y (gnx ((c_ret ?_))))))))))))
     have c1:fScale x n q=(0,1):=ET (BE a5) (ET (cond_t a1) (ET (IN a2) (ET (IN a3) (ET (IP a4) (rfl)))))
     refine x_thenR (x_ret ⟨_,_,rfl,rfl,⟨_,_,rfl,rfl,rfl⟩⟩ ?_)
     exact ⟨_,_,rfl,a0.fr,a0.grow,by rw [c1]; exact rfl⟩
    ·replace a4:=OF a4
     refine GM Y (g_y (y_gtr Z Z) Z Z (g_y (y_pickF Z Z) Z Z (gnx ((c_cond Z (fun a6=>?_) (fun a6=>?_))))))
     ·replace a6:=OT a6
      refine csr ((GA Y (GA Y (gnx ((c_ret ?_))))))
      have c2:fScale x n q=(0,1):=ET (BE a5) (ET (cond_t a1) (ET (IN a2) (ET (IN a3) (ET (IN a4) (ET (IP a6) (rfl))))))
      refine x_thenR (x_ret ⟨_,_,rfl,rfl,⟨_,_,rfl,rfl,rfl⟩⟩ ?_)
      exact ⟨_,_,rfl,a0.fr,a0.grow,by rw [c2]; exact rfl⟩
     ·replace a6:=OF a6
      refine c_skip (x_next (csr ((GM Y (GM Y (g_y (y_mulW Z Z) Z Z (GM Y ?_)))))))
      have b4:=fFloor_c (n:=(wI (x * n))) (q:=q) a0.lt (by first | omega | (simp only [LA,LC,LN]; omega))
      obtain ⟨a8,b0⟩:∃ r,fFloor ((wI (x * n))) q=r:=⟨_,rfl⟩
      rw [b0] at b4
      refine g_e (ev_pure a0 pf_291 Z b4) Z Z ?_
      rintro _ d5 ⟨d6,c3,d7,rfl⟩
      refine GM Y (g_y (y_extract Z Z) Z Z (g_y (y_extract Z Z) Z Z (GA Y (GA Y (gnx ((c_seq (csr ((GM Y (g_e (ev_buildSl (T:=intTy) (xs:=[a8.1]) c3 el_174 ze_2 Z Z (ble Z) (ble Z) (.cons Z Z Z Z (.here _ _ (.nil _)) (ble Z) (.nil _)) (.cons (x:=a8.1) (cs:=[.int .i64 a8.1]) Z .nil)) Z Z ?_)))))))))))
      rintro _ d8 ⟨d9,b5,e0,c4,e1,rfl⟩
      have b6:=mRight_c (list:=[a8.1]) b5.lt c4
      obtain ⟨e2,b1⟩:∃ r,mRight ([a8.1])=r:=⟨_,rfl⟩
      rw [b1] at b6
      refine g_e (ev_pure b5 pf_117 Z b6) Z Z ?_
      rintro _ e3 ⟨e4,a9,e5,rfl⟩
      refine g_y (y_not Z) Z Z (gnx ((c_cond Z (fun a7=>?_) (fun a7=>?_))))
      ·replace a7:=not_t a7
       refine csr ((GA Y (GA Y (gnx ((c_ret ?_))))))
       have c5:fScale x n q=(0,10):=ET (BE a5) (ET (cond_t a1) (ET (IN a2) (ET (IN a3) (ET (IN a4) (ET (IN a6) (ET (BE b0) (ET (BE b1) (ET (cond_f a7) (rfl)))))))))
       refine x_thenR (x_ret ⟨_,_,rfl,rfl,⟨_,_,rfl,rfl,rfl⟩⟩ ?_)
       exact ⟨_,_,rfl,a9.fr,a9.grow,by rw [c5]; exact rfl⟩
      ·replace a7:=not_f a7
       refine c_skip (x_next (csr ((GM Y (GA Y (GA Y (gnx ((c_ret ?_)))))))))
       have c6:fScale x n q=(a8.1,0):=ET (BE a5) (ET (cond_t a1) (ET (IN a2) (ET (IN a3) (ET (IN a4) (ET (IN a6) (ET (BE b0) (ET (BE b1) (ET (cond_t a7) (rfl)))))))))
       refine x_ret ⟨_,_,rfl,rfl,⟨_,_,rfl,rfl,rfl⟩⟩ (⟨_,_,rfl,a9.fr,a9.grow,by rw [c6]; exact rfl⟩)
def cFree_m1 (c:Code) (a0:Int × Int):Int:=
 (if (c.kind=2) then (wI (-a0.1))
 else a0.1)
def cFree (c:Code) (n:Int) (q:Int):Int × Int:=
 (bnd (cCheck c) fun a0=>
 (if (a0≠0) then (0,a0)
 else (if (n < 0) then (0,1)
 else (if (q < 1) then (0,1)
 else (if (q < n) then (0,1)
 else (if (1048576 < q) then (0,1)
 else (bnd (fScale c.amount n q) fun a1=>
 (bnd (cFree_m1 c a1) fun a2=>
 (a2,a1.2)))))))))
theorem cFree_c {c:Code} {n:Int} {q:Int} {d:Dat} {w:World} (hd:∀ b,d b→b < w.heap.size):Ret Tryz.prog 325 [.agg #[.int .i64 c.scheme,.int .i64 c.kind,.int .i64 c.amount,.int .i64 c.flat,.bool c.alone],.int .i64 n,.int .i64 q] w [] d (fun u d' w'=>u=.tuple #[.int .i64 ((cFree c n q).1),.int .i64 ((cFree c n q).2)]):=by
 refine ret_enter (n:=46) Tryz.func325 Z Z (ble Z) ?_
 have hI0:=Inv.start hd
 refine csr ((g_e (ev_box hI0 Z) Z Z ?_))
 rintro _ w1 ⟨b4,rfl,hI2,hle3⟩
 refine GA Y (GA Y (gnx ((c_seq (csr ((g_y (y_loadA (cs:=[.int .i64 c.scheme,.int .i64 c.kind,.int .i64 c.amount,.int .i64 c.flat,.bool c.alone]) sh_28 Z ((blk_cells hI2 m0).part (f:=0) (.take _ (.take _ (.take _ (.take _ (.take _ (.nil _)))))))) Z Z ?_)))))))
 have b5:=cCheck_c (c:=c) hI2.lt
 obtain ⟨b9,a5⟩:∃ r,cCheck c=r:=⟨_,rfl⟩
 rw [a5] at b5
 refine g_e (ev_pure hI2 pf_143 Z b5) Z Z ?_
 rintro _ c8 ⟨c9,a0,d0,rfl⟩
 refine GA Y (gnx ((csr ((GM Y (g_y (y_neq Z Z) Z Z (gnx ((c_cond Z (fun a1=>?_) (fun a1=>?_))))))))))
 ·replace a1:=OT a1
  refine csr ((GM Y (GA Y (GA Y (gnx ((c_ret ?_)))))))
  have c0:cFree c n q=(0,b9):=ET (BE a5) (ET (IP a1) (rfl))
  refine x_thenR (x_ret ⟨_,_,rfl,rfl,⟨_,_,rfl,rfl,rfl⟩⟩ ?_)
  exact ⟨_,_,rfl,a0.fr,a0.grow,by rw [c0]; exact rfl⟩
 ·replace a1:=OF a1
  refine c_skip (x_next (c_seq (csr ((GM Y (g_y (y_lss Z Z) Z Z (GM Y (g_split (t:=18) Z (fun a2=>?_) (fun a2=>?_)))))))))
  ·replace a2:=OT a2
   refine gsk Z Z (gsk Z Z (g_y (y_pickT Z Z) Z Z (GM Y (gsk Z Z (gsk Z Z (gsk Z Z (g_y (y_pickT Z Z) Z Z (GM Y (gsk Z Z (gsk Z Z (g_y (y_pickT Z Z) Z Z (gnx (?_)))))))))))))
   refine c_condT Z (csr ((GA Y (GA Y (gnx ((c_ret ?_)))))))
   have c1:cFree c n q=(0,1):=ET (BE a5) (ET (IN a1) (ET (IP a2) (rfl)))
   refine x_thenR (x_ret ⟨_,_,rfl,rfl,⟨_,_,rfl,rfl,rfl⟩⟩ ?_)
   exact ⟨_,_,rfl,a0.fr,a0.grow,by rw [c1]; exact rfl⟩
  ·replace a2:=OF a2
   refine GM Y (g_y (y_lss Z Z) Z Z (g_y (y_pickF Z Z) Z Z (GM Y (g_split (t:=22) Z (fun a3=>?_) (fun a3=>?_)))))
   ·replace a3:=OT a3
    refine gsk Z Z (gsk Z Z (gsk Z Z (g_y (y_pickT Z Z) Z Z (GM Y (gsk Z Z (gsk Z Z (g_y (y_pickT Z Z) Z Z (gnx ((c_condT Z (csr ((GA Y ?_)))))))))))))
    refine GA Y (gnx ((c_ret ?_)))
    have c2:cFree c n q=(0,1):=ET (BE a5) (ET (IN a1) (ET (IN a2) (ET (IP a3) (rfl))))
    refine x_thenR (x_ret ⟨_,_,rfl,rfl,⟨_,_,rfl,rfl,rfl⟩⟩ ?_)
    exact ⟨_,_,rfl,a0.fr,a0.grow,by rw [c2]; exact rfl⟩
   ·replace a3:=OF a3
    refine GM Y (GM Y (g_y (y_gtr Z Z) Z Z (g_y (y_pickF Z Z) Z Z (GM Y (g_split (t:=27) Z (fun a4=>?_) (fun a4=>?_))))))
    ·replace a4:=OT a4
     refine gsk Z Z (gsk Z Z (g_y (y_pickT Z Z) Z Z (gnx ((c_condT Z (csr ((GA Y (GA Y (gnx ((c_ret ?_))))))))))))
     have c3:cFree c n q=(0,1):=ET (BE a5) (ET (IN a1) (ET (IN a2) (ET (IN a3) (ET (IP a4) (rfl)))))
     refine x_thenR (x_ret ⟨_,_,rfl,rfl,⟨_,_,rfl,rfl,rfl⟩⟩ ?_)
     exact ⟨_,_,rfl,a0.fr,a0.grow,by rw [c3]; exact rfl⟩
    ·replace a4:=OF a4
     refine GM Y (g_y (y_gtr Z Z) Z Z (g_y (y_pickF Z Z) Z Z (gnx ((c_cond Z (fun a6=>?_) (fun a6=>?_))))))
     ·replace a6:=OT a6
      refine csr ((GA Y (GA Y (gnx ((c_ret ?_))))))
      have c4:cFree c n q=(0,1):=ET (BE a5) (ET (IN a1) (ET (IN a2) (ET (IN a3) (ET (IN a4) (ET (IP a6) (rfl))))))
      refine x_thenR (x_ret ⟨_,_,rfl,rfl,⟨_,_,rfl,rfl,rfl⟩⟩ ?_)
      exact ⟨_,_,rfl,a0.fr,a0.grow,by rw [c4]; exact rfl⟩
     ·replace a6:=OF a6
      refine c_skip (x_next (csr ((gfa fo_28_2 Z Z Z (gld sh_2 Z a0 m0 (i:=2) Z Z Z (GM Y (GM Y ?_)))))))
      have b6:=fScale_c (x:=c.amount) (n:=n) (q:=q) a0.lt
      obtain ⟨a8,b7⟩:∃ r,fScale c.amount n q=r:=⟨_,rfl⟩
      rw [b7] at b6
      refine g_e (ev_pure a0 pf_339 Z b6) Z Z ?_
      rintro _ c5 ⟨b1,b2,d1,rfl⟩
      refine GM Y (g_y (y_extract Z Z) Z Z (g_y (y_extract Z Z) Z Z (GA Y (GA Y (gnx ((c_cut (ι:=Int × Dat) (fun ⟨a9,b0⟩=>[(9,.int .i64 a9),(10,.int .i64 a8.2)]) (fun ⟨a9,b0⟩ b3=>Inv [] d w b0 [blk b4 28 [.int .i64 c.scheme,.int .i64 c.kind,.int .i64 c.amount,.int .i64 c.flat,.bool c.alone]] b3∧Le b1 c5 b0 b3∧cFree_m1 c a8=a9) ?_ ?_)))))))
      ·refine csr ((gfa fo_28_1 Z Z Z (gld sh_3 Z b2 m0 (i:=1) Z Z Z (g_y (y_eql Z Z) Z Z (gnx ((c_cond Z (fun a7=>?_) (fun a7=>?_))))))))
       ·replace a7:=OT a7
        refine c_region (GM Y (g_y (y_negW Z) Z Z (GA Y (g_nil (x_cut ((wI (-a8.1)),b1) (.cons Z (.cons Z (.nil _))) ⟨b2,(Le.refl _ _),ET (IP a7) (rfl)⟩)))))
       ·replace a7:=OF a7
        refine c_skip (x_cut (a8.1,b1) (.cons Z (.cons Z (.nil _))) ⟨b2,(Le.refl _ _),ET (IN a7) (rfl)⟩)
      ·rintro ⟨a9,b0⟩ b3 ⟨b8,d2,c6⟩
       refine csr ((GM Y (GM Y (GA Y (GA Y (gnx ((c_ret ?_))))))))
       have c7:cFree c n q=(a9,a8.2):=ET (BE a5) (ET (IN a1) (ET (IN a2) (ET (IN a3) (ET (IN a4) (ET (IN a6) (ET (BE b7) (ET (BE c6) (rfl))))))))
       refine x_ret ⟨_,_,rfl,rfl,⟨_,_,rfl,rfl,rfl⟩⟩ (⟨_,_,rfl,b8.fr,b8.grow,by rw [c7]; exact rfl⟩)
def cCharge (c:Code) (taxable:Int) (n:Int) (q:Int):Int × Int:=
 (bnd (cFree c n q) fun r6=>
 (if (r6.2≠0) then (0,r6.2)
 else (if (c.kind=4) then (bnd (mRight ([taxable])) fun a1=>
 (cond a1 ((0,0))
 ((0,10))))
 else (bnd (mSub taxable r6.1) fun a0=>
 ((max 0 a0.1),a0.2)))))
theorem cCharge_c {c:Code} {taxable:Int} {n:Int} {q:Int} {d:Dat} {w:World} (hd:∀ b,d b→b < w.heap.size):Ret Tryz.prog 315 [.agg #[.int .i64 c.scheme,.int .i64 c.kind,.int .i64 c.amount,.int .i64 c.flat,.bool c.alone],.int .i64 taxable,.int .i64 n,.int .i64 q] w [] d (fun u d' w'=>u=.tuple #[.int .i64 ((cCharge c taxable n q).1),.int .i64 ((cCharge c taxable n q).2)]):=by
 refine ret_enter (n:=39) Tryz.func315 Z Z (ble Z) ?_
 have hI0:=Inv.start hd
 refine csr ((g_e (ev_box hI0 Z) Z Z ?_))
 rintro _ w1 ⟨b4,rfl,hI2,hle3⟩
 refine GA Y (GA Y (gnx ((csr ((g_y (y_loadA (cs:=[.int .i64 c.scheme,.int .i64 c.kind,.int .i64 c.amount,.int .i64 c.flat,.bool c.alone]) sh_28 Z ((blk_cells hI2 m0).part (f:=0) (.take _ (.take _ (.take _ (.take _ (.take _ (.nil _)))))))) Z Z (GM Y (GM Y ?_))))))))
 have hq5:=cFree_c (c:=c) (n:=n) (q:=q) hI2.lt
 obtain ⟨r6,hr7⟩:∃ r,cFree c n q=r:=⟨_,rfl⟩
 rw [hr7] at hq5
 refine g_e (ev_pure hI2 pf_325 Z hq5) Z Z ?_
 rintro _ w9 ⟨d8,a3,b8,rfl⟩
 refine GM Y (g_y (y_extract Z Z) Z Z (g_y (y_extract Z Z) Z Z (GA Y (GA Y (gnx ((c_seq (csr ((GM Y (g_y (y_neq Z Z) Z Z (gnx (?_)))))))))))))
 refine c_cond Z (fun a0=>?_) (fun a0=>?_)
 ·replace a0:=OT a0
  refine csr ((GM Y (GA Y (GA Y (gnx ((c_ret ?_)))))))
  have b2:cCharge c taxable n q=(0,r6.2):=ET (BE hr7) (ET (IP a0) (rfl))
  refine x_thenR (x_ret ⟨_,_,rfl,rfl,⟨_,_,rfl,rfl,rfl⟩⟩ ?_)
  exact ⟨_,_,rfl,a3.fr,a3.grow,by rw [b2]; exact rfl⟩
 ·replace a0:=OF a0
  refine c_skip (x_next (c_seq (csr ((gfa fo_28_1 Z Z Z (gld sh_3 Z a3 m0 (i:=1) Z Z Z (g_y (y_eql Z Z) Z Z (gnx ((c_cond Z (fun a1=>?_) (fun a1=>?_)))))))))))
  ·replace a1:=OT a1
   refine c_seq (csr ((GM Y (g_e (ev_buildSl (T:=intTy) (xs:=[taxable]) a3 el_174 ze_2 Z Z (ble Z) (ble Z) (.cons Z Z Z Z (.here _ _ (.nil _)) (ble Z) (.nil _)) (.cons (x:=taxable) (cs:=[.int .i64 taxable]) Z .nil)) Z Z ?_))))
   rintro _ b9 ⟨c0,a6,c1,b3,c2,rfl⟩
   have a7:=mRight_c (list:=[taxable]) a6.lt b3
   obtain ⟨c3,a5⟩:∃ r,mRight ([taxable])=r:=⟨_,rfl⟩
   rw [a5] at a7
   refine g_e (ev_pure a6 pf_117 Z a7) Z Z ?_
   rintro _ c4 ⟨c5,a4,c6,rfl⟩
   refine g_y (y_not Z) Z Z (gnx ((c_cond Z (fun a2=>?_) (fun a2=>?_))))
   ·replace a2:=not_t a2
    refine csr ((GA Y (GA Y (gnx ((c_ret ?_))))))
    have b5:cCharge c taxable n q=(0,10):=ET (BE hr7) (ET (IN a0) (ET (IP a1) (ET (BE a5) (ET (cond_f a2) (rfl)))))
    refine x_thenR (x_thenR (x_ret ⟨_,_,rfl,rfl,⟨_,_,rfl,rfl,rfl⟩⟩ ?_))
    exact ⟨_,_,rfl,a4.fr,a4.grow,by rw [b5]; exact rfl⟩
   ·replace a2:=not_f a2
    refine c_skip (x_next (csr ((GA Y (GA Y (gnx ((c_ret ?_))))))))
    have b6:cCharge c taxable n q=(0,0):=ET (BE hr7) (ET (IN a0) (ET (IP a1) (ET (BE a5) (ET (cond_t a2) (rfl)))))
    refine x_thenR (x_ret ⟨_,_,rfl,rfl,⟨_,_,rfl,rfl,rfl⟩⟩ ?_)
    exact ⟨_,_,rfl,a4.fr,a4.grow,by rw [b6]; exact rfl⟩
  ·replace a1:=OF a1
   refine c_skip (x_next (csr ((GM Y (GM Y ?_)))))
   have a8:=mSub_c (a:=taxable) (b:=r6.1) a3.lt
   obtain ⟨a9,b0⟩:∃ r,mSub taxable r6.1=r:=⟨_,rfl⟩
   rw [b0] at a8
   refine g_e (ev_pure a3 pf_127 Z a8) Z Z ?_
   rintro _ c7 ⟨c8,b1,c9,rfl⟩
   refine GM Y (g_y (y_extract Z Z) Z Z (g_y (y_extract Z Z) Z Z (GA Y (GA Y (gnx ((csr ((GM Y (g_y (y_max Z Z) Z Z (GM Y (GA Y (GA Y ?_)))))))))))))
   refine gnx ((c_ret ?_))
   have b7:cCharge c taxable n q=((max 0 a9.1),a9.2):=ET (BE hr7) (ET (IN a0) (ET (IN a1) (ET (BE b0) (rfl))))
   refine x_ret ⟨_,_,rfl,rfl,⟨_,_,rfl,rfl,rfl⟩⟩ (⟨_,_,rfl,b1.fr,b1.grow,by rw [b7]; exact rfl⟩)
def fRight (x:Int):Bool:=
 (if ((-1000000000000000)≤x) then (decide (x≤1000000000000000))
 else false)
theorem fRight_c {x:Int} {d:Dat} {w:World} (hd:∀ b,d b→b < w.heap.size):Ret Tryz.prog 318 [.int .i64 x] w [] d (fun u d' w'=>u=.bool ((fRight x))):=by
 refine ret_enter (n:=9) Tryz.func318 Z Z (ble Z) ?_
 have hI0:=Inv.start hd
 refine csr ((GA Y (gnx ((csr ((GM Y (g_y (y_geq Z Z) Z Z (GM Y (g_split (t:=5) Z (fun hg1=>?_) (fun hg1=>?_)))))))))))
 ·replace hg1:=OT hg1
  refine GM Y (g_y (y_leq Z Z) Z Z (g_y (y_pickT Z Z) Z Z (GA Y (gnx ((c_ret ?_))))))
  have hF2:fRight x=(decide (x≤1000000000000000)):=ET (IP hg1) (rfl)
  refine x_ret ⟨_,_,rfl,rfl,rfl⟩ (⟨_,_,rfl,hI0.fr,hI0.grow,by rw [hF2]; exact rfl⟩)
 ·replace hg1:=OF hg1
  refine gsk Z Z (gsk Z Z (g_y (y_pickF Z Z) Z Z (GA Y (gnx ((c_ret ?_))))))
  have hF3:fRight x=false:=ET (IN hg1) (rfl)
  refine x_ret ⟨_,_,rfl,rfl,rfl⟩ (⟨_,_,rfl,hI0.fr,hI0.grow,by rw [hF3]; exact rfl⟩)
def fCoins (x:Int) (mode:Int):Int × Int:=
 (bnd (fRight x) fun a1=>
 (cond a1 ((bnd (fRound x 10000 mode) fun a0=>
 (a0.1,a0.2)))
 ((0,10))))
theorem fCoins_c {x:Int} {mode:Int} {d:Dat} {w:World} (hd:∀ b,d b→b < w.heap.size):Ret Tryz.prog 294 [.int .i64 x,.int .i64 mode] w [] d (fun u d' w'=>u=.tuple #[.int .i64 ((fCoins x mode).1),.int .i64 ((fCoins x mode).2)]):=by
 refine ret_enter (n:=14) Tryz.func294 Z Z (ble Z) ?_
 have hI0:=Inv.start hd
 refine csr ((GA Y (GA Y (gnx ((c_seq (csr ((GM Y ?_)))))))))
 have hq9:=fRight_c (x:=x) hI0.lt
 obtain ⟨a9,a2⟩:∃ r,fRight x=r:=⟨_,rfl⟩
 rw [a2] at hq9
 refine g_e (ev_pure hI0 pf_318 Z hq9) Z Z ?_
 rintro _ b0 ⟨b1,a1,b2,rfl⟩
 refine g_y (y_not Z) Z Z (gnx ((c_cond Z (fun a0=>?_) (fun a0=>?_))))
 ·replace a0:=not_t a0
  refine csr ((GA Y (GA Y (gnx ((c_ret ?_))))))
  have a7:fCoins x mode=(0,10):=ET (BE a2) (ET (cond_f a0) (rfl))
  refine x_thenR (x_ret ⟨_,_,rfl,rfl,⟨_,_,rfl,rfl,rfl⟩⟩ ?_)
  exact ⟨_,_,rfl,a1.fr,a1.grow,by rw [a7]; exact rfl⟩
 ·replace a0:=not_f a0
  refine c_skip (x_next (csr ((GM Y (GM Y ?_)))))
  have a3:=fRound_c (n:=x) (q:=10000) (mode:=mode) a1.lt
  obtain ⟨a4,a5⟩:∃ r,fRound x 10000 mode=r:=⟨_,rfl⟩
  rw [a5] at a3
  refine g_e (ev_pure a1 pf_259 Z a3) Z Z ?_
  rintro _ b3 ⟨b4,a6,b5,rfl⟩
  refine g_y (y_extract Z Z) Z Z (g_y (y_extract Z Z) Z Z (GA Y (GA Y (gnx ((c_ret ?_))))))
  have a8:fCoins x mode=(a4.1,a4.2):=ET (BE a2) (ET (cond_t a0) (ET (BE a5) (rfl)))
  refine x_ret ⟨_,_,rfl,rfl,⟨_,_,rfl,rfl,rfl⟩⟩ (⟨_,_,rfl,a6.fr,a6.grow,by rw [a8]; exact rfl⟩)
def fTake (x:Int) (rate:Int) (mode:Int):Int × Int:=
 (bnd (fPart x rate) fun r2=>
 (if (r2.2≠0) then (0,r2.2)
 else (bnd (fCoins r2.1 mode) fun a0=>
 (a0.1,a0.2))))
theorem fTake_c {x:Int} {rate:Int} {mode:Int} {d:Dat} {w:World} (hd:∀ b,d b→b < w.heap.size):Ret Tryz.prog 299 [.int .i64 x,.int .i64 rate,.int .i64 mode] w [] d (fun u d' w'=>u=.tuple #[.int .i64 ((fTake x rate mode).1),.int .i64 ((fTake x rate mode).2)]):=by
 refine ret_enter (n:=24) Tryz.func299 Z Z (ble Z) ?_
 have hI0:=Inv.start hd
 refine csr ((GA Y (GA Y (gnx ((csr ((GM Y (GM Y ?_)))))))))
 have hq1:=fPart_c (x:=x) (rate:=rate) hI0.lt
 obtain ⟨r2,hr3⟩:∃ r,fPart x rate=r:=⟨_,rfl⟩
 rw [hr3] at hq1
 refine g_e (ev_pure hI0 pf_316 Z hq1) Z Z ?_
 rintro _ w5 ⟨d4,hI6,hle7,rfl⟩
 refine GM Y (g_y (y_extract Z Z) Z Z (g_y (y_extract Z Z) Z Z (GA Y (GA Y (gnx ((c_seq (csr ((GM Y (g_y (y_neq Z Z) Z Z (gnx (?_)))))))))))))
 refine c_cond Z (fun hc9=>?_) (fun hc9=>?_)
 ·replace hc9:=OT hc9
  refine csr ((GM Y (GA Y (GA Y (gnx ((c_ret ?_)))))))
  have a4:fTake x rate mode=(0,r2.2):=ET (BE hr3) (ET (IP hc9) (rfl))
  refine x_thenR (x_ret ⟨_,_,rfl,rfl,⟨_,_,rfl,rfl,rfl⟩⟩ ?_)
  exact ⟨_,_,rfl,hI6.fr,hI6.grow,by rw [a4]; exact rfl⟩
 ·replace hc9:=OF hc9
  refine c_skip (x_next (csr ((GM Y (GM Y ?_)))))
  have a0:=fCoins_c (x:=r2.1) (mode:=mode) hI6.lt
  obtain ⟨a1,a2⟩:∃ r,fCoins r2.1 mode=r:=⟨_,rfl⟩
  rw [a2] at a0
  refine g_e (ev_pure hI6 pf_294 Z a0) Z Z ?_
  rintro _ a6 ⟨a7,a3,a8,rfl⟩
  refine g_y (y_extract Z Z) Z Z (g_y (y_extract Z Z) Z Z (GA Y (GA Y (gnx ((c_ret ?_))))))
  have a5:fTake x rate mode=(a1.1,a1.2):=ET (BE hr3) (ET (IN hc9) (ET (BE a2) (rfl)))
  refine x_ret ⟨_,_,rfl,rfl,⟨_,_,rfl,rfl,rfl⟩⟩ (⟨_,_,rfl,a3.fr,a3.grow,by rw [a5]; exact rfl⟩)
def hLimit (t:Table) (cash:Int):Int × Int:=
 (bnd (fTake ((max 0 cash)) t.limit 1) fun a0=>
 (a0.1,a0.2))
theorem hLimit_c {t:Table} {cs_t:List Value} {cash:Int} {d:Dat} {w:World} (hd:∀ b,d b→b < w.heap.size) (h_t:tableTy.rel d w t cs_t):Ret Tryz.prog 269 [.agg cs_t.toArray,.int .i64 cash] w [] d (fun u d' w'=>u=.tuple #[.int .i64 ((hLimit t cash).1),.int .i64 ((hLimit t cash).2)]):=by
 obtain ⟨v1,v2,v3,rfl,hS4,hS5,hS6⟩:=h_t
 obtain ⟨A7,c8,rfl,hn9,a6⟩:=hS4.fm
 obtain ⟨a7,a8,rfl,a9,b0⟩:=hS5.fm
 obtain ⟨b1,b2,rfl,b3,b4⟩:=hS6.fm
 refine ret_enter (n:=13) Tryz.func269 Z Z (ble Z) ?_
 have hI0:=Inv.start hd
 refine csr ((g_e (ev_box hI0 Z) Z Z ?_))
 rintro _ b5 ⟨b6,rfl,a0,b7⟩
 refine GA Y (GA Y (gnx ((csr ((GM Y (g_y (y_max Z Z) Z Z (gfa fo_26_3 Z Z Z (gld sh_3 Z a0 m0 (i:=3) Z Z Z ?_)))))))))
 have a1:=fTake_c (x:=(max 0 cash)) (rate:=t.limit) (mode:=1) a0.lt
 obtain ⟨a2,a3⟩:∃ r,fTake ((max 0 cash)) t.limit 1=r:=⟨_,rfl⟩
 rw [a3] at a1
 refine g_e (ev_pure a0 pf_299 Z a1) Z Z ?_
 rintro _ b8 ⟨b9,a4,c0,rfl⟩
 refine g_y (y_extract Z Z) Z Z (g_y (y_extract Z Z) Z Z (GA Y (GA Y (gnx ((c_ret ?_))))))
 have a5:hLimit t cash=(a2.1,a2.2):=ET (BE a3) (rfl)
 refine x_ret ⟨_,_,rfl,rfl,⟨_,_,rfl,rfl,rfl⟩⟩ (⟨_,_,rfl,a4.fr,a4.grow,by rw [a5]; exact rfl⟩)
def hPart_m1 (need:Int) (limit:Int) (back:Bool):Int:=
 (cond back ((min need limit))
 ((max 0 (min need limit))))
def hPart (need:Int) (limit:Int) (back:Bool):Int:=
 (bnd (hPart_m1 need limit back) fun z6=>
 z6)
theorem hPart_c {need:Int} {limit:Int} {back:Bool} {d:Dat} {w:World} (hd:∀ b,d b→b < w.heap.size):Ret Tryz.prog 270 [.int .i64 need,.int .i64 limit,.bool back] w [] d (fun u d' w'=>u=.int .i64 ((hPart need limit back))):=by
 refine ret_enter (n:=16) Tryz.func270 Z Z (ble Z) ?_
 have hI0:=Inv.start hd
 refine csr ((GA Y (gnx ((csr ((GM Y (GM Y (g_y (y_min Z Z) Z Z (GA Y (gnx ((c_cut (ι:=Int × Dat) (fun ⟨z6,d3⟩=>[(7,.int .i64 z6)]) (fun ⟨z6,d3⟩ w2=>Inv [] d w d3 [] w2∧Le d w d3 w2∧hPart_m1 need limit back=z6) ?_ ?_)))))))))))))
 ·refine csr ((GM Y (g_y (y_not Z) Z Z (gnx ((c_cond Z (fun hc8=>?_) (fun hc8=>?_)))))))
  ·replace hc8:=not_t hc8
   refine c_region (GM Y (g_y (y_max Z Z) Z Z (GA Y (g_nil (x_cut ((max 0 (min need limit)),d) (.cons Z (.nil _)) ⟨hI0,(Le.refl _ _),ET (cond_f hc8) (rfl)⟩)))))
  ·replace hc8:=not_f hc8
   refine c_skip (x_cut ((min need limit),d) (.cons Z (.nil _)) ⟨hI0,(Le.refl _ _),ET (cond_t hc8) (rfl)⟩)
 ·rintro ⟨z6,d3⟩ w2 ⟨hI4,hle5,hl7⟩
  refine csr ((GM Y (GA Y (gnx ((c_ret ?_))))))
  have hF9:hPart need limit back=z6:=ET (BE hl7) (rfl)
  refine x_ret ⟨_,_,rfl,rfl,rfl⟩ (⟨_,_,rfl,hI4.fr,hI4.grow,by rw [hF9]; exact rfl⟩)
def bothAdd (a:Bases) (b:Bases):Bases × Int:=
 (bnd (mAdd a.cash b.cash) fun a0=>
 (if (a0.2≠0) then ((⟨0,0,0⟩:Bases),a0.2)
 else (bnd (mAdd a.taxable b.taxable) fun a1=>
 (if (a1.2≠0) then ((⟨0,0,0⟩:Bases),a1.2)
 else (bnd (mAdd a.social b.social) fun a2=>
 (if (a2.2≠0) then ((⟨0,0,0⟩:Bases),a2.2)
 else ((⟨a0.1,a1.1,a2.1⟩:Bases),0)))))))
theorem bothAdd_c {a:Bases} {b:Bases} {d:Dat} {w:World} (hd:∀ b,d b→b < w.heap.size):Ret Tryz.prog 260 [.agg #[.int .i64 a.cash,.int .i64 a.taxable,.int .i64 a.social],.agg #[.int .i64 b.cash,.int .i64 b.taxable,.int .i64 b.social],.func (.func 116) #[] #[]] w [] d (fun u d' w'=>u=.tuple #[.agg #[.int .i64 ((bothAdd a b).1.cash),.int .i64 ((bothAdd a b).1.taxable),.int .i64 ((bothAdd a b).1.social)],.int .i64 ((bothAdd a b).2)]):=by
 refine ret_enter (n:=54) Tryz.func260 Z Z (ble Z) ?_
 have hI0:=Inv.start hd
 refine csr ((g_e (ev_box hI0 Z) Z Z ?_))
 rintro _ w1 ⟨b4,rfl,hI2,hle3⟩
 refine g_e (ev_box hI2 Z) Z Z ?_
 rintro _ w5 ⟨b8,rfl,hI6,hle7⟩
 refine g_e (ev_alloc hI6 ze_47) Z Z ?_
 rintro _ w9 ⟨d7,rfl,c7,d8⟩
 refine GA Y (gnx ((csr ((g_e (ev_alloc c7 ze_47) Z Z ?_)))))
 rintro _ d9 ⟨a9,rfl,a2,e0⟩
 refine gnx ((c_seq (csr ((gfa fo_47_0 Z Z Z (gfa fo_47_0 Z Z Z (gld sh_2 Z a2 m3 (i:=0) Z Z Z (gfa fo_47_0 Z Z Z (gld sh_2 Z a2 m2 (i:=0) Z Z Z (g_y (y_build ze_412 pl_412 (.cons Z Z Z Z (.here _ _ (.nil _)) (ble Z) (.cons Z Z Z Z (.next _ (.here _ _ (.nil _))) (ble Z) (.cons Z Z Z Z (.next _ (.next _ (.here _ _ (.nil _)))) (ble Z) (.nil _))))) Z Z (gfa fo_47_1 Z Z Z (gfa fo_47_1 Z Z Z (gld sh_2 Z a2 m3 (i:=1) Z Z Z ?_)))))))))))))
 refine gfa fo_47_1 Z Z Z (gld sh_2 Z a2 m2 (i:=1) Z Z Z (g_y (y_build ze_412 pl_412 (.cons Z Z Z Z (.here _ _ (.nil _)) (ble Z) (.cons Z Z Z Z (.next _ (.here _ _ (.nil _))) (ble Z) (.cons Z Z Z Z (.next _ (.next _ (.here _ _ (.nil _)))) (ble Z) (.nil _))))) Z Z (gfa fo_47_2 Z Z Z (gfa fo_47_2 Z Z Z (gld sh_2 Z a2 m3 (i:=2) Z Z Z (gfa fo_47_2 Z Z Z (gld sh_2 Z a2 m2 (i:=2) Z Z Z (g_y (y_build ze_412 pl_412 (.cons Z Z Z Z (.here _ _ (.nil _)) (ble Z) (.cons Z Z Z Z (.next _ (.here _ _ (.nil _))) (ble Z) (.cons Z Z Z Z (.next _ (.next _ (.here _ _ (.nil _)))) (ble Z) (.nil _))))) Z Z (g_y (y_buildA ze_413 ar_413 (.cons Z Z Z Z (.here _ _ (.here _ _ (.here _ _ (.nil _)))) (ble Z) (.cons Z Z Z Z (.next _ (.next _ (.next _ (.here _ _ (.here _ _ (.here _ _ (.nil _))))))) (ble Z) (.cons Z Z Z Z (.next _ (.next _ (.next _ (.next _ (.next _ (.next _ (.here _ _ (.here _ _ (.here _ _ (.nil _)))))))))) (ble Z) (.nil _))))) Z Z (GM Y (gnx ((c_block ?_)))))))))))))
 refine c_loop_n 3 (csr ((g_y (y_lss Z Z) Z Z (gnx ((c_seq (c_condT Z (c_skip (x_next (c_seq (c_block (csr (?_)))))))))))))
 refine g_y (y_indexA (i:=0) (out:=[.pointer (some ⟨a9,0 + 0,none⟩),.int .i64 a.cash,.int .i64 b.cash]) ar_413 sh_412 Z Z Z (ble Z) (.take _ (.take _ (.take _ (.nil _))))) Z Z (g_e (ev_alloc a2 ze_412) Z Z ?_)
 rintro _ e1 ⟨e2,rfl,c8,e3⟩
 refine g_e (ev_store c8 Z Z Z sz_412 Z (.here _ _ (.here _ _ (.here _ _ (.nil _)))) (.hd _)) Z Z ?_
 rintro _ e4 ⟨a5,e5⟩
 refine gnx ((csr ((GM Y (gfa fo_412_1 Z Z Z (gld sh_2 Z a5 m0 (i:=1) Z Z Z (gfa fo_412_2 Z Z Z (gld sh_2 Z a5 m0 (i:=2) Z Z Z ?_))))))))
 have c3:=mAdd_c (a:=a.cash) (b:=b.cash) a5.lt
 obtain ⟨b0,a4⟩:∃ r,mAdd a.cash b.cash=r:=⟨_,rfl⟩
 rw [a4] at c3
 refine g_e (ev_pureC a5 pf_116 Z Z c3) Z Z ?_
 rintro _ e6 ⟨e7,b1,e8,rfl⟩
 refine GM Y (g_y (y_extract Z Z) Z Z (g_y (y_extract Z Z) Z Z (GA Y (GA Y (gnx ((c_seq (csr ((GM Y (g_y (y_neq Z Z) Z Z (gnx (?_)))))))))))))
 refine c_cond Z (fun a0=>?_) (fun a0=>?_)
 ·replace a0:=OT a0
  refine csr ((g_y (y_build ze_47 pl_47 (.nil _)) Z Z (GM Y (g_e (ev_store b1 Z Z Z sz_47 Z (.here _ _ (.here _ _ (.here _ _ (.nil _)))) (.tl _ (.tl _ (.hd _)))) Z Z ?_))))
  rintro _ e9 ⟨b2,f0⟩
  refine GA Y (gnx ((c_ret ?_)))
  have c9:bothAdd a b=((⟨0,0,0⟩:Bases),b0.2):=ET (BE a4) (ET (IP a0) (rfl))
  refine x_thenR (x_blockR (x_thenR (x_thenR (x_blockR (x_thenR (x_ret ⟨_,_,_,rfl,rfl,blk_cells b2 m2,sh_47,⟨_,_,rfl,rfl,rfl⟩⟩ ?_))))))
  exact ⟨_,_,rfl,b2.fr,b2.grow,by rw [c9]; exact rfl⟩
 ·replace a0:=OF a0
  refine c_skip (x_next (c_region (gfa fo_412_0 Z Z Z (gld sh_335 Z b1 m0 (i:=0) Z Z Z (GM Y (g_y (y_nilCheck Z) Z Z (g_e (ev_store b1 Z Z Z sz_2 Z (.here _ _ (.nil _)) (.tl _ (.hd _))) Z Z ?_)))))))
  rintro _ f1 ⟨d0,f2⟩
  refine g_nil (x_blockN (x_next ?_))
  refine c_region (g_y (y_add Z Z (by omega)) Z Z (GM Y (g_nil (x_again (csr ((g_y (y_lss Z Z) Z Z (gnx ((c_seq (c_condT Z (c_skip (x_next ?_)))))))))))))
  refine c_seq (c_block (csr ((g_y (y_indexA (i:=1) (out:=[.pointer (some ⟨a9,0 + 1,none⟩),.int .i64 a.taxable,.int .i64 b.taxable]) ar_413 sh_412 Z Z Z (ble Z) (.skip _ (.skip _ (.skip _ (.take _ (.take _ (.take _ (.nil _)))))))) Z Z (g_e (ev_alloc d0 ze_412) Z Z ?_)))))
  rintro _ f3 ⟨f4,rfl,d1,f5⟩
  refine g_e (ev_store d1 Z Z Z sz_412 Z (.here _ _ (.here _ _ (.here _ _ (.nil _)))) (.hd _)) Z Z ?_
  rintro _ f6 ⟨a6,f7⟩
  refine gnx ((csr ((GM Y (gfa fo_412_1 Z Z Z (gld sh_2 Z a6 m0 (i:=1) Z Z Z (gfa fo_412_2 Z Z Z (gld sh_2 Z a6 m0 (i:=2) Z Z Z ?_))))))))
  have c4:=mAdd_c (a:=a.taxable) (b:=b.taxable) a6.lt
  obtain ⟨b3,a7⟩:∃ r,mAdd a.taxable b.taxable=r:=⟨_,rfl⟩
  rw [a7] at c4
  refine g_e (ev_pureC a6 pf_116 Z Z c4) Z Z ?_
  rintro _ f8 ⟨f9,b5,g0,rfl⟩
  refine GM Y (g_y (y_extract Z Z) Z Z (g_y (y_extract Z Z) Z Z (GA Y (GA Y (gnx ((c_seq (csr ((GM Y (g_y (y_neq Z Z) Z Z (gnx (?_)))))))))))))
  refine c_cond Z (fun a1=>?_) (fun a1=>?_)
  ·replace a1:=OT a1
   refine csr ((g_y (y_build ze_47 pl_47 (.nil _)) Z Z (GM Y (g_e (ev_store b5 Z Z Z sz_47 Z (.here _ _ (.here _ _ (.here _ _ (.nil _)))) (.tl _ (.tl _ (.tl _ (.hd _))))) Z Z ?_))))
   rintro _ g1 ⟨b6,g2⟩
   refine GA Y (gnx ((c_ret ?_)))
   have d2:bothAdd a b=((⟨0,0,0⟩:Bases),b3.2):=ET (BE a4) (ET (IN a0) (ET (BE a7) (ET (IP a1) (rfl))))
   refine x_thenR (x_blockR (x_thenR (x_thenR (x_blockR (x_thenR (x_ret ⟨_,_,_,rfl,rfl,blk_cells b6 m3,sh_47,⟨_,_,rfl,rfl,rfl⟩⟩ ?_))))))
   exact ⟨_,_,rfl,b6.fr,b6.grow,by rw [d2]; exact rfl⟩
  ·replace a1:=OF a1
   refine c_skip (x_next (c_region (gfa fo_412_0 Z Z Z (gld sh_335 Z b5 m0 (i:=0) Z Z Z (GM Y (g_y (y_nilCheck Z) Z Z (g_e (ev_store b5 Z Z Z sz_2 Z (.next _ (.here _ _ (.nil _))) (.tl _ (.tl _ (.hd _)))) Z Z ?_)))))))
   rintro _ g3 ⟨d3,g4⟩
   refine g_nil (x_blockN (x_next ?_))
   refine c_region (g_y (y_add Z Z (by omega)) Z Z (GM Y (g_nil (x_again (csr ((g_y (y_lss Z Z) Z Z (gnx ((c_seq (c_condT Z (c_skip (x_next ?_)))))))))))))
   refine c_seq (c_block (csr ((g_y (y_indexA (i:=2) (out:=[.pointer (some ⟨a9,0 + 2,none⟩),.int .i64 a.social,.int .i64 b.social]) ar_413 sh_412 Z Z Z (ble Z) (.skip _ (.skip _ (.skip _ (.skip _ (.skip _ (.skip _ (.take _ (.take _ (.take _ (.nil _))))))))))) Z Z (g_e (ev_alloc d3 ze_412) Z Z ?_)))))
   rintro _ g5 ⟨g6,rfl,d4,g7⟩
   refine g_e (ev_store d4 Z Z Z sz_412 Z (.here _ _ (.here _ _ (.here _ _ (.nil _)))) (.hd _)) Z Z ?_
   rintro _ g8 ⟨a8,g9⟩
   refine gnx ((csr ((GM Y (gfa fo_412_1 Z Z Z (gld sh_2 Z a8 m0 (i:=1) Z Z Z (gfa fo_412_2 Z Z Z (gld sh_2 Z a8 m0 (i:=2) Z Z Z ?_))))))))
   have c5:=mAdd_c (a:=a.social) (b:=b.social) a8.lt
   obtain ⟨b7,b9⟩:∃ r,mAdd a.social b.social=r:=⟨_,rfl⟩
   rw [b9] at c5
   refine g_e (ev_pureC a8 pf_116 Z Z c5) Z Z ?_
   rintro _ h0 ⟨h1,c0,h2,rfl⟩
   refine GM Y (g_y (y_extract Z Z) Z Z (g_y (y_extract Z Z) Z Z (GA Y (GA Y (gnx ((c_seq (csr ((GM Y (g_y (y_neq Z Z) Z Z (gnx (?_)))))))))))))
   refine c_cond Z (fun a3=>?_) (fun a3=>?_)
   ·replace a3:=OT a3
    refine csr ((g_y (y_build ze_47 pl_47 (.nil _)) Z Z (GM Y (g_e (ev_store c0 Z Z Z sz_47 Z (.here _ _ (.here _ _ (.here _ _ (.nil _)))) (.tl _ (.tl _ (.tl _ (.tl _ (.hd _)))))) Z Z ?_))))
    rintro _ h3 ⟨c1,h4⟩
    refine GA Y (gnx ((c_ret ?_)))
    have d5:bothAdd a b=((⟨0,0,0⟩:Bases),b7.2):=ET (BE a4) (ET (IN a0) (ET (BE a7) (ET (IN a1) (ET (BE b9) (ET (IP a3) (rfl))))))
    refine x_thenR (x_blockR (x_thenR (x_thenR (x_blockR (x_thenR (x_ret ⟨_,_,_,rfl,rfl,blk_cells c1 m4,sh_47,⟨_,_,rfl,rfl,rfl⟩⟩ ?_))))))
    exact ⟨_,_,rfl,c1.fr,c1.grow,by rw [d5]; exact rfl⟩
   ·replace a3:=OF a3
    refine c_skip (x_next (c_region (gfa fo_412_0 Z Z Z (gld sh_335 Z c0 m0 (i:=0) Z Z Z (GM Y (g_y (y_nilCheck Z) Z Z (g_e (ev_store c0 Z Z Z sz_2 Z (.next _ (.next _ (.here _ _ (.nil _)))) (.tl _ (.tl _ (.tl _ (.hd _))))) Z Z ?_)))))))
    rintro _ h5 ⟨c6,h6⟩
    refine g_nil (x_blockN (x_next ?_))
    refine c_region (g_y (y_add Z Z (by omega)) Z Z (GM Y (g_nil (x_again (csr ((g_y (y_lss Z Z) Z Z (gnx ((c_seq (c_condF Z (c_exit (x_thenE (x_thenE (x_blockE (x_next ?_))))))))))))))))
    refine csr ((g_y (y_loadA (cs:=[.int .i64 b0.1,.int .i64 b3.1,.int .i64 b7.1]) sh_47 Z ((blk_cells c6 m3).part (f:=0) (.take _ (.take _ (.take _ (.nil _)))))) Z Z (g_e (ev_store c6 Z Z Z sz_47 Z (.here _ _ (.here _ _ (.here _ _ (.nil _)))) (.tl _ (.tl _ (.tl _ (.tl _ (.hd _)))))) Z Z ?_)))
    rintro _ h7 ⟨c2,h8⟩
    refine GA Y (gnx ((c_ret ?_)))
    have d6:bothAdd a b=((⟨b0.1,b3.1,b7.1⟩:Bases),0):=ET (BE a4) (ET (IN a0) (ET (BE a7) (ET (IN a1) (ET (BE b9) (ET (IN a3) (rfl))))))
    refine x_ret ⟨_,_,_,rfl,rfl,blk_cells c2 m4,sh_47,⟨_,_,rfl,rfl,rfl⟩⟩ (⟨_,_,rfl,c2.fr,c2.grow,by rw [d6]; exact rfl⟩)
def bothSub (a:Bases) (b:Bases):Bases × Int:=
 (bnd (mSub a.cash b.cash) fun a0=>
 (if (a0.2≠0) then ((⟨0,0,0⟩:Bases),a0.2)
 else (bnd (mSub a.taxable b.taxable) fun a1=>
 (if (a1.2≠0) then ((⟨0,0,0⟩:Bases),a1.2)
 else (bnd (mSub a.social b.social) fun a2=>
 (if (a2.2≠0) then ((⟨0,0,0⟩:Bases),a2.2)
 else ((⟨a0.1,a1.1,a2.1⟩:Bases),0)))))))
theorem bothSub_c {a:Bases} {b:Bases} {d:Dat} {w:World} (hd:∀ b,d b→b < w.heap.size):Ret Tryz.prog 260 [.agg #[.int .i64 a.cash,.int .i64 a.taxable,.int .i64 a.social],.agg #[.int .i64 b.cash,.int .i64 b.taxable,.int .i64 b.social],.func (.func 127) #[] #[]] w [] d (fun u d' w'=>u=.tuple #[.agg #[.int .i64 ((bothSub a b).1.cash),.int .i64 ((bothSub a b).1.taxable),.int .i64 ((bothSub a b).1.social)],.int .i64 ((bothSub a b).2)]):=by
 refine ret_enter (n:=54) Tryz.func260 Z Z (ble Z) ?_
 have hI0:=Inv.start hd
 refine csr ((g_e (ev_box hI0 Z) Z Z ?_))
 rintro _ w1 ⟨b4,rfl,hI2,hle3⟩
 refine g_e (ev_box hI2 Z) Z Z ?_
 rintro _ w5 ⟨b8,rfl,hI6,hle7⟩
 refine g_e (ev_alloc hI6 ze_47) Z Z ?_
 rintro _ w9 ⟨d7,rfl,c7,d8⟩
 refine GA Y (gnx ((csr ((g_e (ev_alloc c7 ze_47) Z Z ?_)))))
 rintro _ d9 ⟨a9,rfl,a2,e0⟩
 refine gnx ((c_seq (csr ((gfa fo_47_0 Z Z Z (gfa fo_47_0 Z Z Z (gld sh_2 Z a2 m3 (i:=0) Z Z Z (gfa fo_47_0 Z Z Z (gld sh_2 Z a2 m2 (i:=0) Z Z Z (g_y (y_build ze_412 pl_412 (.cons Z Z Z Z (.here _ _ (.nil _)) (ble Z) (.cons Z Z Z Z (.next _ (.here _ _ (.nil _))) (ble Z) (.cons Z Z Z Z (.next _ (.next _ (.here _ _ (.nil _)))) (ble Z) (.nil _))))) Z Z (gfa fo_47_1 Z Z Z (gfa fo_47_1 Z Z Z (gld sh_2 Z a2 m3 (i:=1) Z Z Z ?_)))))))))))))
 refine gfa fo_47_1 Z Z Z (gld sh_2 Z a2 m2 (i:=1) Z Z Z (g_y (y_build ze_412 pl_412 (.cons Z Z Z Z (.here _ _ (.nil _)) (ble Z) (.cons Z Z Z Z (.next _ (.here _ _ (.nil _))) (ble Z) (.cons Z Z Z Z (.next _ (.next _ (.here _ _ (.nil _)))) (ble Z) (.nil _))))) Z Z (gfa fo_47_2 Z Z Z (gfa fo_47_2 Z Z Z (gld sh_2 Z a2 m3 (i:=2) Z Z Z (gfa fo_47_2 Z Z Z (gld sh_2 Z a2 m2 (i:=2) Z Z Z (g_y (y_build ze_412 pl_412 (.cons Z Z Z Z (.here _ _ (.nil _)) (ble Z) (.cons Z Z Z Z (.next _ (.here _ _ (.nil _))) (ble Z) (.cons Z Z Z Z (.next _ (.next _ (.here _ _ (.nil _)))) (ble Z) (.nil _))))) Z Z (g_y (y_buildA ze_413 ar_413 (.cons Z Z Z Z (.here _ _ (.here _ _ (.here _ _ (.nil _)))) (ble Z) (.cons Z Z Z Z (.next _ (.next _ (.next _ (.here _ _ (.here _ _ (.here _ _ (.nil _))))))) (ble Z) (.cons Z Z Z Z (.next _ (.next _ (.next _ (.next _ (.next _ (.next _ (.here _ _ (.here _ _ (.here _ _ (.nil _)))))))))) (ble Z) (.nil _))))) Z Z (GM Y (gnx ((c_block ?_)))))))))))))
 refine c_loop_n 3 (csr ((g_y (y_lss Z Z) Z Z (gnx ((c_seq (c_condT Z (c_skip (x_next (c_seq (c_block (csr (?_)))))))))))))
 refine g_y (y_indexA (i:=0) (out:=[.pointer (some ⟨a9,0 + 0,none⟩),.int .i64 a.cash,.int .i64 b.cash]) ar_413 sh_412 Z Z Z (ble Z) (.take _ (.take _ (.take _ (.nil _))))) Z Z (g_e (ev_alloc a2 ze_412) Z Z ?_)
 rintro _ e1 ⟨e2,rfl,c8,e3⟩
 refine g_e (ev_store c8 Z Z Z sz_412 Z (.here _ _ (.here _ _ (.here _ _ (.nil _)))) (.hd _)) Z Z ?_
 rintro _ e4 ⟨a5,e5⟩
 refine gnx ((csr ((GM Y (gfa fo_412_1 Z Z Z (gld sh_2 Z a5 m0 (i:=1) Z Z Z (gfa fo_412_2 Z Z Z (gld sh_2 Z a5 m0 (i:=2) Z Z Z ?_))))))))
 have c3:=mSub_c (a:=a.cash) (b:=b.cash) a5.lt
 obtain ⟨b0,a4⟩:∃ r,mSub a.cash b.cash=r:=⟨_,rfl⟩
 rw [a4] at c3
 refine g_e (ev_pureC a5 pf_127 Z Z c3) Z Z ?_
 rintro _ e6 ⟨e7,b1,e8,rfl⟩
 refine GM Y (g_y (y_extract Z Z) Z Z (g_y (y_extract Z Z) Z Z (GA Y (GA Y (gnx ((c_seq (csr ((GM Y (g_y (y_neq Z Z) Z Z (gnx (?_)))))))))))))
 refine c_cond Z (fun a0=>?_) (fun a0=>?_)
 ·replace a0:=OT a0
  refine csr ((g_y (y_build ze_47 pl_47 (.nil _)) Z Z (GM Y (g_e (ev_store b1 Z Z Z sz_47 Z (.here _ _ (.here _ _ (.here _ _ (.nil _)))) (.tl _ (.tl _ (.hd _)))) Z Z ?_))))
  rintro _ e9 ⟨b2,f0⟩
  refine GA Y (gnx ((c_ret ?_)))
  have c9:bothSub a b=((⟨0,0,0⟩:Bases),b0.2):=ET (BE a4) (ET (IP a0) (rfl))
  refine x_thenR (x_blockR (x_thenR (x_thenR (x_blockR (x_thenR (x_ret ⟨_,_,_,rfl,rfl,blk_cells b2 m2,sh_47,⟨_,_,rfl,rfl,rfl⟩⟩ ?_))))))
  exact ⟨_,_,rfl,b2.fr,b2.grow,by rw [c9]; exact rfl⟩
 ·replace a0:=OF a0
  refine c_skip (x_next (c_region (gfa fo_412_0 Z Z Z (gld sh_335 Z b1 m0 (i:=0) Z Z Z (GM Y (g_y (y_nilCheck Z) Z Z (g_e (ev_store b1 Z Z Z sz_2 Z (.here _ _ (.nil _)) (.tl _ (.hd _))) Z Z ?_)))))))
  rintro _ f1 ⟨d0,f2⟩
  refine g_nil (x_blockN (x_next ?_))
  refine c_region (g_y (y_add Z Z (by omega)) Z Z (GM Y (g_nil (x_again (csr ((g_y (y_lss Z Z) Z Z (gnx ((c_seq (c_condT Z (c_skip (x_next ?_)))))))))))))
  refine c_seq (c_block (csr ((g_y (y_indexA (i:=1) (out:=[.pointer (some ⟨a9,0 + 1,none⟩),.int .i64 a.taxable,.int .i64 b.taxable]) ar_413 sh_412 Z Z Z (ble Z) (.skip _ (.skip _ (.skip _ (.take _ (.take _ (.take _ (.nil _)))))))) Z Z (g_e (ev_alloc d0 ze_412) Z Z ?_)))))
  rintro _ f3 ⟨f4,rfl,d1,f5⟩
  refine g_e (ev_store d1 Z Z Z sz_412 Z (.here _ _ (.here _ _ (.here _ _ (.nil _)))) (.hd _)) Z Z ?_
  rintro _ f6 ⟨a6,f7⟩
  refine gnx ((csr ((GM Y (gfa fo_412_1 Z Z Z (gld sh_2 Z a6 m0 (i:=1) Z Z Z (gfa fo_412_2 Z Z Z (gld sh_2 Z a6 m0 (i:=2) Z Z Z ?_))))))))
  have c4:=mSub_c (a:=a.taxable) (b:=b.taxable) a6.lt
  obtain ⟨b3,a7⟩:∃ r,mSub a.taxable b.taxable=r:=⟨_,rfl⟩
  rw [a7] at c4
  refine g_e (ev_pureC a6 pf_127 Z Z c4) Z Z ?_
  rintro _ f8 ⟨f9,b5,g0,rfl⟩
  refine GM Y (g_y (y_extract Z Z) Z Z (g_y (y_extract Z Z) Z Z (GA Y (GA Y (gnx ((c_seq (csr ((GM Y (g_y (y_neq Z Z) Z Z (gnx (?_)))))))))))))
  refine c_cond Z (fun a1=>?_) (fun a1=>?_)
  ·replace a1:=OT a1
   refine csr ((g_y (y_build ze_47 pl_47 (.nil _)) Z Z (GM Y (g_e (ev_store b5 Z Z Z sz_47 Z (.here _ _ (.here _ _ (.here _ _ (.nil _)))) (.tl _ (.tl _ (.tl _ (.hd _))))) Z Z ?_))))
   rintro _ g1 ⟨b6,g2⟩
   refine GA Y (gnx ((c_ret ?_)))
   have d2:bothSub a b=((⟨0,0,0⟩:Bases),b3.2):=ET (BE a4) (ET (IN a0) (ET (BE a7) (ET (IP a1) (rfl))))
   refine x_thenR (x_blockR (x_thenR (x_thenR (x_blockR (x_thenR (x_ret ⟨_,_,_,rfl,rfl,blk_cells b6 m3,sh_47,⟨_,_,rfl,rfl,rfl⟩⟩ ?_))))))
   exact ⟨_,_,rfl,b6.fr,b6.grow,by rw [d2]; exact rfl⟩
  ·replace a1:=OF a1
   refine c_skip (x_next (c_region (gfa fo_412_0 Z Z Z (gld sh_335 Z b5 m0 (i:=0) Z Z Z (GM Y (g_y (y_nilCheck Z) Z Z (g_e (ev_store b5 Z Z Z sz_2 Z (.next _ (.here _ _ (.nil _))) (.tl _ (.tl _ (.hd _)))) Z Z ?_)))))))
   rintro _ g3 ⟨d3,g4⟩
   refine g_nil (x_blockN (x_next ?_))
   refine c_region (g_y (y_add Z Z (by omega)) Z Z (GM Y (g_nil (x_again (csr ((g_y (y_lss Z Z) Z Z (gnx ((c_seq (c_condT Z (c_skip (x_next ?_)))))))))))))
   refine c_seq (c_block (csr ((g_y (y_indexA (i:=2) (out:=[.pointer (some ⟨a9,0 + 2,none⟩),.int .i64 a.social,.int .i64 b.social]) ar_413 sh_412 Z Z Z (ble Z) (.skip _ (.skip _ (.skip _ (.skip _ (.skip _ (.skip _ (.take _ (.take _ (.take _ (.nil _))))))))))) Z Z (g_e (ev_alloc d3 ze_412) Z Z ?_)))))
   rintro _ g5 ⟨g6,rfl,d4,g7⟩
   refine g_e (ev_store d4 Z Z Z sz_412 Z (.here _ _ (.here _ _ (.here _ _ (.nil _)))) (.hd _)) Z Z ?_
   rintro _ g8 ⟨a8,g9⟩
   refine gnx ((csr ((GM Y (gfa fo_412_1 Z Z Z (gld sh_2 Z a8 m0 (i:=1) Z Z Z (gfa fo_412_2 Z Z Z (gld sh_2 Z a8 m0 (i:=2) Z Z Z ?_))))))))
   have c5:=mSub_c (a:=a.social) (b:=b.social) a8.lt
   obtain ⟨b7,b9⟩:∃ r,mSub a.social b.social=r:=⟨_,rfl⟩
   rw [b9] at c5
   refine g_e (ev_pureC a8 pf_127 Z Z c5) Z Z ?_
   rintro _ h0 ⟨h1,c0,h2,rfl⟩
   refine GM Y (g_y (y_extract Z Z) Z Z (g_y (y_extract Z Z) Z Z (GA Y (GA Y (gnx ((c_seq (csr ((GM Y (g_y (y_neq Z Z) Z Z (gnx (?_)))))))))))))
   refine c_cond Z (fun a3=>?_) (fun a3=>?_)
   ·replace a3:=OT a3
    refine csr ((g_y (y_build ze_47 pl_47 (.nil _)) Z Z (GM Y (g_e (ev_store c0 Z Z Z sz_47 Z (.here _ _ (.here _ _ (.here _ _ (.nil _)))) (.tl _ (.tl _ (.tl _ (.tl _ (.hd _)))))) Z Z ?_))))
    rintro _ h3 ⟨c1,h4⟩
    refine GA Y (gnx ((c_ret ?_)))
    have d5:bothSub a b=((⟨0,0,0⟩:Bases),b7.2):=ET (BE a4) (ET (IN a0) (ET (BE a7) (ET (IN a1) (ET (BE b9) (ET (IP a3) (rfl))))))
    refine x_thenR (x_blockR (x_thenR (x_thenR (x_blockR (x_thenR (x_ret ⟨_,_,_,rfl,rfl,blk_cells c1 m4,sh_47,⟨_,_,rfl,rfl,rfl⟩⟩ ?_))))))
    exact ⟨_,_,rfl,c1.fr,c1.grow,by rw [d5]; exact rfl⟩
   ·replace a3:=OF a3
    refine c_skip (x_next (c_region (gfa fo_412_0 Z Z Z (gld sh_335 Z c0 m0 (i:=0) Z Z Z (GM Y (g_y (y_nilCheck Z) Z Z (g_e (ev_store c0 Z Z Z sz_2 Z (.next _ (.next _ (.here _ _ (.nil _)))) (.tl _ (.tl _ (.tl _ (.hd _))))) Z Z ?_)))))))
    rintro _ h5 ⟨c6,h6⟩
    refine g_nil (x_blockN (x_next ?_))
    refine c_region (g_y (y_add Z Z (by omega)) Z Z (GM Y (g_nil (x_again (csr ((g_y (y_lss Z Z) Z Z (gnx ((c_seq (c_condF Z (c_exit (x_thenE (x_thenE (x_blockE (x_next ?_))))))))))))))))
    refine csr ((g_y (y_loadA (cs:=[.int .i64 b0.1,.int .i64 b3.1,.int .i64 b7.1]) sh_47 Z ((blk_cells c6 m3).part (f:=0) (.take _ (.take _ (.take _ (.nil _)))))) Z Z (g_e (ev_store c6 Z Z Z sz_47 Z (.here _ _ (.here _ _ (.here _ _ (.nil _)))) (.tl _ (.tl _ (.tl _ (.tl _ (.hd _)))))) Z Z ?_)))
    rintro _ h7 ⟨c2,h8⟩
    refine GA Y (gnx ((c_ret ?_)))
    have d6:bothSub a b=((⟨b0.1,b3.1,b7.1⟩:Bases),0):=ET (BE a4) (ET (IN a0) (ET (BE a7) (ET (IN a1) (ET (BE b9) (ET (IN a3) (rfl))))))
    refine x_ret ⟨_,_,_,rfl,rfl,blk_cells c2 m4,sh_47,⟨_,_,rfl,rfl,rfl⟩⟩ (⟨_,_,rfl,c2.fr,c2.grow,by rw [d6]; exact rfl⟩)
def baseAdd (a:Bases) (b:Bases):Bases × Int:=
 (bnd (bothAdd a b) fun a0=>
 (a0.1,a0.2))
theorem baseAdd_c {a:Bases} {b:Bases} {d:Dat} {w:World} (hd:∀ b,d b→b < w.heap.size):Ret Tryz.prog 206 [.agg #[.int .i64 a.cash,.int .i64 a.taxable,.int .i64 a.social],.agg #[.int .i64 b.cash,.int .i64 b.taxable,.int .i64 b.social]] w [] d (fun u d' w'=>u=.tuple #[.agg #[.int .i64 ((baseAdd a b).1.cash),.int .i64 ((baseAdd a b).1.taxable),.int .i64 ((baseAdd a b).1.social)],.int .i64 ((baseAdd a b).2)]):=by
 refine ret_enter (n:=11) Tryz.func206 Z Z (ble Z) ?_
 have hI0:=Inv.start hd
 refine csr ((g_e (ev_box hI0 Z) Z Z ?_))
 rintro _ w1 ⟨b4,rfl,hI2,hle3⟩
 refine g_e (ev_box hI2 Z) Z Z ?_
 rintro _ w5 ⟨b8,rfl,hI6,hle7⟩
 refine g_e (ev_alloc hI6 ze_47) Z Z ?_
 rintro _ w9 ⟨a7,rfl,a0,a8⟩
 refine GA Y (gnx ((csr ((g_y (y_loadA (cs:=[.int .i64 a.cash,.int .i64 a.taxable,.int .i64 a.social]) sh_47 Z ((blk_cells a0 m2).part (f:=0) (.take _ (.take _ (.take _ (.nil _)))))) Z Z (g_y (y_loadA (cs:=[.int .i64 b.cash,.int .i64 b.taxable,.int .i64 b.social]) sh_47 Z ((blk_cells a0 m1).part (f:=0) (.take _ (.take _ (.take _ (.nil _)))))) Z Z ?_))))))
 have a2:=bothAdd_c (a:=a) (b:=b) a0.lt
 obtain ⟨a3,a4⟩:∃ r,bothAdd a b=r:=⟨_,rfl⟩
 rw [a4] at a2
 refine g_e (ev_pure a0 pf_260 Z a2) Z Z ?_
 rintro _ a9 ⟨b0,a5,b1,rfl⟩
 refine g_y (y_extract Z Z) Z Z (g_y (y_extract Z Z) Z Z (g_e (ev_store a5 Z Z Z sz_47 Z (.here _ _ (.here _ _ (.here _ _ (.nil _)))) (.hd _)) Z Z ?_))
 rintro _ b2 ⟨a1,b3⟩
 refine GA Y (gnx ((c_ret ?_)))
 have a6:baseAdd a b=(a3.1,a3.2):=ET (BE a4) (rfl)
 refine x_ret ⟨_,_,_,rfl,rfl,blk_cells a1 m0,sh_47,⟨_,_,rfl,rfl,rfl⟩⟩ (⟨_,_,rfl,a1.fr,a1.grow,by rw [a6]; exact rfl⟩)
def baseSub (a:Bases) (b:Bases):Bases × Int:=
 (bnd (bothSub a b) fun a0=>
 (a0.1,a0.2))
theorem baseSub_c {a:Bases} {b:Bases} {d:Dat} {w:World} (hd:∀ b,d b→b < w.heap.size):Ret Tryz.prog 223 [.agg #[.int .i64 a.cash,.int .i64 a.taxable,.int .i64 a.social],.agg #[.int .i64 b.cash,.int .i64 b.taxable,.int .i64 b.social]] w [] d (fun u d' w'=>u=.tuple #[.agg #[.int .i64 ((baseSub a b).1.cash),.int .i64 ((baseSub a b).1.taxable),.int .i64 ((baseSub a b).1.social)],.int .i64 ((baseSub a b).2)]):=by
 refine ret_enter (n:=11) Tryz.func223 Z Z (ble Z) ?_
 have hI0:=Inv.start hd
 refine csr ((g_e (ev_box hI0 Z) Z Z ?_))
 rintro _ w1 ⟨b4,rfl,hI2,hle3⟩
 refine g_e (ev_box hI2 Z) Z Z ?_
 rintro _ w5 ⟨b8,rfl,hI6,hle7⟩
 refine g_e (ev_alloc hI6 ze_47) Z Z ?_
 rintro _ w9 ⟨a7,rfl,a0,a8⟩
 refine GA Y (gnx ((csr ((g_y (y_loadA (cs:=[.int .i64 a.cash,.int .i64 a.taxable,.int .i64 a.social]) sh_47 Z ((blk_cells a0 m2).part (f:=0) (.take _ (.take _ (.take _ (.nil _)))))) Z Z (g_y (y_loadA (cs:=[.int .i64 b.cash,.int .i64 b.taxable,.int .i64 b.social]) sh_47 Z ((blk_cells a0 m1).part (f:=0) (.take _ (.take _ (.take _ (.nil _)))))) Z Z ?_))))))
 have a2:=bothSub_c (a:=a) (b:=b) a0.lt
 obtain ⟨a3,a4⟩:∃ r,bothSub a b=r:=⟨_,rfl⟩
 rw [a4] at a2
 refine g_e (ev_pure a0 pf_260 Z a2) Z Z ?_
 rintro _ a9 ⟨b0,a5,b1,rfl⟩
 refine g_y (y_extract Z Z) Z Z (g_y (y_extract Z Z) Z Z (g_e (ev_store a5 Z Z Z sz_47 Z (.here _ _ (.here _ _ (.here _ _ (.nil _)))) (.hd _)) Z Z ?_))
 rintro _ b2 ⟨a1,b3⟩
 refine GA Y (gnx ((c_ret ?_)))
 have a6:baseSub a b=(a3.1,a3.2):=ET (BE a4) (rfl)
 refine x_ret ⟨_,_,_,rfl,rfl,blk_cells a1 m0,sh_47,⟨_,_,rfl,rfl,rfl⟩⟩ (⟨_,_,rfl,a1.fr,a1.grow,by rw [a6]; exact rfl⟩)
def baseOf_l1 (t:Table):List Elem→Nat→Int→Int→Int→Out (Int × Int × Int) (Bases × Int)
 | [],a6,a3,a4,a5=>(Out.next ((a3,a4,a5)))
 | a7 :: tl1,a6,a3,a4,a5=>(bnd (tKind t a7.kind) fun a0=>
 (if (a0.2≠0) then (Out.ret (((⟨0,0,0⟩:Bases),a0.2)))
 else (bnd (eValue a7) fun a1=>
 (if (a1.2≠0) then (Out.ret (((⟨0,0,0⟩:Bases),a1.2)))
 else (bnd (baseAdd ((⟨a3,a4,a5⟩:Bases)) ((⟨(wI (a1.1 * a0.1.cash)),(wI (a1.1 * a0.1.taxable)),(wI (a1.1 * a0.1.social))⟩:Bases))) fun a2=>
 (if (a2.2≠0) then (Out.ret (((⟨0,0,0⟩:Bases),a2.2)))
 else (baseOf_l1 t tl1 (a6 + 1) a2.1.cash a2.1.taxable a2.1.social)))))))
def baseOf (t:Table) (list:(List Elem)):Bases × Int:=
 (bnd (eCheckAll t list) fun a0=>
 (if (a0≠0) then ((⟨0,0,0⟩:Bases),a0)
 else (out (baseOf_l1 t list 0 0 0 0) fun ⟨a1,a2,a3⟩=>
 ((⟨a1,a2,a3⟩:Bases),0))))
theorem baseOf_c {t:Table} {cs_t:List Value} {list:(List Elem)} {v_list:Value} {d:Dat} {w:World} (hd:∀ b,d b→b < w.heap.size) (h_t:tableTy.rel d w t cs_t) (h_list:Sl elemTy d w v_list list):Ret Tryz.prog 130 [.agg cs_t.toArray,v_list] w [] d (fun u d' w'=>u=.tuple #[.agg #[.int .i64 ((baseOf t list).1.cash),.int .i64 ((baseOf t list).1.taxable),.int .i64 ((baseOf t list).1.social)],.int .i64 ((baseOf t list).2)]):=by
 obtain ⟨v1,v2,v3,rfl,hS4,hS5,hS6⟩:=h_t
 obtain ⟨A7,c8,rfl,hn9,j5⟩:=hS4.fm
 obtain ⟨c5,c6,rfl,j6,j7⟩:=hS5.fm
 obtain ⟨c7,c9,rfl,j8,j9⟩:=hS6.fm
 obtain ⟨g1,g2,rfl,k0,k1⟩:=h_list.fm
 refine ret_enter (n:=72) Tryz.func130 Z Z (ble Z) ?_
 have hI0:=Inv.start hd
 refine csr ((g_e (ev_box hI0 Z) Z Z ?_))
 rintro _ k2 ⟨e1,rfl,g3,a9⟩
 refine g_e (ev_alloc g3 ze_47) Z Z ?_
 rintro _ k3 ⟨d0,rfl,e2,b0⟩
 refine GA Y (gnx ((c_seq (csr ((g_y (y_loadA (cs:=[.slice A7 (t.schemes).length c8,.slice c5 (t.contribs).length c6,.slice c7 (t.kinds).length c9,.int .i64 t.limit,.int .i64 t.round]) sh_26 Z ((blk_cells e2 m1).part (f:=0) (.take _ (.take _ (.take _ (.take _ (.take _ (.nil _)))))))) Z Z (GM Y ?_)))))))
 have f2:=eCheckAll_c (t:=t) (list:=list) e2.lt (show tableTy.rel _ _ t _ from ⟨_,_,_,rfl,(hS4.mono (a9.t b0)),(hS5.mono (a9.t b0)),(hS6.mono (a9.t b0))⟩) (h_list.mono (a9.t b0))
 obtain ⟨g4,b3⟩:∃ r,eCheckAll t list=r:=⟨_,rfl⟩
 rw [b3] at f2
 refine g_e (ev_pure e2 pf_98 Z f2) Z Z ?_
 rintro _ k4 ⟨e3,f3,d1,rfl⟩
 refine GA Y (gnx ((csr ((GM Y (g_y (y_neq Z Z) Z Z (gnx ((c_cond Z (fun a6=>?_) (fun a6=>?_))))))))))
 ·replace a6:=OT a6
  refine csr ((g_y (y_build ze_47 pl_47 (.nil _)) Z Z (GM Y (g_e (ev_store f3 Z Z Z sz_47 Z (.here _ _ (.here _ _ (.here _ _ (.nil _)))) (.hd _)) Z Z ?_))))
  rintro _ k5 ⟨e4,k6⟩
  refine GA Y (gnx ((c_ret ?_)))
  have g5:baseOf t list=((⟨0,0,0⟩:Bases),g4):=ET (BE b3) (ET (IP a6) (rfl))
  refine x_thenR (x_ret ⟨_,_,_,rfl,rfl,blk_cells e4 m0,sh_47,⟨_,_,rfl,rfl,rfl⟩⟩ ?_)
  exact ⟨_,_,rfl,e4.fr,e4.grow,by rw [g5]; exact rfl⟩
 ·replace a6:=OF a6
  refine c_skip (x_next (csr ((g_e (ev_alloc f3 ze_47) Z Z ?_))))
  rintro _ f4 ⟨d2,rfl,g6,d3⟩
  refine gnx ((c_seq (csr ((GM Y (gln el_43 Z Z Z (GM Y (gnx ((c_cut1 (ι:=Int × Int × Int × Dat) (fun ⟨b4,b5,b6,d4⟩=>[(4,.pointer (some ⟨d0,0,none⟩)),(7,.pointer (some ⟨d2,0,none⟩))]) (fun ⟨b4,b5,b6,d4⟩ e5=>Inv [] d w d4 [blk d2 47 [.int .i64 b4,.int .i64 b5,.int .i64 b6],blk d0 47 [.int .i64 0,.int .i64 0,.int .i64 0],blk e1 26 [.slice A7 (t.schemes).length c8,.slice c5 (t.contribs).length c6,.slice c7 (t.kinds).length c9,.int .i64 t.limit,.int .i64 t.round]] e5∧Le e3 f4 d4 e5∧baseOf_l1 t list 0 0 0 0=Out.next ((b4,b5,b6))) ?_ ?_))))))))))
  ·refine c_block (c_loop (ι:=Nat × Int × Int × Int × Dat) (fun ⟨a0,a1,a2,a3,b7⟩=>[(2,.pointer (some ⟨e1,0,none⟩)),(4,.pointer (some ⟨d0,0,none⟩)),(7,.pointer (some ⟨d2,0,none⟩)),(21,.slice g1 (list).length g2),(22,.int .i64 (list.length:Int)),(23,.int .i64 (a0:Int))]) (fun ⟨a0,a1,a2,a3,b7⟩ e6=>Inv [] d w b7 [blk d2 47 [.int .i64 a1,.int .i64 a2,.int .i64 a3],blk d0 47 [.int .i64 0,.int .i64 0,.int .i64 0],blk e1 26 [.slice A7 (t.schemes).length c8,.slice c5 (t.contribs).length c6,.slice c7 (t.kinds).length c9,.int .i64 t.limit,.int .i64 t.round]] e6∧Le e3 f4 b7 e6∧baseOf_l1 t list 0 0 0 0=baseOf_l1 t (list.drop a0) a0 a1 a2 a3∧a0≤list.length) (fun ⟨a0,a1,a2,a3,b7⟩=>list.length - a0) (0,0,0,0,e3) (.cons Z (.cons Z (.cons Z (.cons Z (.cons Z (.cons Z (.nil _))))))) ⟨g6,Le.refl _ _,rfl,Nat.zero_le _⟩ ?_)
   rintro ⟨a0,a1,a2,a3,b7⟩ e6 ⟨f5,b8,b9,k7⟩
   refine csr ((g_y (y_lss Z Z) Z Z (gnx ((c_seq (c_cond Z (fun c0=>?_) (fun c0=>?_)))))))
   ·replace c0:=OT c0
    obtain ⟨a7,c1⟩:=has (xs:=list) (k:=a0) (by omega)
    refine c_skip (x_next (c_seq (c_block (csr (?_)))))
    obtain ⟨k8,k9,l0,g7,g8,g9,l1⟩:=Sl.at_ (h_list.mono ((((a9.t b0).t d1).t d3).t b8)) c1
    obtain rfl:=g8
    refine g_y (y_indexAddr (i:=a0) el_43 Z g7 Z (rfl) (by omega)) Z Z (g_y (y_loadA (cs:=[.string a7.kind,.int .i64 a7.amount,.int .i64 a7.units]) sh_40 Z (g9.part (f:=0) (.take _ (.take _ (.take _ (.nil _)))))) Z Z (g_e (ev_alloc f5 ze_40) Z Z ?_))
    rintro _ l2 ⟨l3,rfl,h0,d5⟩
    refine g_e (ev_store h0 Z Z Z sz_40 Z (.here _ _ (.here _ _ (.here _ _ (.nil _)))) (.hd _)) Z Z ?_
    rintro _ l4 ⟨d6,d7⟩
    refine gnx ((csr ((g_y (y_loadA (cs:=[.slice A7 (t.schemes).length c8,.slice c5 (t.contribs).length c6,.slice c7 (t.kinds).length c9,.int .i64 t.limit,.int .i64 t.round]) sh_26 Z ((blk_cells d6 m3).part (f:=0) (.take _ (.take _ (.take _ (.take _ (.take _ (.nil _)))))))) Z Z (gfa fo_40_0 Z Z Z (gld sh_9 Z d6 m0 (i:=0) Z Z Z ?_))))))
    have f6:=tKind_c (t:=t) (name:=a7.kind) d6.lt (show tableTy.rel _ _ t _ from ⟨_,_,_,rfl,(hS4.mono ((((((a9.t b0).t d1).t d3).t b8).t d5).t d7)),(hS5.mono ((((((a9.t b0).t d1).t d3).t b8).t d5).t d7)),(hS6.mono ((((((a9.t b0).t d1).t d3).t b8).t d5).t d7))⟩)
    obtain ⟨a4,c2⟩:∃ r,tKind t a7.kind=r:=⟨_,rfl⟩
    rw [c2] at f6
    refine g_e (ev_pure d6 pf_204 Z f6) Z Z ?_
    rintro _ l5 ⟨l6,h1,h2,rfl⟩
    refine GM Y (g_y (y_extract Z Z) Z Z (g_y (y_extract Z Z) Z Z (g_e (ev_alloc h1 ze_36) Z Z ?_)))
    rintro _ l7 ⟨l8,rfl,h3,h4⟩
    refine g_e (ev_store h3 Z Z Z sz_36 Z (.here _ _ (.here _ _ (.here _ _ (.here _ _ (.nil _))))) (.hd _)) Z Z ?_
    rintro _ l9 ⟨d8,h5⟩
    refine GA Y (gnx ((c_seq (csr ((GM Y (g_y (y_neq Z Z) Z Z (gnx ((c_cond Z (fun a8=>?_) (fun a8=>?_)))))))))))
    ·replace a8:=OT a8
     refine csr ((g_y (y_build ze_47 pl_47 (.nil _)) Z Z (GM Y (g_e (ev_store d8 Z Z Z sz_47 Z (.here _ _ (.here _ _ (.here _ _ (.nil _)))) (.tl _ (.tl _ (.tl _ (.hd _))))) Z Z ?_))))
     rintro _ m6 ⟨e7,m7⟩
     refine GA Y (gnx ((c_ret ?_)))
     have h6:baseOf_l1 t list 0 0 0 0=(Out.ret (((⟨0,0,0⟩:Bases),a4.2))):=b9.trans (ET (congrArg (fun l=>baseOf_l1 t l a0 a1 a2 a3) (drop_cons c1)) (ET (BE c2) (ET (IP a8) (rfl))))
     have h7:baseOf t list=((⟨0,0,0⟩:Bases),a4.2):=ET (BE b3) (ET (IN a6) (ET (out_ret h6) (rfl)))
     refine x_thenR (x_blockR (x_thenR (x_rndR (x_blockR (x_cutR (x_thenR (x_ret ⟨_,_,_,rfl,rfl,blk_cells e7 m3,sh_47,⟨_,_,rfl,rfl,rfl⟩⟩ ?_)))))))
     exact ⟨_,_,rfl,e7.fr,e7.grow,by rw [h7]; exact rfl⟩
    ·replace a8:=OF a8
     refine c_skip (x_next (csr ((g_y (y_loadA (cs:=[.string a7.kind,.int .i64 a7.amount,.int .i64 a7.units]) sh_40 Z ((blk_cells d8 m1).part (f:=0) (.take _ (.take _ (.take _ (.nil _)))))) Z Z ?_))))
     have f7:=eValue_c (e:=a7) d8.lt
     obtain ⟨a5,d9⟩:∃ r,eValue a7=r:=⟨_,rfl⟩
     rw [d9] at f7
     refine g_e (ev_pure d8 pf_205 Z f7) Z Z ?_
     rintro _ m8 ⟨m9,c3,h8,rfl⟩
     refine GM Y (g_y (y_extract Z Z) Z Z (g_y (y_extract Z Z) Z Z (GA Y (GA Y (gnx ((c_seq (csr ((GM Y (g_y (y_neq Z Z) Z Z (gnx (?_)))))))))))))
     refine c_cond Z (fun b1=>?_) (fun b1=>?_)
     ·replace b1:=OT b1
      refine csr ((g_y (y_build ze_47 pl_47 (.nil _)) Z Z (GM Y (g_e (ev_store c3 Z Z Z sz_47 Z (.here _ _ (.here _ _ (.here _ _ (.nil _)))) (.tl _ (.tl _ (.tl _ (.hd _))))) Z Z ?_))))
      rintro _ n0 ⟨e8,n1⟩
      refine GA Y (gnx ((c_ret ?_)))
      have h9:baseOf_l1 t list 0 0 0 0=(Out.ret (((⟨0,0,0⟩:Bases),a5.2))):=b9.trans (ET (congrArg (fun l=>baseOf_l1 t l a0 a1 a2 a3) (drop_cons c1)) (ET (BE c2) (ET (IN a8) (ET (BE d9) (ET (IP b1) (rfl))))))
      have i0:baseOf t list=((⟨0,0,0⟩:Bases),a5.2):=ET (BE b3) (ET (IN a6) (ET (out_ret h9) (rfl)))
      refine x_thenR (x_blockR (x_thenR (x_rndR (x_blockR (x_cutR (x_thenR (x_ret ⟨_,_,_,rfl,rfl,blk_cells e8 m3,sh_47,⟨_,_,rfl,rfl,rfl⟩⟩ ?_)))))))
      exact ⟨_,_,rfl,e8.fr,e8.grow,by rw [i0]; exact rfl⟩
     ·replace b1:=OF b1
      refine c_skip (x_next (csr ((GM Y (gfa fo_36_1 Z Z Z (gld sh_3 Z c3 m0 (i:=1) Z Z Z (g_y (y_mulW Z Z) Z Z (GM Y (gfa fo_36_2 Z Z Z (gld sh_3 Z c3 m0 (i:=2) Z Z Z (g_y (y_mulW Z Z) Z Z (GM Y (gfa fo_36_3 Z Z Z ?_)))))))))))))
      refine gld sh_3 Z c3 m0 (i:=3) Z Z Z (g_y (y_mulW Z Z) Z Z (g_y (y_build ze_47 pl_47 (.cons Z Z Z Z (.here _ _ (.nil _)) (ble Z) (.cons Z Z Z Z (.next _ (.here _ _ (.nil _))) (ble Z) (.cons Z Z Z Z (.next _ (.next _ (.here _ _ (.nil _)))) (ble Z) (.nil _))))) Z Z (g_e (ev_alloc c3 ze_47) Z Z ?_)))
      rintro _ n2 ⟨n3,rfl,i1,i2⟩
      refine g_e (ev_store i1 Z Z Z sz_47 Z (.here _ _ (.here _ _ (.here _ _ (.nil _)))) (.hd _)) Z Z ?_
      rintro _ n4 ⟨e0,i3⟩
      refine gnx ((csr ((g_y (y_loadA (cs:=[.int .i64 a1,.int .i64 a2,.int .i64 a3]) sh_47 Z ((blk_cells e0 m3).part (f:=0) (.take _ (.take _ (.take _ (.nil _)))))) Z Z (g_y (y_loadA (cs:=[.int .i64 (wI (a5.1 * a4.1.cash)),.int .i64 (wI (a5.1 * a4.1.taxable)),.int .i64 (wI (a5.1 * a4.1.social))]) sh_47 Z ((blk_cells e0 m0).part (f:=0) (.take _ (.take _ (.take _ (.nil _)))))) Z Z ?_)))))
      have f8:=baseAdd_c (a:=(⟨a1,a2,a3⟩:Bases)) (b:=(⟨(wI (a5.1 * a4.1.cash)),(wI (a5.1 * a4.1.taxable)),(wI (a5.1 * a4.1.social))⟩:Bases)) e0.lt
      obtain ⟨c4,e9⟩:∃ r,baseAdd ((⟨a1,a2,a3⟩:Bases)) ((⟨(wI (a5.1 * a4.1.cash)),(wI (a5.1 * a4.1.taxable)),(wI (a5.1 * a4.1.social))⟩:Bases))=r:=⟨_,rfl⟩
      rw [e9] at f8
      refine g_e (ev_pure e0 pf_206 Z f8) Z Z ?_
      rintro _ n5 ⟨i4,i5,i6,rfl⟩
      refine GM Y (g_y (y_extract Z Z) Z Z (g_y (y_extract Z Z) Z Z (g_e (ev_store i5 Z Z Z sz_47 Z (.here _ _ (.here _ _ (.here _ _ (.nil _)))) (.tl _ (.tl _ (.tl _ (.hd _))))) Z Z ?_)))
      rintro _ n6 ⟨f9,i7⟩
      refine GA Y (gnx ((csr ((GM Y (g_y (y_neq Z Z) Z Z (gnx ((c_cond Z (fun b2=>?_) (fun b2=>?_))))))))))
      ·replace b2:=OT b2
       refine csr ((g_y (y_build ze_47 pl_47 (.nil _)) Z Z (GM Y (g_e (ev_store f9 Z Z Z sz_47 Z (.here _ _ (.here _ _ (.here _ _ (.nil _)))) (.tl _ (.tl _ (.tl _ (.tl _ (.hd _)))))) Z Z ?_))))
       rintro _ n7 ⟨f0,n8⟩
       refine GA Y (gnx ((c_ret ?_)))
       have i8:baseOf_l1 t list 0 0 0 0=(Out.ret (((⟨0,0,0⟩:Bases),c4.2))):=b9.trans (ET (congrArg (fun l=>baseOf_l1 t l a0 a1 a2 a3) (drop_cons c1)) (ET (BE c2) (ET (IN a8) (ET (BE d9) (ET (IN b1) (ET (BE e9) (ET (IP b2) (rfl))))))))
       have i9:baseOf t list=((⟨0,0,0⟩:Bases),c4.2):=ET (BE b3) (ET (IN a6) (ET (out_ret i8) (rfl)))
       refine x_blockR (x_thenR (x_rndR (x_blockR (x_cutR (x_thenR (x_ret ⟨_,_,_,rfl,rfl,blk_cells f0 m4,sh_47,⟨_,_,rfl,rfl,rfl⟩⟩ ?_))))))
       exact ⟨_,_,rfl,f0.fr,f0.grow,by rw [i9]; exact rfl⟩
      ·replace b2:=OF b2
       refine c_skip (x_blockN (x_next ?_))
       refine c_region (g_y (y_add Z Z (by omega)) Z Z (GM Y (g_nil ?_)))
       have j0:=f9.drop (.hd _)
       have j1:=j0.drop (.hd _)
       have j2:=j1.drop (.hd _)
       refine x_round (a0 + 1,c4.1.cash,c4.1.taxable,c4.1.social,i4) (by dsimp only; omega) (.cons Z (.cons Z (.cons Z (.cons Z (.cons Z (.cons Z (.nil _))))))) ⟨j2,((((((((((b8.t d5).t d7).t h2).t h4).t h5).t h8).t i2).t i3).t i6).t i7),b9.trans (ET (congrArg (fun l=>baseOf_l1 t l a0 a1 a2 a3) (drop_cons c1)) (ET (BE c2) (ET (IN a8) (ET (BE d9) (ET (IN b1) (ET (BE e9) (ET (IN b2) (rfl)))))))),by omega⟩
   ·replace c0:=OF c0
    refine c_exit (x_thenE (x_rndE (x_blockE (x_cut (a1,a2,a3,b7) (.cons Z (.cons Z (.nil _))) ⟨f5,b8,b9.trans (ET (congrArg (fun l=>baseOf_l1 t l a0 a1 a2 a3) (drop_nil (by omega))) (rfl))⟩))))
  ·rintro ⟨b4,b5,b6,d4⟩ e5 ⟨g0,n9,j3⟩
   refine x_next (csr ((g_y (y_loadA (cs:=[.int .i64 b4,.int .i64 b5,.int .i64 b6]) sh_47 Z ((blk_cells g0 m0).part (f:=0) (.take _ (.take _ (.take _ (.nil _)))))) Z Z (g_e (ev_store g0 Z Z Z sz_47 Z (.here _ _ (.here _ _ (.here _ _ (.nil _)))) (.tl _ (.hd _))) Z Z ?_))))
   rintro _ o0 ⟨f1,o1⟩
   refine GA Y (gnx ((c_ret ?_)))
   have j4:baseOf t list=((⟨b4,b5,b6⟩:Bases),0):=ET (BE b3) (ET (IN a6) (ET (out_next j3) (rfl)))
   refine x_ret ⟨_,_,_,rfl,rfl,blk_cells f1 m1,sh_47,⟨_,_,rfl,rfl,rfl⟩⟩ (⟨_,_,rfl,f1.fr,f1.grow,by rw [j4]; exact rfl⟩)
def baseMore (b:Bases) (gross:Int):Bases × Int:=
 (bnd (baseAdd b ((⟨gross,gross,gross⟩:Bases))) fun a0=>
 (a0.1,a0.2))
theorem baseMore_c {b:Bases} {gross:Int} {d:Dat} {w:World} (hd:∀ b,d b→b < w.heap.size):Ret Tryz.prog 131 [.agg #[.int .i64 b.cash,.int .i64 b.taxable,.int .i64 b.social],.int .i64 gross] w [] d (fun u d' w'=>u=.tuple #[.agg #[.int .i64 ((baseMore b gross).1.cash),.int .i64 ((baseMore b gross).1.taxable),.int .i64 ((baseMore b gross).1.social)],.int .i64 ((baseMore b gross).2)]):=by
 refine ret_enter (n:=14) Tryz.func131 Z Z (ble Z) ?_
 have hI0:=Inv.start hd
 refine csr ((g_e (ev_box hI0 Z) Z Z ?_))
 rintro _ w1 ⟨b4,rfl,hI2,hle3⟩
 refine g_e (ev_alloc hI2 ze_47) Z Z ?_
 rintro _ w5 ⟨b8,rfl,hI6,hle7⟩
 refine GA Y (gnx ((csr ((g_y (y_loadA (cs:=[.int .i64 b.cash,.int .i64 b.taxable,.int .i64 b.social]) sh_47 Z ((blk_cells hI6 m1).part (f:=0) (.take _ (.take _ (.take _ (.nil _)))))) Z Z (GM Y (GM Y (GM Y (g_y (y_build ze_47 pl_47 (.cons Z Z Z Z (.here _ _ (.nil _)) (ble Z) (.cons Z Z Z Z (.next _ (.here _ _ (.nil _))) (ble Z) (.cons Z Z Z Z (.next _ (.next _ (.here _ _ (.nil _)))) (ble Z) (.nil _))))) Z Z ?_)))))))))
 have hq9:=baseAdd_c (a:=b) (b:=(⟨gross,gross,gross⟩:Bases)) hI6.lt
 obtain ⟨a1,a2⟩:∃ r,baseAdd b ((⟨gross,gross,gross⟩:Bases))=r:=⟨_,rfl⟩
 rw [a2] at hq9
 refine g_e (ev_pure hI6 pf_206 Z hq9) Z Z ?_
 rintro _ a5 ⟨a6,a3,a7,rfl⟩
 refine g_y (y_extract Z Z) Z Z (g_y (y_extract Z Z) Z Z (g_e (ev_store a3 Z Z Z sz_47 Z (.here _ _ (.here _ _ (.here _ _ (.nil _)))) (.hd _)) Z Z ?_))
 rintro _ a8 ⟨a0,a9⟩
 refine GA Y (gnx ((c_ret ?_)))
 have a4:baseMore b gross=(a1.1,a1.2):=ET (BE a2) (rfl)
 refine x_ret ⟨_,_,_,rfl,rfl,blk_cells a0 m0,sh_47,⟨_,_,rfl,rfl,rfl⟩⟩ (⟨_,_,rfl,a0.fr,a0.grow,by rw [a4]; exact rfl⟩)
def baseYear_l1:List Bases→Nat→Int→Int→Int→Out (Int × Int × Int) (Bases × Int)
 | [],a4,a1,a2,a3=>(Out.next ((a1,a2,a3)))
 | a5 :: tl1,a4,a1,a2,a3=>(bnd (baseAdd ((⟨a1,a2,a3⟩:Bases)) a5) fun a0=>
 (if (a0.2≠0) then (Out.ret (((⟨0,0,0⟩:Bases),a0.2)))
 else (baseYear_l1 tl1 (a4 + 1) a0.1.cash a0.1.taxable a0.1.social)))
def baseYear (list:(List Bases)):Bases × Int:=
 (out (baseYear_l1 list 0 0 0 0) fun ⟨a0,a1,a2⟩=>
 ((⟨a0,a1,a2⟩:Bases),0))
theorem baseYear_c {list:(List Bases)} {v_list:Value} {d:Dat} {w:World} (hd:∀ b,d b→b < w.heap.size) (h_list:Sl basesTy d w v_list list):Ret Tryz.prog 133 [v_list] w [] d (fun u d' w'=>u=.tuple #[.agg #[.int .i64 ((baseYear list).1.cash),.int .i64 ((baseYear list).1.taxable),.int .i64 ((baseYear list).1.social)],.int .i64 ((baseYear list).2)]):=by
 obtain ⟨A1,c2,rfl,hn3,hb4⟩:=h_list.fm
 refine ret_enter (n:=26) Tryz.func133 Z Z (ble Z) ?_
 have hI0:=Inv.start hd
 refine csr ((g_e (ev_alloc hI0 ze_47) Z Z ?_))
 rintro _ w5 ⟨b8,rfl,hI6,hle7⟩
 refine GA Y (gnx ((csr ((g_e (ev_alloc hI6 ze_47) Z Z ?_)))))
 rintro _ w9 ⟨b2,rfl,c9,d0⟩
 refine gnx ((c_seq (csr ((GM Y (gln el_95 Z Z Z (GM Y (gnx ((c_cut1 (ι:=Int × Int × Int × Dat) (fun ⟨a6,a7,a8,b3⟩=>[(2,.pointer (some ⟨b8,0,none⟩)),(4,.pointer (some ⟨b2,0,none⟩))]) (fun ⟨a6,a7,a8,b3⟩ b5=>Inv [] d w b3 [blk b2 47 [.int .i64 a6,.int .i64 a7,.int .i64 a8],blk b8 47 [.int .i64 0,.int .i64 0,.int .i64 0]] b5∧Le d w9 b3 b5∧baseYear_l1 list 0 0 0 0=Out.next ((a6,a7,a8))) ?_ ?_))))))))))
 ·refine c_block (c_loop (ι:=Nat × Int × Int × Int × Dat) (fun ⟨a0,a1,a2,a3,a9⟩=>[(2,.pointer (some ⟨b8,0,none⟩)),(4,.pointer (some ⟨b2,0,none⟩)),(8,.slice A1 (list).length c2),(9,.int .i64 (list.length:Int)),(10,.int .i64 (a0:Int))]) (fun ⟨a0,a1,a2,a3,a9⟩ b6=>Inv [] d w a9 [blk b2 47 [.int .i64 a1,.int .i64 a2,.int .i64 a3],blk b8 47 [.int .i64 0,.int .i64 0,.int .i64 0]] b6∧Le d w9 a9 b6∧baseYear_l1 list 0 0 0 0=baseYear_l1 (list.drop a0) a0 a1 a2 a3∧a0≤list.length) (fun ⟨a0,a1,a2,a3,a9⟩=>list.length - a0) (0,0,0,0,d) (.cons Z (.cons Z (.cons Z (.cons Z (.cons Z (.nil _)))))) ⟨c9,Le.refl _ _,rfl,Nat.zero_le _⟩ ?_)
  rintro ⟨a0,a1,a2,a3,a9⟩ b6 ⟨c5,b7,b9,e6⟩
  refine csr ((g_y (y_lss Z Z) Z Z (gnx ((c_seq (c_cond Z (fun b0=>?_) (fun b0=>?_)))))))
  ·replace b0:=OT b0
   obtain ⟨a4,c0⟩:=has (xs:=list) (k:=a0) (by omega)
   refine c_skip (x_next (c_seq (c_block (csr (?_)))))
   obtain ⟨e7,e8,e9,d1,d2,d3,f0⟩:=Sl.at_ (h_list.mono ((hle7.t d0).t b7)) c0
   obtain rfl:=d2
   refine g_y (y_indexAddr (i:=a0) el_95 Z d1 Z (rfl) (by omega)) Z Z (g_y (y_loadA (cs:=[.int .i64 a4.cash,.int .i64 a4.taxable,.int .i64 a4.social]) sh_47 Z (d3.part (f:=0) (.take _ (.take _ (.take _ (.nil _)))))) Z Z (g_e (ev_alloc c5 ze_47) Z Z ?_))
   rintro _ f1 ⟨f2,rfl,d4,d5⟩
   refine g_e (ev_store d4 Z Z Z sz_47 Z (.here _ _ (.here _ _ (.here _ _ (.nil _)))) (.hd _)) Z Z ?_
   rintro _ f3 ⟨b4,d6⟩
   refine gnx ((csr ((GA Y (gnx ((csr ((g_y (y_loadA (cs:=[.int .i64 a1,.int .i64 a2,.int .i64 a3]) sh_47 Z ((blk_cells b4 m1).part (f:=0) (.take _ (.take _ (.take _ (.nil _)))))) Z Z (g_y (y_loadA (cs:=[.int .i64 a4.cash,.int .i64 a4.taxable,.int .i64 a4.social]) sh_47 Z ((blk_cells b4 m0).part (f:=0) (.take _ (.take _ (.take _ (.nil _)))))) Z Z ?_))))))))))
   have c6:=baseAdd_c (a:=(⟨a1,a2,a3⟩:Bases)) (b:=a4) b4.lt
   obtain ⟨b1,c1⟩:∃ r,baseAdd ((⟨a1,a2,a3⟩:Bases)) a4=r:=⟨_,rfl⟩
   rw [c1] at c6
   refine g_e (ev_pure b4 pf_206 Z c6) Z Z ?_
   rintro _ f4 ⟨d7,d8,d9,rfl⟩
   refine GM Y (g_y (y_extract Z Z) Z Z (g_y (y_extract Z Z) Z Z (g_e (ev_store d8 Z Z Z sz_47 Z (.here _ _ (.here _ _ (.here _ _ (.nil _)))) (.tl _ (.hd _))) Z Z ?_)))
   rintro _ f5 ⟨c7,e0⟩
   refine GA Y (gnx ((csr ((GM Y (g_y (y_neq Z Z) Z Z (gnx ((c_cond Z (fun a5=>?_) (fun a5=>?_))))))))))
   ·replace a5:=OT a5
    refine csr ((g_y (y_build ze_47 pl_47 (.nil _)) Z Z (GM Y (g_e (ev_store c7 Z Z Z sz_47 Z (.here _ _ (.here _ _ (.here _ _ (.nil _)))) (.tl _ (.tl _ (.hd _)))) Z Z ?_))))
    rintro _ f6 ⟨c3,f7⟩
    refine GA Y (gnx ((c_ret ?_)))
    have e1:baseYear_l1 list 0 0 0 0=(Out.ret (((⟨0,0,0⟩:Bases),b1.2))):=b9.trans (ET (congrArg (fun l=>baseYear_l1 l a0 a1 a2 a3) (drop_cons c0)) (ET (BE c1) (ET (IP a5) (rfl))))
    have e2:baseYear list=((⟨0,0,0⟩:Bases),b1.2):=ET (out_ret e1) (rfl)
    refine x_blockR (x_thenR (x_rndR (x_blockR (x_cutR (x_thenR (x_ret ⟨_,_,_,rfl,rfl,blk_cells c3 m2,sh_47,⟨_,_,rfl,rfl,rfl⟩⟩ ?_))))))
    exact ⟨_,_,rfl,c3.fr,c3.grow,by rw [e2]; exact rfl⟩
   ·replace a5:=OF a5
    refine c_skip (x_blockN (x_next ?_))
    refine c_region (g_y (y_add Z Z (by omega)) Z Z (GM Y (g_nil ?_)))
    have e3:=c7.drop (.hd _)
    refine x_round (a0 + 1,b1.1.cash,b1.1.taxable,b1.1.social,d7) (by dsimp only; omega) (.cons Z (.cons Z (.cons Z (.cons Z (.cons Z (.nil _)))))) ⟨e3,((((b7.t d5).t d6).t d9).t e0),b9.trans (ET (congrArg (fun l=>baseYear_l1 l a0 a1 a2 a3) (drop_cons c0)) (ET (BE c1) (ET (IN a5) (rfl)))),by omega⟩
  ·replace b0:=OF b0
   refine c_exit (x_thenE (x_rndE (x_blockE (x_cut (a1,a2,a3,a9) (.cons Z (.cons Z (.nil _))) ⟨c5,b7,b9.trans (ET (congrArg (fun l=>baseYear_l1 l a0 a1 a2 a3) (drop_nil (by omega))) (rfl))⟩))))
 ·rintro ⟨a6,a7,a8,b3⟩ b5 ⟨c8,f8,e4⟩
  refine x_next (csr ((g_y (y_loadA (cs:=[.int .i64 a6,.int .i64 a7,.int .i64 a8]) sh_47 Z ((blk_cells c8 m0).part (f:=0) (.take _ (.take _ (.take _ (.nil _)))))) Z Z (g_e (ev_store c8 Z Z Z sz_47 Z (.here _ _ (.here _ _ (.here _ _ (.nil _)))) (.tl _ (.hd _))) Z Z ?_))))
  rintro _ f9 ⟨c4,g0⟩
  refine GA Y (gnx ((c_ret ?_)))
  have e5:baseYear list=((⟨a6,a7,a8⟩:Bases),0):=ET (out_next e4) (rfl)
  refine x_ret ⟨_,_,_,rfl,rfl,blk_cells c4 m1,sh_47,⟨_,_,rfl,rfl,rfl⟩⟩ (⟨_,_,rfl,c4.fr,c4.grow,by rw [e5]; exact rfl⟩)
def baseRight (b:Bases):Bool:=
 (bnd (mRight ([b.cash,b.taxable,b.social])) fun a0=>
 a0)
theorem baseRight_c {b:Bases} {d:Dat} {w:World} (hd:∀ b,d b→b < w.heap.size):Ret Tryz.prog 155 [.agg #[.int .i64 b.cash,.int .i64 b.taxable,.int .i64 b.social]] w [] d (fun u d' w'=>u=.bool ((baseRight b))):=by
 refine ret_enter (n:=11) Tryz.func155 Z Z (ble Z) ?_
 have hI0:=Inv.start hd
 refine csr ((g_e (ev_box hI0 Z) Z Z ?_))
 rintro _ w1 ⟨b4,rfl,hI2,hle3⟩
 refine GA Y (gnx ((csr ((gfa fo_47_0 Z Z Z (gld sh_2 Z hI2 m0 (i:=0) Z Z Z (gfa fo_47_1 Z Z Z (gld sh_2 Z hI2 m0 (i:=1) Z Z Z (gfa fo_47_2 Z Z Z (gld sh_2 Z hI2 m0 (i:=2) Z Z Z (g_e (ev_buildSl (T:=intTy) (xs:=[b.cash,b.taxable,b.social]) hI2 el_174 ze_2 Z Z (ble Z) (ble Z) (.cons Z Z Z Z (.here _ _ (.nil _)) (ble Z) (.cons Z Z Z Z (.next _ (.here _ _ (.nil _))) (ble Z) (.cons Z Z Z Z (.next _ (.next _ (.here _ _ (.nil _)))) (ble Z) (.nil _)))) (.cons (x:=b.cash) (cs:=[.int .i64 b.cash]) Z (.cons (x:=b.taxable) (cs:=[.int .i64 b.taxable]) Z (.cons (x:=b.social) (cs:=[.int .i64 b.social]) Z .nil)))) Z Z ?_)))))))))))
 rintro _ w6 ⟨d5,hI7,hle8,hS9,a5,rfl⟩
 have a0:=mRight_c (list:=[b.cash,b.taxable,b.social]) hI7.lt hS9
 obtain ⟨a3,a1⟩:∃ r,mRight ([b.cash,b.taxable,b.social])=r:=⟨_,rfl⟩
 rw [a1] at a0
 refine g_e (ev_pure hI7 pf_117 Z a0) Z Z ?_
 rintro _ a6 ⟨a7,a2,a8,rfl⟩
 refine GA Y (gnx ((c_ret ?_)))
 have a4:baseRight b=a3:=ET (BE a1) (rfl)
 refine x_ret ⟨_,_,rfl,rfl,rfl⟩ (⟨_,_,rfl,a2.fr,a2.grow,by rw [a4]; exact rfl⟩)
def baseUnder_m1 (c:Contrib) (x:Int):Int:=
 (if (0 < c.pceil) then (min (max 0 x) c.pceil)
 else (max 0 x))
def baseUnder_m2 (c:Contrib) (ahead:Int) (a0:Int):Int:=
 (if (0 < c.yceil) then (min a0 (max 0 (wI (c.yceil - (max 0 ahead)))))
 else a0)
def baseUnder (c:Contrib) (x:Int) (ahead:Int):Int:=
 (bnd (baseUnder_m1 c x) fun a0=>
 (bnd (baseUnder_m2 c ahead a0) fun a1=>
 a1))
theorem baseUnder_c {c:Contrib} {cs_c:List Value} {x:Int} {ahead:Int} {d:Dat} {w:World} (hd:∀ b,d b→b < w.heap.size) (h_c:contribTy.rel d w c cs_c):Ret Tryz.prog 279 [.agg cs_c.toArray,.int .i64 x,.int .i64 ahead] w [] d (fun u d' w'=>u=.int .i64 ((baseUnder c x ahead))):=by
 obtain ⟨v1,rfl,hS2⟩:=h_c
 obtain ⟨A3,c4,rfl,hn5,hb6⟩:=hS2.fm
 refine ret_enter (n:=28) Tryz.func279 Z Z (ble Z) ?_
 have hI0:=Inv.start hd
 refine csr ((g_e (ev_box hI0 Z) Z Z ?_))
 rintro _ w7 ⟨a8,rfl,hI8,hle9⟩
 refine GA Y (gnx ((csr ((GM Y (g_y (y_max Z Z) Z Z (GA Y (gnx ((c_cut (ι:=Int × Dat) (fun ⟨a0,a1⟩=>[(1,.int .i64 a0),(2,.int .i64 ahead),(3,.pointer (some ⟨a8,0,none⟩))]) (fun ⟨a0,a1⟩ a5=>Inv [] d w a1 [blk a8 70 [.string c.name,.int .i64 c.base,.slice A3 (c.bands).length c4,.int .i64 c.pceil,.int .i64 c.yceil,.int .i64 c.round]] a5∧Le d w7 a1 a5∧baseUnder_m1 c x=a0) ?_ ?_))))))))))
 ·refine csr ((gfa fo_70_3 Z Z Z (gld sh_2 Z hI8 m0 (i:=3) Z Z Z (g_y (y_gtr Z Z) Z Z (gnx ((c_cond Z (fun a2=>?_) (fun a2=>?_))))))))
  ·replace a2:=OT a2
   refine c_region (GM Y (gfa fo_70_3 Z Z Z (gld sh_2 Z hI8 m0 (i:=3) Z Z Z (g_y (y_min Z Z) Z Z (GA Y (g_nil (x_cut ((min (max 0 x) c.pceil),d) (.cons Z (.cons Z (.cons Z (.nil _)))) ⟨hI8,(Le.refl _ _),ET (IP a2) (rfl)⟩)))))))
  ·replace a2:=OF a2
   refine c_skip (x_cut ((max 0 x),d) (.cons Z (.cons Z (.cons Z (.nil _)))) ⟨hI8,(Le.refl _ _),ET (IN a2) (rfl)⟩)
 ·rintro ⟨a0,a1⟩ a5 ⟨a6,b4,b1⟩
  refine c_cut (ι:=Int × Dat) (fun ⟨a4,a7⟩=>[(1,.int .i64 a4)]) (fun ⟨a4,a7⟩ a9=>Inv [] d w a7 [blk a8 70 [.string c.name,.int .i64 c.base,.slice A3 (c.bands).length c4,.int .i64 c.pceil,.int .i64 c.yceil,.int .i64 c.round]] a9∧Le a1 a5 a7 a9∧baseUnder_m2 c ahead a0=a4) ?_ ?_
  ·refine csr ((gfa fo_70_4 Z Z Z (gld sh_2 Z a6 m0 (i:=4) Z Z Z (g_y (y_gtr Z Z) Z Z (gnx ((c_cond Z (fun a3=>?_) (fun a3=>?_))))))))
   ·replace a3:=OT a3
    refine c_region (GM Y (gfa fo_70_4 Z Z Z (gld sh_2 Z a6 m0 (i:=4) Z Z Z (GM Y (g_y (y_max Z Z) Z Z (g_y (y_subW Z Z) Z Z (g_y (y_max Z Z) Z Z (g_y (y_min Z Z) Z Z (GA Y (g_nil (x_cut ((min a0 (max 0 (wI (c.yceil - (max 0 ahead))))),a1) (.cons Z (.nil _)) ⟨a6,(Le.refl _ _),ET (IP a3) (rfl)⟩)))))))))))
   ·replace a3:=OF a3
    refine c_skip (x_cut (a0,a1) (.cons Z (.nil _)) ⟨a6,(Le.refl _ _),ET (IN a3) (rfl)⟩)
  ·rintro ⟨a4,a7⟩ a9 ⟨b0,b5,b2⟩
   refine csr ((GM Y (GA Y (gnx ((c_ret ?_))))))
   have b3:baseUnder c x ahead=a4:=ET (BE b1) (ET (BE b2) (rfl))
   refine x_ret ⟨_,_,rfl,rfl,rfl⟩ (⟨_,_,rfl,b0.fr,b0.grow,by rw [b3]; exact rfl⟩)
def baseOn (c:Contrib) (b:Bases):Int:=
 (if (c.base=1) then (max 0 b.taxable)
 else (max 0 b.social))
theorem baseOn_c {c:Contrib} {cs_c:List Value} {b:Bases} {d:Dat} {w:World} (hd:∀ b,d b→b < w.heap.size) (h_c:contribTy.rel d w c cs_c):Ret Tryz.prog 280 [.agg cs_c.toArray,.agg #[.int .i64 b.cash,.int .i64 b.taxable,.int .i64 b.social]] w [] d (fun u d' w'=>u=.int .i64 ((baseOn c b))):=by
 obtain ⟨v1,rfl,hS2⟩:=h_c
 obtain ⟨A3,c4,rfl,hn5,hb6⟩:=hS2.fm
 refine ret_enter (n:=14) Tryz.func280 Z Z (ble Z) ?_
 have hI0:=Inv.start hd
 refine csr ((g_e (ev_box hI0 Z) Z Z ?_))
 rintro _ w7 ⟨a4,rfl,hI8,hle9⟩
 refine g_e (ev_box hI8 Z) Z Z ?_
 rintro _ a5 ⟨a6,rfl,a0,a7⟩
 refine GA Y (gnx ((c_seq (csr ((gfa fo_70_1 Z Z Z (gld sh_3 Z a0 m1 (i:=1) Z Z Z (g_y (y_eql Z Z) Z Z (gnx ((c_cond Z (fun a1=>?_) (fun a1=>?_))))))))))))
 ·replace a1:=OT a1
  refine csr ((gfa fo_47_1 Z Z Z (gld sh_2 Z a0 m0 (i:=1) Z Z Z (g_y (y_max Z Z) Z Z (GA Y (gnx ((c_ret ?_))))))))
  have a2:baseOn c b=(max 0 b.taxable):=ET (IP a1) (rfl)
  refine x_thenR (x_ret ⟨_,_,rfl,rfl,rfl⟩ ?_)
  exact ⟨_,_,rfl,a0.fr,a0.grow,by rw [a2]; exact rfl⟩
 ·replace a1:=OF a1
  refine c_skip (x_next (csr ((gfa fo_47_2 Z Z Z (gld sh_2 Z a0 m0 (i:=2) Z Z Z (g_y (y_max Z Z) Z Z (GA Y (gnx ((c_ret ?_))))))))))
  have a3:baseOn c b=(max 0 b.social):=ET (IN a1) (rfl)
  refine x_ret ⟨_,_,rfl,rfl,rfl⟩ (⟨_,_,rfl,a0.fr,a0.grow,by rw [a3]; exact rfl⟩)
def aSum_l1:List Taken→Nat→Int→Out (Int) (Int × Int)
 | [],a2,a0=>(Out.next a0)
 | a3 :: tl1,a2,a0=>(bnd (mAdd a0 a3.taken) fun a1=>
 (if (a1.2≠0) then (Out.ret ((0,a1.2)))
 else (aSum_l1 tl1 (a2 + 1) a1.1)))
def aSum (list:(List Taken)):Int × Int:=
 (out (aSum_l1 list 0 0) fun a0=>
 (a0,0))
theorem aSum_c {list:(List Taken)} {v_list:Value} {d:Dat} {w:World} (hd:∀ b,d b→b < w.heap.size) (h_list:Sl takenTy d w v_list list):Ret Tryz.prog 115 [v_list] w [] d (fun u d' w'=>u=.tuple #[.int .i64 ((aSum list).1),.int .i64 ((aSum list).2)]):=by
 obtain ⟨A1,c2,rfl,hn3,hb4⟩:=h_list.fm
 refine ret_enter (n:=28) Tryz.func115 Z Z (ble Z) ?_
 have hI0:=Inv.start hd
 refine csr ((GA Y (GA Y (gnx ((csr ((GA Y (gnx ((c_seq (csr (?_)))))))))))))
 refine GM Y (gln el_49 Z Z Z (GM Y (gnx ((c_cut1 (ι:=Int × Dat) (fun ⟨a5,a7⟩=>[(4,.int .i64 a5)]) (fun ⟨a5,a7⟩ a8=>Inv [] d w a7 [] a8∧Le d w a7 a8∧aSum_l1 list 0 0=Out.next a5) ?_ ?_)))))
 ·refine c_block (c_loop (ι:=Int × Nat × Dat) (fun ⟨a1,a0,a4⟩=>[(4,.int .i64 a1),(9,.slice A1 (list).length c2),(10,.int .i64 (list.length:Int)),(11,.int .i64 (a0:Int))]) (fun ⟨a1,a0,a4⟩ a9=>Inv [] d w a4 [] a9∧Le d w a4 a9∧aSum_l1 list 0 0=aSum_l1 (list.drop a0) a0 a1∧a0≤list.length) (fun ⟨a1,a0,a4⟩=>list.length - a0) (0,0,d) (.cons Z (.cons Z (.cons Z (.cons Z (.nil _))))) ⟨hI0,Le.refl _ _,rfl,Nat.zero_le _⟩ ?_)
  rintro ⟨a1,a0,a4⟩ a9 ⟨b7,b0,b1,d4⟩
  refine csr ((g_y (y_lss Z Z) Z Z (gnx ((c_seq (c_cond Z (fun a6=>?_) (fun a6=>?_)))))))
  ·replace a6:=OT a6
   obtain ⟨a2,b2⟩:=has (xs:=list) (k:=a0) (by omega)
   refine c_skip (x_next (c_seq (c_block (csr (?_)))))
   obtain ⟨d5,d6,d7,c0,c1,c3,d8⟩:=Sl.at_ (h_list.mono b0) b2
   obtain rfl:=c1
   refine g_y (y_indexAddr (i:=a0) el_49 Z c0 Z (rfl) (by omega)) Z Z (g_y (y_loadA (cs:=[.int .i64 a2.order,.int .i64 a2.brought,.int .i64 a2.ordered,.int .i64 a2.due,.int .i64 a2.taken,.int .i64 a2.carried]) sh_236 Z (c3.part (f:=0) (.take _ (.take _ (.take _ (.take _ (.take _ (.take _ (.nil _))))))))) Z Z (g_e (ev_alloc b7 ze_236) Z Z ?_))
   rintro _ d9 ⟨e0,rfl,c4,c5⟩
   refine g_e (ev_store c4 Z Z Z sz_236 Z (.here _ _ (.here _ _ (.here _ _ (.here _ _ (.here _ _ (.here _ _ (.nil _))))))) (.hd _)) Z Z ?_
   rintro _ e1 ⟨b3,c6⟩
   refine gnx ((csr ((GM Y (gfa fo_236_4 Z Z Z (gld sh_2 Z b3 m0 (i:=4) Z Z Z ?_))))))
   have b8:=mAdd_c (a:=a1) (b:=a2.taken) b3.lt
   obtain ⟨b4,b5⟩:∃ r,mAdd a1 a2.taken=r:=⟨_,rfl⟩
   rw [b5] at b8
   refine g_e (ev_pure b3 pf_116 Z b8) Z Z ?_
   rintro _ e2 ⟨c7,b6,c8,rfl⟩
   refine GM Y (g_y (y_extract Z Z) Z Z (g_y (y_extract Z Z) Z Z (GA Y (GA Y (gnx ((c_seq (csr ((GM Y (g_y (y_neq Z Z) Z Z (gnx (?_)))))))))))))
   refine c_cond Z (fun a3=>?_) (fun a3=>?_)
   ·replace a3:=OT a3
    refine csr ((GM Y (GA Y (GA Y (gnx ((c_ret ?_)))))))
    have c9:aSum_l1 list 0 0=(Out.ret ((0,b4.2))):=b1.trans (ET (congrArg (fun l=>aSum_l1 l a0 a1) (drop_cons b2)) (ET (BE b5) (ET (IP a3) (rfl))))
    have d0:aSum list=(0,b4.2):=ET (out_ret c9) (rfl)
    refine x_thenR (x_blockR (x_thenR (x_rndR (x_blockR (x_cutR (x_thenR (x_ret ⟨_,_,rfl,rfl,⟨_,_,rfl,rfl,rfl⟩⟩ ?_)))))))
    exact ⟨_,_,rfl,b6.fr,b6.grow,by rw [d0]; exact rfl⟩
   ·replace a3:=OF a3
    refine c_skip (x_next (c_region (GM Y (GA Y (g_nil (x_blockN (x_next ?_)))))))
    refine c_region (g_y (y_add Z Z (by omega)) Z Z (GM Y (g_nil ?_)))
    have d1:=b6.drop (.hd _)
    refine x_round (b4.1,a0 + 1,c7) (by dsimp only; omega) (.cons Z (.cons Z (.cons Z (.cons Z (.nil _))))) ⟨d1,(((b0.t c5).t c6).t c8),b1.trans (ET (congrArg (fun l=>aSum_l1 l a0 a1) (drop_cons b2)) (ET (BE b5) (ET (IN a3) (rfl)))),by omega⟩
  ·replace a6:=OF a6
   refine c_exit (x_thenE (x_rndE (x_blockE (x_cut (a1,a4) (.cons Z (.nil _)) ⟨b7,b0,b1.trans (ET (congrArg (fun l=>aSum_l1 l a0 a1) (drop_nil (by omega))) (rfl))⟩))))
 ·rintro ⟨a5,a7⟩ a8 ⟨b9,e3,d2⟩
  refine x_next (csr ((GM Y (GA Y (GA Y (gnx ((c_ret ?_))))))))
  have d3:aSum list=(a5,0):=ET (out_next d2) (rfl)
  refine x_ret ⟨_,_,rfl,rfl,⟨_,_,rfl,rfl,rfl⟩⟩ (⟨_,_,rfl,b9.fr,b9.grow,by rw [d3]; exact rfl⟩)
def shSides (row:(List Share)):Share × Int:=
 (bnd (pTotal row) fun a0=>
 (a0.1,a0.2))
theorem shSides_c {row:(List Share)} {v_row:Value} {d:Dat} {w:World} (hd:∀ b,d b→b < w.heap.size) (h_row:Sl shareTy d w v_row row):Ret Tryz.prog 114 [v_row] w [] d (fun u d' w'=>u=.tuple #[.agg #[.int .i64 ((shSides row).1.ee),.int .i64 ((shSides row).1.er)],.int .i64 ((shSides row).2)]):=by
 obtain ⟨A1,c2,rfl,hn3,hb4⟩:=h_row.fm
 refine ret_enter (n:=8) Tryz.func114 Z Z (ble Z) ?_
 have hI0:=Inv.start hd
 refine csr ((g_e (ev_alloc hI0 ze_68) Z Z ?_))
 rintro _ w5 ⟨b8,rfl,hI6,hle7⟩
 refine GA Y (gnx ((csr ((GM Y ?_)))))
 have hq9:=pTotal_c (list:=row) hI6.lt (h_row.mono hle7)
 obtain ⟨a1,a2⟩:∃ r,pTotal row=r:=⟨_,rfl⟩
 rw [a2] at hq9
 refine g_e (ev_pure hI6 pf_195 Z hq9) Z Z ?_
 rintro _ a5 ⟨a6,a3,a7,rfl⟩
 refine g_y (y_extract Z Z) Z Z (g_y (y_extract Z Z) Z Z (g_e (ev_store a3 Z Z Z sz_68 Z (.here _ _ (.here _ _ (.nil _))) (.hd _)) Z Z ?_))
 rintro _ a8 ⟨a0,a9⟩
 refine GA Y (gnx ((c_ret ?_)))
 have a4:shSides row=(a1.1,a1.2):=ET (BE a2) (rfl)
 refine x_ret ⟨_,_,_,rfl,rfl,blk_cells a0 m0,sh_68,⟨_,_,rfl,rfl,rfl⟩⟩ (⟨_,_,rfl,a0.fr,a0.grow,by rw [a4]; exact rfl⟩)
def shEmployee (row:(List Share)):Int × Int:=
 (bnd (shSides row) fun r6=>
 (r6.1.ee,r6.2))
theorem shEmployee_c {row:(List Share)} {v_row:Value} {d:Dat} {w:World} (hd:∀ b,d b→b < w.heap.size) (h_row:Sl shareTy d w v_row row):Ret Tryz.prog 154 [v_row] w [] d (fun u d' w'=>u=.tuple #[.int .i64 ((shEmployee row).1),.int .i64 ((shEmployee row).2)]):=by
 obtain ⟨A1,c2,rfl,hn3,hb4⟩:=h_row.fm
 refine ret_enter (n:=14) Tryz.func154 Z Z (ble Z) ?_
 have hI0:=Inv.start hd
 refine csr ((GA Y (GA Y (gnx ((csr ((GM Y ?_))))))))
 have hq5:=shSides_c (row:=row) hI0.lt h_row
 obtain ⟨r6,hr7⟩:∃ r,shSides row=r:=⟨_,rfl⟩
 rw [hr7] at hq5
 refine g_e (ev_pure hI0 pf_114 Z hq5) Z Z ?_
 rintro _ w9 ⟨d8,a1,a4,rfl⟩
 refine GM Y (g_y (y_extract Z Z) Z Z (g_y (y_extract Z Z) Z Z (g_e (ev_alloc a1 ze_68) Z Z ?_)))
 rintro _ a5 ⟨a6,rfl,a2,a7⟩
 refine g_e (ev_store a2 Z Z Z sz_68 Z (.here _ _ (.here _ _ (.nil _))) (.hd _)) Z Z ?_
 rintro _ a8 ⟨a0,a9⟩
 refine GA Y (gnx ((csr ((gfa fo_68_0 Z Z Z (gld sh_2 Z a0 m0 (i:=0) Z Z Z (GM Y (GA Y (GA Y (gnx ((c_ret ?_))))))))))))
 have a3:shEmployee row=(r6.1.ee,r6.2):=ET (BE hr7) (rfl)
 refine x_ret ⟨_,_,rfl,rfl,⟨_,_,rfl,rfl,rfl⟩⟩ (⟨_,_,rfl,a0.fr,a0.grow,by rw [a3]; exact rfl⟩)
def sNet (cash:Int) (tax:Int) (row:(List Share)):Int × Int:=
 (bnd (shEmployee row) fun r6=>
 (if (r6.2≠0) then (0,r6.2)
 else (bnd (mSub cash tax) fun a0=>
 (if (a0.2≠0) then (0,a0.2)
 else (bnd (mSub a0.1 r6.1) fun a1=>
 (a1.1,a1.2))))))
theorem sNet_c {cash:Int} {tax:Int} {row:(List Share)} {v_row:Value} {d:Dat} {w:World} (hd:∀ b,d b→b < w.heap.size) (h_row:Sl shareTy d w v_row row):Ret Tryz.prog 194 [.int .i64 cash,.int .i64 tax,v_row] w [] d (fun u d' w'=>u=.tuple #[.int .i64 ((sNet cash tax row).1),.int .i64 ((sNet cash tax row).2)]):=by
 obtain ⟨A1,c2,rfl,hn3,hb4⟩:=h_row.fm
 refine ret_enter (n:=33) Tryz.func194 Z Z (ble Z) ?_
 have hI0:=Inv.start hd
 refine csr ((GA Y (GA Y (gnx ((csr ((GM Y ?_))))))))
 have hq5:=shEmployee_c (row:=row) hI0.lt h_row
 obtain ⟨r6,hr7⟩:∃ r,shEmployee row=r:=⟨_,rfl⟩
 rw [hr7] at hq5
 refine g_e (ev_pure hI0 pf_154 Z hq5) Z Z ?_
 rintro _ w9 ⟨d8,a2,b4,rfl⟩
 refine GM Y (g_y (y_extract Z Z) Z Z (g_y (y_extract Z Z) Z Z (GA Y (GA Y (gnx ((c_seq (csr ((GM Y (g_y (y_neq Z Z) Z Z (gnx (?_)))))))))))))
 refine c_cond Z (fun a0=>?_) (fun a0=>?_)
 ·replace a0:=OT a0
  refine csr ((GM Y (GA Y (GA Y (gnx ((c_ret ?_)))))))
  have b1:sNet cash tax row=(0,r6.2):=ET (BE hr7) (ET (IP a0) (rfl))
  refine x_thenR (x_ret ⟨_,_,rfl,rfl,⟨_,_,rfl,rfl,rfl⟩⟩ ?_)
  exact ⟨_,_,rfl,a2.fr,a2.grow,by rw [b1]; exact rfl⟩
 ·replace a0:=OF a0
  refine c_skip (x_next (csr ((GM Y (GM Y ?_)))))
  have a6:=mSub_c (a:=cash) (b:=tax) a2.lt
  obtain ⟨a4,a5⟩:∃ r,mSub cash tax=r:=⟨_,rfl⟩
  rw [a5] at a6
  refine g_e (ev_pure a2 pf_127 Z a6) Z Z ?_
  rintro _ b5 ⟨b6,a3,b7,rfl⟩
  refine GM Y (g_y (y_extract Z Z) Z Z (g_y (y_extract Z Z) Z Z (GA Y (GA Y (gnx ((c_seq (csr ((GM Y (g_y (y_neq Z Z) Z Z (gnx (?_)))))))))))))
  refine c_cond Z (fun a1=>?_) (fun a1=>?_)
  ·replace a1:=OT a1
   refine csr ((GM Y (GA Y (GA Y (gnx ((c_ret ?_)))))))
   have b2:sNet cash tax row=(0,a4.2):=ET (BE hr7) (ET (IN a0) (ET (BE a5) (ET (IP a1) (rfl))))
   refine x_thenR (x_ret ⟨_,_,rfl,rfl,⟨_,_,rfl,rfl,rfl⟩⟩ ?_)
   exact ⟨_,_,rfl,a3.fr,a3.grow,by rw [b2]; exact rfl⟩
  ·replace a1:=OF a1
   refine c_skip (x_next (csr ((GM Y (GM Y ?_)))))
   have a7:=mSub_c (a:=a4.1) (b:=r6.1) a3.lt
   obtain ⟨a8,a9⟩:∃ r,mSub a4.1 r6.1=r:=⟨_,rfl⟩
   rw [a9] at a7
   refine g_e (ev_pure a3 pf_127 Z a7) Z Z ?_
   rintro _ b8 ⟨b9,b0,c0,rfl⟩
   refine g_y (y_extract Z Z) Z Z (g_y (y_extract Z Z) Z Z (GA Y (GA Y (gnx ((c_ret ?_))))))
   have b3:sNet cash tax row=(a8.1,a8.2):=ET (BE hr7) (ET (IN a0) (ET (BE a5) (ET (IN a1) (ET (BE a9) (rfl)))))
   refine x_ret ⟨_,_,rfl,rfl,⟨_,_,rfl,rfl,rfl⟩⟩ (⟨_,_,rfl,b0.fr,b0.grow,by rw [b3]; exact rfl⟩)
def yCheck (s:Slip) (n:Int):Int:=
 (if (s.period < 1) then 1
 else (if (53 < s.period) then 1
 else (if ((s.shares.length:Int)≠n) then 3
 else (bnd (shEmployee s.shares) fun a0=>
 (if (a0.2≠0) then a0.2
 else (bnd (baseRight s.bases) fun a2=>
 (cond a2 ((bnd (mRight ([s.tax,s.shortfall,s.net,s.pay])) fun a3=>
 (cond a3 ((bnd (aSum s.taken) fun a1=>
 (if (a1.2≠0) then a1.2
 else (if ((wI ((wI (s.bases.cash - s.tax)) - a0.1))≠s.net) then 5
 else (if ((wI (s.net - a1.1))≠s.pay) then 5
 else 0)))))
 10)))
 10)))))))
theorem yCheck_c {s:Slip} {cs_s:List Value} {n:Int} {d:Dat} {w:World} (hd:∀ b,d b→b < w.heap.size) (h_s:slipTy.rel d w s cs_s):Ret Tryz.prog 73 [.agg cs_s.toArray,.int .i64 n] w [] d (fun u d' w'=>u=.int .i64 ((yCheck s n))):=by
 obtain ⟨v1,v2,rfl,hS3,hS4⟩:=h_s
 obtain ⟨A5,c6,rfl,hn7,hb8⟩:=hS3.fm
 obtain ⟨A9,e2,rfl,e3,e4⟩:=hS4.fm
 refine ret_enter (n:=76) Tryz.func73 Z Z (ble Z) ?_
 have hI0:=Inv.start hd
 refine csr ((g_e (ev_box hI0 Z) Z Z ?_))
 rintro _ e5 ⟨e6,rfl,a4,b8⟩
 refine GA Y (gnx ((c_seq (csr ((gfa fo_51_0 Z Z Z (gld sh_3 Z a4 m0 (i:=0) Z Z Z (g_y (y_lss Z Z) Z Z (GM Y (g_split (t:=11) Z (fun a0=>?_) (fun a0=>?_)))))))))))
 ·replace a0:=OT a0
  refine gsk Z Z (gsk Z Z (gsk Z Z (g_y (y_pickT Z Z) Z Z (gnx ((c_condT Z (csr ((GA Y (gnx ((c_ret ?_))))))))))))
  have c4:yCheck s n=1:=ET (IP a0) (rfl)
  refine x_thenR (x_ret ⟨_,_,rfl,rfl,rfl⟩ ?_)
  exact ⟨_,_,rfl,a4.fr,a4.grow,by rw [c4]; exact rfl⟩
 ·replace a0:=OF a0
  refine gfa fo_51_0 Z Z Z (gld sh_3 Z a4 m0 (i:=0) Z Z Z (g_y (y_gtr Z Z) Z Z (g_y (y_pickF Z Z) Z Z (gnx ((c_cond Z (fun a1=>?_) (fun a1=>?_)))))))
  ·replace a1:=OT a1
   refine csr ((GA Y (gnx ((c_ret ?_)))))
   have c5:yCheck s n=1:=ET (IN a0) (ET (IP a1) (rfl))
   refine x_thenR (x_ret ⟨_,_,rfl,rfl,rfl⟩ ?_)
   exact ⟨_,_,rfl,a4.fr,a4.grow,by rw [c5]; exact rfl⟩
  ·replace a1:=OF a1
   refine c_skip (x_next (c_seq (csr ((gfa fo_51_4 Z Z Z (gld sh_48 Z a4 m0 (i:=6) Z Z Z (gln el_48 Z Z Z (GM Y (g_y (y_neq Z Z) Z Z (gnx ((c_cond Z (fun a2=>?_) (fun a2=>?_)))))))))))))
   ·replace a2:=OT a2
    refine csr ((GA Y (gnx ((c_ret ?_)))))
    have c7:yCheck s n=3:=ET (IN a0) (ET (IN a1) (ET (IP a2) (rfl)))
    refine x_thenR (x_ret ⟨_,_,rfl,rfl,rfl⟩ ?_)
    exact ⟨_,_,rfl,a4.fr,a4.grow,by rw [c7]; exact rfl⟩
   ·replace a2:=OF a2
    refine c_skip (x_next (csr ((gfa fo_51_4 Z Z Z (gld sh_48 Z a4 m0 (i:=6) Z Z Z ?_)))))
    have b9:=shEmployee_c (row:=s.shares) a4.lt (hS3.mono b8)
    obtain ⟨c8,a9⟩:∃ r,shEmployee s.shares=r:=⟨_,rfl⟩
    rw [a9] at b9
    refine g_e (ev_pure a4 pf_154 Z b9) Z Z ?_
    rintro _ e7 ⟨e8,b5,c9,rfl⟩
    refine GM Y (g_y (y_extract Z Z) Z Z (g_y (y_extract Z Z) Z Z (GA Y (GA Y (gnx ((c_seq (csr ((GM Y (g_y (y_neq Z Z) Z Z (gnx (?_)))))))))))))
    refine c_cond Z (fun a5=>?_) (fun a5=>?_)
    ·replace a5:=OT a5
     refine csr ((GM Y (GA Y (gnx ((c_ret ?_))))))
     have d0:yCheck s n=c8.2:=ET (IN a0) (ET (IN a1) (ET (IN a2) (ET (BE a9) (ET (IP a5) (rfl)))))
     refine x_thenR (x_ret ⟨_,_,rfl,rfl,rfl⟩ ?_)
     exact ⟨_,_,rfl,b5.fr,b5.grow,by rw [d0]; exact rfl⟩
    ·replace a5:=OF a5
     refine c_skip (x_next (c_seq (csr ((gfa fo_51_1 Z Z Z (g_y (y_loadA (cs:=[.int .i64 s.bases.cash,.int .i64 s.bases.taxable,.int .i64 s.bases.social]) sh_47 Z ((blk_cells b5 m0).part (f:=1) (.skip _ (.take _ (.take _ (.take _ (.nil _))))))) Z Z ?_))))))
     have c0:=baseRight_c (b:=s.bases) b5.lt
     obtain ⟨e9,b1⟩:∃ r,baseRight s.bases=r:=⟨_,rfl⟩
     rw [b1] at c0
     refine g_e (ev_pure b5 pf_155 Z c0) Z Z ?_
     rintro _ f0 ⟨f1,b2,d1,rfl⟩
     refine g_y (y_not Z) Z Z (GM Y (g_split (t:=34) Z (fun a6=>?_) (fun a6=>?_)))
     ·replace a6:=not_t a6
      refine gsk Z Z (gsk Z Z (gsk Z Z (gsk Z Z (gsk Z Z (gsk Z Z (gsk Z Z (gsk Z Z (gsk Z Z (gsk Z Z (gsk Z Z (g_y (y_pickT Z Z) Z Z (gnx (?_)))))))))))))
      refine c_condT Z (csr ((GA Y (gnx ((c_ret ?_))))))
      have d2:yCheck s n=10:=ET (IN a0) (ET (IN a1) (ET (IN a2) (ET (BE a9) (ET (IN a5) (ET (BE b1) (ET (cond_f a6) (rfl)))))))
      refine x_thenR (x_ret ⟨_,_,rfl,rfl,rfl⟩ ?_)
      exact ⟨_,_,rfl,b2.fr,b2.grow,by rw [d2]; exact rfl⟩
     ·replace a6:=not_f a6
      refine gfa fo_51_2 Z Z Z (gld sh_2 Z b2 m0 (i:=4) Z Z Z (gfa fo_51_3 Z Z Z (gld sh_2 Z b2 m0 (i:=5) Z Z Z (gfa fo_51_5 Z Z Z (gld sh_2 Z b2 m0 (i:=7) Z Z Z (gfa fo_51_7 Z Z Z (gld sh_2 Z b2 m0 (i:=9) Z Z Z (g_e (ev_buildSl (T:=intTy) (xs:=[s.tax,s.shortfall,s.net,s.pay]) b2 el_174 ze_2 Z Z (ble Z) (ble Z) (.cons Z Z Z Z (.here _ _ (.nil _)) (ble Z) (.cons Z Z Z Z (.next _ (.here _ _ (.nil _))) (ble Z) (.cons Z Z Z Z (.next _ (.next _ (.here _ _ (.nil _)))) (ble Z) (.cons Z Z Z Z (.next _ (.next _ (.next _ (.here _ _ (.nil _))))) (ble Z) (.nil _))))) (.cons (x:=s.tax) (cs:=[.int .i64 s.tax]) Z (.cons (x:=s.shortfall) (cs:=[.int .i64 s.shortfall]) Z (.cons (x:=s.net) (cs:=[.int .i64 s.net]) Z (.cons (x:=s.pay) (cs:=[.int .i64 s.pay]) Z .nil))))) Z Z ?_))))))))
      rintro _ f2 ⟨f3,c1,d3,d4,f4,rfl⟩
      have c2:=mRight_c (list:=[s.tax,s.shortfall,s.net,s.pay]) c1.lt d4
      obtain ⟨f5,b4⟩:∃ r,mRight ([s.tax,s.shortfall,s.net,s.pay])=r:=⟨_,rfl⟩
      rw [b4] at c2
      refine g_e (ev_pure c1 pf_117 Z c2) Z Z ?_
      rintro _ f6 ⟨f7,b6,d5,rfl⟩
      refine g_y (y_not Z) Z Z (g_y (y_pickF Z Z) Z Z (gnx ((c_cond Z (fun a7=>?_) (fun a7=>?_)))))
      ·replace a7:=not_t a7
       refine csr ((GA Y (gnx ((c_ret ?_)))))
       have d6:yCheck s n=10:=ET (IN a0) (ET (IN a1) (ET (IN a2) (ET (BE a9) (ET (IN a5) (ET (BE b1) (ET (cond_t a6) (ET (BE b4) (ET (cond_f a7) (rfl)))))))))
       refine x_thenR (x_ret ⟨_,_,rfl,rfl,rfl⟩ ?_)
       exact ⟨_,_,rfl,b6.fr,b6.grow,by rw [d6]; exact rfl⟩
      ·replace a7:=not_f a7
       refine c_skip (x_next (csr ((gfa fo_51_6 Z Z Z (gld sh_49 Z b6 m0 (i:=8) Z Z Z ?_)))))
       have c3:=aSum_c (list:=s.taken) b6.lt (hS4.mono ((((b8.t c9).t d1).t d3).t d5))
       obtain ⟨d7,b7⟩:∃ r,aSum s.taken=r:=⟨_,rfl⟩
       rw [b7] at c3
       refine g_e (ev_pure b6 pf_115 Z c3) Z Z ?_
       rintro _ f8 ⟨f9,a3,g0,rfl⟩
       refine GM Y (g_y (y_extract Z Z) Z Z (g_y (y_extract Z Z) Z Z (GA Y (GA Y (gnx ((c_seq (csr ((GM Y (g_y (y_neq Z Z) Z Z (gnx (?_)))))))))))))
       refine c_cond Z (fun a8=>?_) (fun a8=>?_)
       ·replace a8:=OT a8
        refine csr ((GM Y (GA Y (gnx ((c_ret ?_))))))
        have d8:yCheck s n=d7.2:=ET (IN a0) (ET (IN a1) (ET (IN a2) (ET (BE a9) (ET (IN a5) (ET (BE b1) (ET (cond_t a6) (ET (BE b4) (ET (cond_t a7) (ET (BE b7) (ET (IP a8) (rfl)))))))))))
        refine x_thenR (x_ret ⟨_,_,rfl,rfl,rfl⟩ ?_)
        exact ⟨_,_,rfl,a3.fr,a3.grow,by rw [d8]; exact rfl⟩
       ·replace a8:=OF a8
        refine c_skip (x_next (c_seq (csr ((gfa fo_51_1 Z Z Z (gfa fo_47_0 Z Z Z (gld sh_2 Z a3 m0 (i:=1) Z Z Z (gfa fo_51_2 Z Z Z (gld sh_2 Z a3 m0 (i:=4) Z Z Z (g_y (y_subW Z Z) Z Z (GM Y (g_y (y_subW Z Z) Z Z (gfa fo_51_5 Z Z Z ?_)))))))))))))
        refine gld sh_2 Z a3 m0 (i:=7) Z Z Z (g_y (y_neq Z Z) Z Z (GM Y (g_split (t:=67) Z (fun b0=>?_) (fun b0=>?_))))
        ·replace b0:=OT b0
         refine gsk Z Z (gsk Z Z (gsk Z Z (gsk Z Z (gsk Z Z (gsk Z Z (gsk Z Z (g_y (y_pickT Z Z) Z Z (gnx ((c_condT Z (csr ((GA Y ?_)))))))))))))
         refine gnx ((c_ret ?_))
         have d9:yCheck s n=5:=ET (IN a0) (ET (IN a1) (ET (IN a2) (ET (BE a9) (ET (IN a5) (ET (BE b1) (ET (cond_t a6) (ET (BE b4) (ET (cond_t a7) (ET (BE b7) (ET (IN a8) (ET (IP b0) (rfl))))))))))))
         refine x_thenR (x_ret ⟨_,_,rfl,rfl,rfl⟩ ?_)
         exact ⟨_,_,rfl,a3.fr,a3.grow,by rw [d9]; exact rfl⟩
        ·replace b0:=OF b0
         refine gfa fo_51_5 Z Z Z (gld sh_2 Z a3 m0 (i:=7) Z Z Z (GM Y (g_y (y_subW Z Z) Z Z (gfa fo_51_7 Z Z Z (gld sh_2 Z a3 m0 (i:=9) Z Z Z (g_y (y_neq Z Z) Z Z (g_y (y_pickF Z Z) Z Z (gnx ((c_cond Z (fun b3=>?_) (fun b3=>?_)))))))))))
         ·replace b3:=OT b3
          refine csr ((GA Y (gnx ((c_ret ?_)))))
          have e0:yCheck s n=5:=ET (IN a0) (ET (IN a1) (ET (IN a2) (ET (BE a9) (ET (IN a5) (ET (BE b1) (ET (cond_t a6) (ET (BE b4) (ET (cond_t a7) (ET (BE b7) (ET (IN a8) (ET (IN b0) (ET (IP b3) (rfl)))))))))))))
          refine x_thenR (x_ret ⟨_,_,rfl,rfl,rfl⟩ ?_)
          exact ⟨_,_,rfl,a3.fr,a3.grow,by rw [e0]; exact rfl⟩
         ·replace b3:=OF b3
          refine c_skip (x_next (csr ((GA Y (gnx ((c_ret ?_)))))))
          have e1:yCheck s n=0:=ET (IN a0) (ET (IN a1) (ET (IN a2) (ET (BE a9) (ET (IN a5) (ET (BE b1) (ET (cond_t a6) (ET (BE b4) (ET (cond_t a7) (ET (BE b7) (ET (IN a8) (ET (IN b0) (ET (IN b3) (rfl)))))))))))))
          refine x_ret ⟨_,_,rfl,rfl,rfl⟩ (⟨_,_,rfl,a3.fr,a3.grow,by rw [e1]; exact rfl⟩)
def oLeft (s:OState):Int:=
 (if (s.order.total=0) then 100000000000
 else (max 0 (wI ((wI (s.order.total - s.taken)) - s.arrears))))
theorem oLeft_c {s:OState} {d:Dat} {w:World} (hd:∀ b,d b→b < w.heap.size):Ret Tryz.prog 313 [.agg #[.int .i64 s.order.id,.int .i64 s.order.prio,.int .i64 s.order.amount,.int .i64 s.order.rate,.int .i64 s.order.total,.int .i64 s.taken,.int .i64 s.arrears]] w [] d (fun u d' w'=>u=.int .i64 ((oLeft s))):=by
 refine ret_enter (n:=17) Tryz.func313 Z Z (ble Z) ?_
 have hI0:=Inv.start hd
 refine csr ((g_e (ev_box hI0 Z) Z Z ?_))
 rintro _ w1 ⟨b4,rfl,hI2,hle3⟩
 refine GA Y (gnx ((c_seq (csr ((gfa fo_260_0 Z Z Z (gfa fo_114_4 Z Z Z (gld sh_2 Z hI2 m0 (i:=4) Z Z Z (g_y (y_eql Z Z) Z Z (gnx ((c_cond Z (fun hc6=>?_) (fun hc6=>?_)))))))))))))
 ·replace hc6:=OT hc6
  refine csr ((GA Y (gnx ((c_ret ?_)))))
  have hF7:oLeft s=100000000000:=ET (IP hc6) (rfl)
  refine x_thenR (x_ret ⟨_,_,rfl,rfl,rfl⟩ ?_)
  exact ⟨_,_,rfl,hI2.fr,hI2.grow,by rw [hF7]; exact rfl⟩
 ·replace hc6:=OF hc6
  refine c_skip (x_next (csr ((gfa fo_260_0 Z Z Z (gfa fo_114_4 Z Z Z (gld sh_2 Z hI2 m0 (i:=4) Z Z Z (gfa fo_260_1 Z Z Z (gld sh_2 Z hI2 m0 (i:=5) Z Z Z (g_y (y_subW Z Z) Z Z (gfa fo_260_2 Z Z Z (gld sh_2 Z hI2 m0 (i:=6) Z Z Z (g_y (y_subW Z Z) Z Z (g_y (y_max Z Z) Z Z ?_)))))))))))))
  refine GA Y (gnx ((c_ret ?_)))
  have hF8:oLeft s=(max 0 (wI ((wI (s.order.total - s.taken)) - s.arrears))):=ET (IN hc6) (rfl)
  refine x_ret ⟨_,_,rfl,rfl,rfl⟩ (⟨_,_,rfl,hI2.fr,hI2.grow,by rw [hF8]; exact rfl⟩)
def oOrdered (s:OState) (net:Int):Int × Int:=
 (bnd (fTake ((max 0 net)) s.order.rate 1) fun r6=>
 (if (r6.2≠0) then (0,r6.2)
 else (bnd (mAdd s.order.amount r6.1) fun a0=>
 (if (a0.2≠0) then (0,a0.2)
 else (bnd (oLeft s) fun a1=>
 ((min a0.1 a1),0))))))
theorem oOrdered_c {s:OState} {net:Int} {d:Dat} {w:World} (hd:∀ b,d b→b < w.heap.size):Ret Tryz.prog 289 [.agg #[.int .i64 s.order.id,.int .i64 s.order.prio,.int .i64 s.order.amount,.int .i64 s.order.rate,.int .i64 s.order.total,.int .i64 s.taken,.int .i64 s.arrears],.int .i64 net] w [] d (fun u d' w'=>u=.tuple #[.int .i64 ((oOrdered s net).1),.int .i64 ((oOrdered s net).2)]):=by
 refine ret_enter (n:=36) Tryz.func289 Z Z (ble Z) ?_
 have hI0:=Inv.start hd
 refine csr ((g_e (ev_box hI0 Z) Z Z ?_))
 rintro _ w1 ⟨b4,rfl,hI2,hle3⟩
 refine GA Y (GA Y (gnx ((csr ((GM Y (g_y (y_max Z Z) Z Z (gfa fo_260_0 Z Z Z (gfa fo_114_3 Z Z Z (gld sh_3 Z hI2 m0 (i:=3) Z Z Z ?_))))))))))
 have hq5:=fTake_c (x:=(max 0 net)) (rate:=s.order.rate) (mode:=1) hI2.lt
 obtain ⟨r6,hr7⟩:∃ r,fTake ((max 0 net)) s.order.rate 1=r:=⟨_,rfl⟩
 rw [hr7] at hq5
 refine g_e (ev_pure hI2 pf_299 Z hq5) Z Z ?_
 rintro _ w9 ⟨d8,a2,b5,rfl⟩
 refine GM Y (g_y (y_extract Z Z) Z Z (g_y (y_extract Z Z) Z Z (GA Y (GA Y (gnx ((c_seq (csr ((GM Y (g_y (y_neq Z Z) Z Z (gnx (?_)))))))))))))
 refine c_cond Z (fun a0=>?_) (fun a0=>?_)
 ·replace a0:=OT a0
  refine csr ((GM Y (GA Y (GA Y (gnx ((c_ret ?_)))))))
  have b0:oOrdered s net=(0,r6.2):=ET (BE hr7) (ET (IP a0) (rfl))
  refine x_thenR (x_ret ⟨_,_,rfl,rfl,⟨_,_,rfl,rfl,rfl⟩⟩ ?_)
  exact ⟨_,_,rfl,a2.fr,a2.grow,by rw [b0]; exact rfl⟩
 ·replace a0:=OF a0
  refine c_skip (x_next (csr ((gfa fo_260_0 Z Z Z (gfa fo_114_2 Z Z Z (gld sh_2 Z a2 m0 (i:=2) Z Z Z (GM Y ?_)))))))
  have a5:=mAdd_c (a:=s.order.amount) (b:=r6.1) a2.lt
  obtain ⟨a6,a4⟩:∃ r,mAdd s.order.amount r6.1=r:=⟨_,rfl⟩
  rw [a4] at a5
  refine g_e (ev_pure a2 pf_116 Z a5) Z Z ?_
  rintro _ b6 ⟨b7,a3,b8,rfl⟩
  refine GM Y (g_y (y_extract Z Z) Z Z (g_y (y_extract Z Z) Z Z (GA Y (GA Y (gnx ((c_seq (csr ((GM Y (g_y (y_neq Z Z) Z Z (gnx (?_)))))))))))))
  refine c_cond Z (fun a1=>?_) (fun a1=>?_)
  ·replace a1:=OT a1
   refine csr ((GM Y (GA Y (GA Y (gnx ((c_ret ?_)))))))
   have b1:oOrdered s net=(0,a6.2):=ET (BE hr7) (ET (IN a0) (ET (BE a4) (ET (IP a1) (rfl))))
   refine x_thenR (x_ret ⟨_,_,rfl,rfl,⟨_,_,rfl,rfl,rfl⟩⟩ ?_)
   exact ⟨_,_,rfl,a3.fr,a3.grow,by rw [b1]; exact rfl⟩
  ·replace a1:=OF a1
   refine c_skip (x_next (csr ((GM Y (g_y (y_loadA (cs:=[.int .i64 s.order.id,.int .i64 s.order.prio,.int .i64 s.order.amount,.int .i64 s.order.rate,.int .i64 s.order.total,.int .i64 s.taken,.int .i64 s.arrears]) sh_260 Z ((blk_cells a3 m0).part (f:=0) (.take _ (.take _ (.take _ (.take _ (.take _ (.take _ (.take _ (.nil _)))))))))) Z Z ?_)))))
   have a7:=oLeft_c (s:=s) a3.lt
   obtain ⟨b2,a8⟩:∃ r,oLeft s=r:=⟨_,rfl⟩
   rw [a8] at a7
   refine g_e (ev_pure a3 pf_313 Z a7) Z Z ?_
   rintro _ b9 ⟨c0,a9,c1,rfl⟩
   refine g_y (y_min Z Z) Z Z (GA Y (GA Y (gnx ((c_ret ?_)))))
   have b3:oOrdered s net=((min a6.1 b2),0):=ET (BE hr7) (ET (IN a0) (ET (BE a4) (ET (IN a1) (ET (BE a8) (rfl)))))
   refine x_ret ⟨_,_,rfl,rfl,⟨_,_,rfl,rfl,rfl⟩⟩ (⟨_,_,rfl,a9.fr,a9.grow,by rw [b3]; exact rfl⟩)
def aOne (net:Int) (free:Int) (s:OState):Taken × Int:=
 (bnd (mRight ([s.arrears])) fun a2=>
 (cond a2 ((bnd (oOrdered s net) fun a1=>
 (if (a1.2≠0) then ((⟨0,0,0,0,0,0⟩:Taken),a1.2)
 else (bnd (mAdd a1.1 s.arrears) fun a0=>
 (if (a0.2≠0) then ((⟨0,0,0,0,0,0⟩:Taken),a0.2)
 else ((⟨s.order.id,s.arrears,a1.1,a0.1,(max 0 (min a0.1 free)),(wI (a0.1 - (max 0 (min a0.1 free))))⟩:Taken),0))))))
 (((⟨0,0,0,0,0,0⟩:Taken),10))))
theorem aOne_c {net:Int} {free:Int} {s:OState} {d:Dat} {w:World} (hd:∀ b,d b→b < w.heap.size):Ret Tryz.prog 249 [.int .i64 net,.int .i64 free,.agg #[.int .i64 s.order.id,.int .i64 s.order.prio,.int .i64 s.order.amount,.int .i64 s.order.rate,.int .i64 s.order.total,.int .i64 s.taken,.int .i64 s.arrears]] w [] d (fun u d' w'=>u=.tuple #[.agg #[.int .i64 ((aOne net free s).1.order),.int .i64 ((aOne net free s).1.brought),.int .i64 ((aOne net free s).1.ordered),.int .i64 ((aOne net free s).1.due),.int .i64 ((aOne net free s).1.taken),.int .i64 ((aOne net free s).1.carried)],.int .i64 ((aOne net free s).2)]):=by
 refine ret_enter (n:=55) Tryz.func249 Z Z (ble Z) ?_
 have hI0:=Inv.start hd
 refine csr ((g_e (ev_box hI0 Z) Z Z ?_))
 rintro _ w1 ⟨b4,rfl,hI2,hle3⟩
 refine g_e (ev_alloc hI2 ze_236) Z Z ?_
 rintro _ w5 ⟨b8,rfl,hI6,hle7⟩
 refine GA Y (gnx ((c_seq (csr ((gfa fo_260_2 Z Z Z (gld sh_2 Z hI6 m1 (i:=6) Z Z Z (g_e (ev_buildSl (T:=intTy) (xs:=[s.arrears]) hI6 el_174 ze_2 Z Z (ble Z) (ble Z) (.cons Z Z Z Z (.here _ _ (.nil _)) (ble Z) (.nil _)) (.cons (x:=s.arrears) (cs:=[.int .i64 s.arrears]) Z .nil)) Z Z ?_))))))))
 rintro _ c6 ⟨c7,b6,c8,c1,c9,rfl⟩
 have b7:=mRight_c (list:=[s.arrears]) b6.lt c1
 obtain ⟨d0,a3⟩:∃ r,mRight ([s.arrears])=r:=⟨_,rfl⟩
 rw [a3] at b7
 refine g_e (ev_pure b6 pf_117 Z b7) Z Z ?_
 rintro _ d1 ⟨d2,a5,d3,rfl⟩
 refine g_y (y_not Z) Z Z (gnx ((c_cond Z (fun a0=>?_) (fun a0=>?_))))
 ·replace a0:=not_t a0
  refine csr ((g_y (y_build ze_236 pl_236 (.nil _)) Z Z (g_e (ev_store a5 Z Z Z sz_236 Z (.here _ _ (.here _ _ (.here _ _ (.here _ _ (.here _ _ (.here _ _ (.nil _))))))) (.hd _)) Z Z ?_)))
  rintro _ d4 ⟨b0,d5⟩
  refine GA Y (gnx ((c_ret ?_)))
  have c2:aOne net free s=((⟨0,0,0,0,0,0⟩:Taken),10):=ET (BE a3) (ET (cond_f a0) (rfl))
  refine x_thenR (x_ret ⟨_,_,_,rfl,rfl,blk_cells b0 m0,sh_236,⟨_,_,rfl,rfl,rfl⟩⟩ ?_)
  exact ⟨_,_,rfl,b0.fr,b0.grow,by rw [c2]; exact rfl⟩
 ·replace a0:=not_f a0
  refine c_skip (x_next (csr ((g_y (y_loadA (cs:=[.int .i64 s.order.id,.int .i64 s.order.prio,.int .i64 s.order.amount,.int .i64 s.order.rate,.int .i64 s.order.total,.int .i64 s.taken,.int .i64 s.arrears]) sh_260 Z ((blk_cells a5 m1).part (f:=0) (.take _ (.take _ (.take _ (.take _ (.take _ (.take _ (.take _ (.nil _)))))))))) Z Z (GM Y ?_)))))
  have b9:=oOrdered_c (s:=s) (net:=net) a5.lt
  obtain ⟨a6,a7⟩:∃ r,oOrdered s net=r:=⟨_,rfl⟩
  rw [a7] at b9
  refine g_e (ev_pure a5 pf_289 Z b9) Z Z ?_
  rintro _ d6 ⟨d7,a8,d8,rfl⟩
  refine GM Y (g_y (y_extract Z Z) Z Z (g_y (y_extract Z Z) Z Z (GA Y (GA Y (gnx ((c_seq (csr ((GM Y (g_y (y_neq Z Z) Z Z (gnx (?_)))))))))))))
  refine c_cond Z (fun a1=>?_) (fun a1=>?_)
  ·replace a1:=OT a1
   refine csr ((g_y (y_build ze_236 pl_236 (.nil _)) Z Z (GM Y (g_e (ev_store a8 Z Z Z sz_236 Z (.here _ _ (.here _ _ (.here _ _ (.here _ _ (.here _ _ (.here _ _ (.nil _))))))) (.hd _)) Z Z ?_))))
   rintro _ d9 ⟨b1,e0⟩
   refine GA Y (gnx ((c_ret ?_)))
   have c3:aOne net free s=((⟨0,0,0,0,0,0⟩:Taken),a6.2):=ET (BE a3) (ET (cond_t a0) (ET (BE a7) (ET (IP a1) (rfl))))
   refine x_thenR (x_ret ⟨_,_,_,rfl,rfl,blk_cells b1 m0,sh_236,⟨_,_,rfl,rfl,rfl⟩⟩ ?_)
   exact ⟨_,_,rfl,b1.fr,b1.grow,by rw [c3]; exact rfl⟩
  ·replace a1:=OF a1
   refine c_skip (x_next (csr ((GM Y (gfa fo_260_2 Z Z Z (gld sh_2 Z a8 m1 (i:=6) Z Z Z ?_))))))
   have c0:=mAdd_c (a:=a6.1) (b:=s.arrears) a8.lt
   obtain ⟨a4,b2⟩:∃ r,mAdd a6.1 s.arrears=r:=⟨_,rfl⟩
   rw [b2] at c0
   refine g_e (ev_pure a8 pf_116 Z c0) Z Z ?_
   rintro _ e1 ⟨e2,a9,e3,rfl⟩
   refine GM Y (g_y (y_extract Z Z) Z Z (g_y (y_extract Z Z) Z Z (GA Y (GA Y (gnx ((c_seq (csr ((GM Y (g_y (y_neq Z Z) Z Z (gnx (?_)))))))))))))
   refine c_cond Z (fun a2=>?_) (fun a2=>?_)
   ·replace a2:=OT a2
    refine csr ((g_y (y_build ze_236 pl_236 (.nil _)) Z Z (GM Y (g_e (ev_store a9 Z Z Z sz_236 Z (.here _ _ (.here _ _ (.here _ _ (.here _ _ (.here _ _ (.here _ _ (.nil _))))))) (.hd _)) Z Z ?_))))
    rintro _ e4 ⟨b3,e5⟩
    refine GA Y (gnx ((c_ret ?_)))
    have c4:aOne net free s=((⟨0,0,0,0,0,0⟩:Taken),a4.2):=ET (BE a3) (ET (cond_t a0) (ET (BE a7) (ET (IN a1) (ET (BE b2) (ET (IP a2) (rfl))))))
    refine x_thenR (x_ret ⟨_,_,_,rfl,rfl,blk_cells b3 m0,sh_236,⟨_,_,rfl,rfl,rfl⟩⟩ ?_)
    exact ⟨_,_,rfl,b3.fr,b3.grow,by rw [c4]; exact rfl⟩
   ·replace a2:=OF a2
    refine c_skip (x_next (csr ((GM Y (GM Y (g_y (y_min Z Z) Z Z (g_y (y_max Z Z) Z Z (GA Y (gnx ((csr ((gfa fo_260_0 Z Z Z ?_)))))))))))))
    refine gfa fo_114_0 Z Z Z (gld sh_3 Z a9 m1 (i:=0) Z Z Z (gfa fo_260_2 Z Z Z (gld sh_2 Z a9 m1 (i:=6) Z Z Z (GM Y (GM Y (GM Y (GM Y (GM Y (g_y (y_subW Z Z) Z Z (g_y (y_build ze_236 pl_236 (.cons Z Z Z Z (.here _ _ (.nil _)) (ble Z) (.cons Z Z Z Z (.next _ (.here _ _ (.nil _))) (ble Z) (.cons Z Z Z Z (.next _ (.next _ (.here _ _ (.nil _)))) (ble Z) (.cons Z Z Z Z (.next _ (.next _ (.next _ (.here _ _ (.nil _))))) (ble Z) (.cons Z Z Z Z (.next _ (.next _ (.next _ (.next _ (.here _ _ (.nil _)))))) (ble Z) (.cons Z Z Z Z (.next _ (.next _ (.next _ (.next _ (.next _ (.here _ _ (.nil _))))))) (ble Z) (.nil _)))))))) Z Z (g_e (ev_store a9 Z Z Z sz_236 Z (.here _ _ (.here _ _ (.here _ _ (.here _ _ (.here _ _ (.here _ _ (.nil _))))))) (.hd _)) Z Z ?_)))))))))))
    rintro _ e6 ⟨b5,e7⟩
    refine GA Y (gnx ((c_ret ?_)))
    have c5:aOne net free s=((⟨s.order.id,s.arrears,a6.1,a4.1,(max 0 (min a4.1 free)),(wI (a4.1 - (max 0 (min a4.1 free))))⟩:Taken),0):=ET (BE a3) (ET (cond_t a0) (ET (BE a7) (ET (IN a1) (ET (BE b2) (ET (IN a2) (rfl))))))
    refine x_ret ⟨_,_,_,rfl,rfl,blk_cells b5 m0,sh_236,⟨_,_,rfl,rfl,rfl⟩⟩ (⟨_,_,rfl,b5.fr,b5.grow,by rw [c5]; exact rfl⟩)
def aServe_l1 (net:Int) (protected_:Int) (list:(List OState)):Nat→(List Taken)→Int→Nat→(List Taken) × Int × Int
 | 0,_,_,_=>default
 | a4 + 1,a3,a1,a2=>(if ((a2:Int)=(list.length:Int)) then (a3,a1,0)
 else (opt (list)[a2]? fun a5=>
 (bnd (aOne net ((max 0 (wI (a1 - protected_)))) a5) fun a0=>
 (if (a0.2≠0) then (([]:List Taken),0,a0.2)
 else (aServe_l1 net protected_ list a4 ((a3 ++ [a0.1])) ((wI (a1 - a0.1.taken))) (a2 + 1))))))
def aServe (net:Int) (protected_:Int) (list:(List OState)):(List Taken) × Int × Int:=
 (bnd (mRight ([net,protected_])) fun a0=>
 (cond a0 ((if (protected_ < 0) then (([]:List Taken),0,1)
 else (aServe_l1 net protected_ list (list.length + 1) (([]:List Taken)) net 0)))
 ((([]:List Taken),0,10))))
theorem aServe_c {net:Int} {protected_:Int} {list:(List OState)} {v_list:Value} {d:Dat} {w:World} (hd:∀ b,d b→b < w.heap.size) (h_list:Sl oStateTy d w v_list list):Ret Tryz.prog 190 [.int .i64 net,.int .i64 protected_,v_list] w [] d (fun u d' w'=>∃ (v0:Value),u=.tuple #[v0,.int .i64 ((aServe net protected_ list).2.1),.int .i64 ((aServe net protected_ list).2.2)]∧Sl takenTy d' w' v0 (aServe net protected_ list).1):=by
 obtain ⟨A1,c2,rfl,hn3,hb4⟩:=h_list.fm
 refine ret_enter (n:=54) Tryz.func190 Z Z (ble Z) ?_
 have hI0:=Inv.start hd
 refine csr ((GA Y (GA Y (GA Y (gnx ((c_scopeP (ι:=Nat × List Taken × Option Addr × Nat × Int × Nat × Dat) (fun ⟨a5,a2,b0,b1,a3,a1,b2⟩=>[(0,.int .i64 net),(1,.int .i64 protected_),(2,.slice A1 (list).length c2),(9,.slice b0 a2.length b1),(10,.int .i64 a3),(11,.int .i64 (a1:Int))]) (fun ⟨a5,a2,b0,b1,a3,a1,b2⟩ b7=>Inv [] d w b2 [row takenTy 236 (.slice b0 a2.length b1) (a2)] b7∧Le d w b2 b7∧aServe net protected_ list=aServe_l1 net protected_ list a5 a2 a3 a1∧list.length < a1 + a5∧a1≤list.length∧a2.length≤a1) (fun ⟨a5,a2,b0,b1,a3,a1,b2⟩=>a5) 0 Z ?_ (fun hP=>?_))))))))
 ·rintro ⟨a5,a2,b0,b1,a3,a1,b2⟩ b7 ⟨b4,c1,b8,f7,f8,f9⟩
  have c8:=row_len (b4.ok _ m0); unfold big at c8
  obtain ⟨c9,rfl⟩:∃ z,a5=z + 1:=⟨a5 - 1,by omega⟩
  refine c_seq (csr ((GM Y (GM Y (gln el_257 Z Z Z (g_y (y_eql Z Z) Z Z (gnx ((c_cond Z (fun a6=>?_) (fun a6=>?_))))))))))
  ·replace a6:=OT a6
   refine csr ((GM Y (GM Y (GA Y (GA Y (GA Y (gnx ((c_ret ?_)))))))))
   obtain ⟨g0,c3,g1,d0⟩:=pub_row b4 (.hd _) (by simp)
   have d1:aServe net protected_ list=(a2,a3,0):=ET (b8) (ET (IP a6) (rfl))
   refine x_thenR (x_jmp1R (x_ret ⟨_,_,rfl,rfl,⟨_,_,rfl,rfl,⟨_,_,rfl,rfl,rfl⟩⟩⟩ ?_))
   exact ⟨_,_,rfl,c3.fr,c3.grow,by rw [d1]; exact ⟨_,rfl,d0⟩⟩
  ·replace a6:=OF a6
   refine c_skip (x_next (csr ((GM Y (GM Y (GM Y (g_y (y_subW Z Z) Z Z (g_y (y_max Z Z) Z Z (GM Y (GM Y ?_))))))))))
   obtain ⟨a4,b9⟩:=has (xs:=list) (k:=a1) (by omega)
   obtain ⟨g2,g3,g4,d2,d3,d4,g5⟩:=Sl.at_ (h_list.mono c1) b9
   obtain rfl:=d3
   refine g_y (y_indexAddr (i:=a1) el_257 Z d2 Z (rfl) (by omega)) Z Z (g_y (y_loadA (cs:=[.int .i64 a4.order.id,.int .i64 a4.order.prio,.int .i64 a4.order.amount,.int .i64 a4.order.rate,.int .i64 a4.order.total,.int .i64 a4.taken,.int .i64 a4.arrears]) sh_260 Z (d4.part (f:=0) (.take _ (.take _ (.take _ (.take _ (.take _ (.take _ (.take _ (.nil _)))))))))) Z Z ?_)
   have c4:=aOne_c (net:=net) (free:=(max 0 (wI (a3 - protected_)))) (s:=a4) b4.lt
   obtain ⟨a0,c0⟩:∃ r,aOne net ((max 0 (wI (a3 - protected_)))) a4=r:=⟨_,rfl⟩
   rw [c0] at c4
   refine g_e (ev_pure b4 pf_249 Z c4) Z Z ?_
   rintro _ g6 ⟨g7,d5,d6,rfl⟩
   refine GM Y (g_y (y_extract Z Z) Z Z (g_y (y_extract Z Z) Z Z (g_e (ev_alloc d5 ze_236) Z Z ?_)))
   rintro _ g8 ⟨g9,rfl,d7,d8⟩
   refine g_e (ev_store d7 Z Z Z sz_236 Z (.here _ _ (.here _ _ (.here _ _ (.here _ _ (.here _ _ (.here _ _ (.nil _))))))) (.hd _)) Z Z ?_
   rintro _ h0 ⟨b5,d9⟩
   refine GA Y (gnx ((c_seq (csr ((GM Y (g_y (y_neq Z Z) Z Z (gnx ((c_cond Z (fun a8=>?_) (fun a8=>?_)))))))))))
   ·replace a8:=OT a8
    refine csr ((GM Y (GA Y (GA Y (GA Y (gnx ((c_ret ?_))))))))
    have e0:aServe net protected_ list=(([]:List Taken),0,a0.2):=ET (b8) (ET (IN a6) (ET (opt_some b9) (ET (BE c0) (ET (IP a8) (rfl)))))
    refine x_thenR (x_jmp1R (x_ret ⟨_,_,rfl,rfl,⟨_,_,rfl,rfl,⟨_,_,rfl,rfl,rfl⟩⟩⟩ ?_))
    exact ⟨_,_,rfl,b5.fr,b5.grow,by rw [e0]; exact ⟨_,rfl,(Sl.nil_ _ _ _ none 0)⟩⟩
   ·replace a8:=OF a8
    refine c_skip (x_next (csr ((GM Y (g_y (y_loadA (cs:=[.int .i64 a0.1.order,.int .i64 a0.1.brought,.int .i64 a0.1.ordered,.int .i64 a0.1.due,.int .i64 a0.1.taken,.int .i64 a0.1.carried]) sh_236 Z ((blk_cells b5 m0).part (f:=0) (.take _ (.take _ (.take _ (.take _ (.take _ (.take _ (.nil _))))))))) Z Z (g_e (ev_buildSl (T:=takenTy) (xs:=[a0.1]) b5 el_49 ze_236 Z Z (ble Z) (ble Z) (.cons Z Z Z Z (.here _ _ (.here _ _ (.here _ _ (.here _ _ (.here _ _ (.here _ _ (.nil _))))))) (ble Z) (.nil _)) (.cons (x:=a0.1) (cs:=[.int .i64 a0.1.order,.int .i64 a0.1.brought,.int .i64 a0.1.ordered,.int .i64 a0.1.due,.int .i64 a0.1.taken,.int .i64 a0.1.carried]) Z .nil)) Z Z ?_))))))
    rintro _ h1 ⟨e1,e2,e3,e4,h2,rfl⟩
    refine g_e (ev_append e2 ei_49 Z Z m1 e4 (by simp only [LA,LC,LN,big] at *; omega) (by simp only [LA,LC,LN,big] at *; omega)) Z Z ?_
    rintro _ h3 ⟨e5,e6,e7,e8,rfl⟩
    have c5:=e5 _ (.tl _ (.hd _))
    refine GA Y (gnx ((csr ((GM Y (gfa fo_236_4 Z Z Z (gld sh_2 Z c5 m0 (i:=4) Z Z Z (g_y (y_subW Z Z) Z Z (GA Y (gnx ((csr (?_)))))))))))))
    refine GM Y (g_y (y_add Z Z (by omega)) Z Z (GA Y (gnx ((c_goto ?_)))))
    have e9:=c5.drop (.hd _)
    refine x_jump1 (c9,(a2 ++ [a0.1]),e7,e8,(wI (a3 - a0.1.taken)),a1 + 1,e1) (by dsimp only; omega) (.cons Z (.cons Z (.cons Z (.cons Z (.cons Z (.cons Z (.nil _))))))) ⟨e9,(((((c1.t d6).t d8).t d9).t e3).t e6),ET (b8) (ET (IN a6) (ET (opt_some b9) (ET (BE c0) (ET (IN a8) (rfl))))),by omega,by omega,by first | omega | (simp only [LA,LC,LN] at *; omega)⟩
 ·refine c_seq (csr ((GM Y (GM Y (g_e (ev_buildSl (T:=intTy) (xs:=[net,protected_]) hI0 el_174 ze_2 Z Z (ble Z) (ble Z) (.cons Z Z Z Z (.here _ _ (.nil _)) (ble Z) (.cons Z Z Z Z (.next _ (.here _ _ (.nil _))) (ble Z) (.nil _))) (.cons (x:=net) (cs:=[.int .i64 net]) Z (.cons (x:=protected_) (cs:=[.int .i64 protected_]) Z .nil))) Z Z ?_)))))
  rintro _ h4 ⟨h5,c6,f0,f1,h6,rfl⟩
  have c7:=mRight_c (list:=[net,protected_]) c6.lt f1
  obtain ⟨h7,b6⟩:∃ r,mRight ([net,protected_])=r:=⟨_,rfl⟩
  rw [b6] at c7
  refine g_e (ev_pure c6 pf_117 Z c7) Z Z ?_
  rintro _ h8 ⟨f2,b3,f3,rfl⟩
  refine g_y (y_not Z) Z Z (gnx ((c_cond Z (fun a7=>?_) (fun a7=>?_))))
  ·replace a7:=not_t a7
   refine csr ((GA Y (GA Y (GA Y (gnx ((c_ret ?_)))))))
   have f4:aServe net protected_ list=(([]:List Taken),0,10):=ET (BE b6) (ET (cond_f a7) (rfl))
   refine x_thenR (x_jmp0R (x_ret ⟨_,_,rfl,rfl,⟨_,_,rfl,rfl,⟨_,_,rfl,rfl,rfl⟩⟩⟩ ?_))
   exact ⟨_,_,rfl,b3.fr,b3.grow,by rw [f4]; exact ⟨_,rfl,(Sl.nil_ _ _ _ none 0)⟩⟩
  ·replace a7:=not_f a7
   refine c_skip (x_next (c_seq (csr ((GM Y (g_y (y_lss Z Z) Z Z (gnx ((c_cond Z (fun a9=>?_) (fun a9=>?_))))))))))
   ·replace a9:=OT a9
    refine csr ((GA Y (GA Y (GA Y (gnx ((c_ret ?_)))))))
    have f5:aServe net protected_ list=(([]:List Taken),0,1):=ET (BE b6) (ET (cond_t a7) (ET (IP a9) (rfl)))
    refine x_thenR (x_jmp0R (x_ret ⟨_,_,rfl,rfl,⟨_,_,rfl,rfl,⟨_,_,rfl,rfl,rfl⟩⟩⟩ ?_))
    exact ⟨_,_,rfl,b3.fr,b3.grow,by rw [f5]; exact ⟨_,rfl,(Sl.nil_ _ _ _ none 0)⟩⟩
   ·replace a9:=OF a9
    refine c_skip (x_next (csr ((GA Y (gnx ((csr ((GM Y (GA Y (GA Y (gnx (?_)))))))))))))
    refine c_seq (c_label (x_next ?_))
    have f6:=nil_row takenTy 236 b3
    exact hP (list.length + 1,([]:List Taken),none,0,net,0,f2) _ _ ⟨f6,(f0.t f3),ET (BE b6) (ET (cond_t a7) (ET (IN a9) (rfl))),by omega,by omega,by simp⟩ (.cons Z (.cons Z (.cons Z (.cons Z (.cons Z (.cons Z (.nil _)))))))
def pNominal (freq:Int):Int:=
 (if (freq=1) then 52
 else (if (freq=2) then 26
 else (if (freq=3) then 13
 else (if (freq=4) then 12
 else 0))))
theorem pNominal_c {freq:Int} {d:Dat} {w:World} (hd:∀ b,d b→b < w.heap.size):Ret Tryz.prog 151 [.int .i64 freq] w [] d (fun u d' w'=>u=.int .i64 ((pNominal freq))):=by
 refine ret_enter (n:=12) Tryz.func151 Z Z (ble Z) ?_
 have hI0:=Inv.start hd
 refine csr ((GA Y (gnx ((c_seq (csr ((GM Y (gnx ((c_block (csr (?_)))))))))))))
 refine g_y (y_eql Z Z) Z Z (GA Y (gnx ((c_cond Z (fun hc5=>?_) (fun hc5=>?_)))))
 ·replace hc5:=OT hc5
  refine csr ((GA Y (gnx ((c_ret ?_)))))
  have hF6:pNominal freq=52:=ET (IP hc5) (rfl)
  refine x_blockR (x_thenR (x_ret ⟨_,_,rfl,rfl,rfl⟩ ?_))
  exact ⟨_,_,rfl,hI0.fr,hI0.grow,by rw [hF6]; exact rfl⟩
 ·replace hc5:=OF hc5
  refine csr ((g_y (y_eql Z Z) Z Z (GA Y (gnx ((c_cond Z (fun hc7=>?_) (fun hc7=>?_)))))))
  ·replace hc7:=OT hc7
   refine csr ((GA Y (gnx ((c_ret ?_)))))
   have hF8:pNominal freq=26:=ET (IN hc5) (ET (IP hc7) (rfl))
   refine x_blockR (x_thenR (x_ret ⟨_,_,rfl,rfl,rfl⟩ ?_))
   exact ⟨_,_,rfl,hI0.fr,hI0.grow,by rw [hF8]; exact rfl⟩
  ·replace hc7:=OF hc7
   refine csr ((g_y (y_eql Z Z) Z Z (GA Y (gnx ((c_cond Z (fun hc9=>?_) (fun hc9=>?_)))))))
   ·replace hc9:=OT hc9
    refine csr ((GA Y (gnx ((c_ret ?_)))))
    have a1:pNominal freq=13:=ET (IN hc5) (ET (IN hc7) (ET (IP hc9) (rfl)))
    refine x_blockR (x_thenR (x_ret ⟨_,_,rfl,rfl,rfl⟩ ?_))
    exact ⟨_,_,rfl,hI0.fr,hI0.grow,by rw [a1]; exact rfl⟩
   ·replace hc9:=OF hc9
    refine csr ((g_y (y_eql Z Z) Z Z (GA Y (gnx ((c_cond Z (fun a0=>?_) (fun a0=>?_)))))))
    ·replace a0:=OT a0
     refine csr ((GA Y (gnx ((c_ret ?_)))))
     have a2:pNominal freq=12:=ET (IN hc5) (ET (IN hc7) (ET (IN hc9) (ET (IP a0) (rfl))))
     refine x_blockR (x_thenR (x_ret ⟨_,_,rfl,rfl,rfl⟩ ?_))
     exact ⟨_,_,rfl,hI0.fr,hI0.grow,by rw [a2]; exact rfl⟩
    ·replace a0:=OF a0
     refine c_skip (x_blockN (x_next ?_))
     refine csr ((GA Y (gnx ((c_ret ?_)))))
     have a3:pNominal freq=0:=ET (IN hc5) (ET (IN hc7) (ET (IN hc9) (ET (IN a0) (rfl))))
     refine x_ret ⟨_,_,rfl,rfl,rfl⟩ (⟨_,_,rfl,hI0.fr,hI0.grow,by rw [a3]; exact rfl⟩)
def pLength (freq:Int):Int:=
 (if (freq=1) then 7
 else (if (freq=2) then 14
 else (if (freq=3) then 28
 else 0)))
theorem pLength_c {freq:Int} {d:Dat} {w:World} (hd:∀ b,d b→b < w.heap.size):Ret Tryz.prog 150 [.int .i64 freq] w [] d (fun u d' w'=>u=.int .i64 ((pLength freq))):=by
 refine ret_enter (n:=10) Tryz.func150 Z Z (ble Z) ?_
 have hI0:=Inv.start hd
 refine csr ((GA Y (gnx ((c_seq (csr ((GM Y (gnx ((c_block (csr (?_)))))))))))))
 refine g_y (y_eql Z Z) Z Z (GA Y (gnx ((c_cond Z (fun hc4=>?_) (fun hc4=>?_)))))
 ·replace hc4:=OT hc4
  refine csr ((GA Y (gnx ((c_ret ?_)))))
  have hF5:pLength freq=7:=ET (IP hc4) (rfl)
  refine x_blockR (x_thenR (x_ret ⟨_,_,rfl,rfl,rfl⟩ ?_))
  exact ⟨_,_,rfl,hI0.fr,hI0.grow,by rw [hF5]; exact rfl⟩
 ·replace hc4:=OF hc4
  refine csr ((g_y (y_eql Z Z) Z Z (GA Y (gnx ((c_cond Z (fun hc6=>?_) (fun hc6=>?_)))))))
  ·replace hc6:=OT hc6
   refine csr ((GA Y (gnx ((c_ret ?_)))))
   have hF7:pLength freq=14:=ET (IN hc4) (ET (IP hc6) (rfl))
   refine x_blockR (x_thenR (x_ret ⟨_,_,rfl,rfl,rfl⟩ ?_))
   exact ⟨_,_,rfl,hI0.fr,hI0.grow,by rw [hF7]; exact rfl⟩
  ·replace hc6:=OF hc6
   refine csr ((g_y (y_eql Z Z) Z Z (GA Y (gnx ((c_cond Z (fun hc8=>?_) (fun hc8=>?_)))))))
   ·replace hc8:=OT hc8
    refine csr ((GA Y (gnx ((c_ret ?_)))))
    have hF9:pLength freq=28:=ET (IN hc4) (ET (IN hc6) (ET (IP hc8) (rfl)))
    refine x_blockR (x_thenR (x_ret ⟨_,_,rfl,rfl,rfl⟩ ?_))
    exact ⟨_,_,rfl,hI0.fr,hI0.grow,by rw [hF9]; exact rfl⟩
   ·replace hc8:=OF hc8
    refine c_skip (x_blockN (x_next ?_))
    refine csr ((GA Y (gnx ((c_ret ?_)))))
    have a0:pLength freq=0:=ET (IN hc4) (ET (IN hc6) (ET (IN hc8) (rfl)))
    refine x_ret ⟨_,_,rfl,rfl,rfl⟩ (⟨_,_,rfl,hI0.fr,hI0.grow,by rw [a0]; exact rfl⟩)
def dLeap (year:Int):Bool:=
 (if ((year.tmod 4)=0) then (if ((year.tmod 100)≠0) then true
 else (decide ((year.tmod 400)=0)))
 else false)
theorem dLeap_c {year:Int} {d:Dat} {w:World} (hd:∀ b,d b→b < w.heap.size):Ret Tryz.prog 258 [.int .i64 year] w [] d (fun u d' w'=>u=.bool ((dLeap year))):=by
 refine ret_enter (n:=16) Tryz.func258 Z Z (ble Z) ?_
 have hI0:=Inv.start hd
 refine csr ((GA Y (gnx ((csr ((GM Y (g_y (y_rem Z Z (by decide)) Z Z (g_y (y_eql Z Z) Z Z (GM Y (g_split (t:=6) Z (fun hg1=>?_) (fun hg1=>?_))))))))))))
 ·replace hg1:=OT hg1
  refine GM Y (g_y (y_rem Z Z (by decide)) Z Z (g_y (y_neq Z Z) Z Z (GM Y (g_split (t:=10) Z (fun hg2=>?_) (fun hg2=>?_)))))
  ·replace hg2:=OT hg2
   refine gsk Z Z (gsk Z Z (gsk Z Z (g_y (y_pickT Z Z) Z Z (g_y (y_pickT Z Z) Z Z (GA Y (gnx ((c_ret ?_))))))))
   have hF3:dLeap year=true:=ET (IP hg1) (ET (IP hg2) (rfl))
   refine x_ret ⟨_,_,rfl,rfl,rfl⟩ (⟨_,_,rfl,hI0.fr,hI0.grow,by rw [hF3]; exact rfl⟩)
  ·replace hg2:=OF hg2
   refine GM Y (g_y (y_rem Z Z (by decide)) Z Z (g_y (y_eql Z Z) Z Z (g_y (y_pickF Z Z) Z Z (g_y (y_pickT Z Z) Z Z (GA Y (gnx ((c_ret ?_))))))))
   have hF4:dLeap year=(decide ((year.tmod 400)=0)):=ET (IP hg1) (ET (IN hg2) (rfl))
   refine x_ret ⟨_,_,rfl,rfl,rfl⟩ (⟨_,_,rfl,hI0.fr,hI0.grow,by rw [hF4]; exact rfl⟩)
 ·replace hg1:=OF hg1
  refine gsk Z Z (gsk Z Z (gsk Z Z (gsk Z Z (gsk Z Z (gsk Z Z (gsk Z Z (gsk Z Z (g_y (y_pickF Z Z) Z Z (GA Y (gnx ((c_ret ?_))))))))))))
  have hF5:dLeap year=false:=ET (IN hg1) (rfl)
  refine x_ret ⟨_,_,rfl,rfl,rfl⟩ (⟨_,_,rfl,hI0.fr,hI0.grow,by rw [hF5]; exact rfl⟩)
def dLast_m1 (month:Int):Bool:=
 (if (month=1) then (decide (month=1))
 else (if (month=3) then (decide (month=3))
 else (if (month=5) then (decide (month=5))
 else (if (month=7) then (decide (month=7))
 else (if (month=8) then (decide (month=8))
 else (if (month=10) then (decide (month=10))
 else (decide (month=12))))))))
def dLast_m2 (month:Int):Bool:=
 (if (month=4) then (decide (month=4))
 else (if (month=6) then (decide (month=6))
 else (if (month=9) then (decide (month=9))
 else (decide (month=11)))))
def dLast (year:Int) (month:Int):Int:=
 (if (year < 1900) then 0
 else (if (2199 < year) then 0
 else (bnd (dLast_m1 month) fun a0=>
 (cond a0 31
 ((bnd (dLast_m2 month) fun a1=>
 (cond a1 30
 ((if (month=2) then (bnd (dLeap year) fun a2=>
 (cond a2 29
 28))
 else 0)))))))))
theorem dLast_c {year:Int} {month:Int} {d:Dat} {w:World} (hd:∀ b,d b→b < w.heap.size):Ret Tryz.prog 254 [.int .i64 year,.int .i64 month] w [] d (fun u d' w'=>u=.int .i64 ((dLast year month))):=by
 refine ret_enter (n:=29) Tryz.func254 Z Z (ble Z) ?_
 have hI0:=Inv.start hd
 refine csr ((GA Y (gnx ((c_seq (csr ((GM Y (g_y (y_lss Z Z) Z Z (GM Y (g_split (t:=7) Z (fun hg3=>?_) (fun hg3=>?_))))))))))))
 ·replace hg3:=OT hg3
  refine gsk Z Z (gsk Z Z (g_y (y_pickT Z Z) Z Z (gnx ((c_condT Z (csr ((GA Y (gnx ((c_ret ?_)))))))))))
  have hF4:dLast year month=0:=ET (IP hg3) (rfl)
  refine x_thenR (x_ret ⟨_,_,rfl,rfl,rfl⟩ ?_)
  exact ⟨_,_,rfl,hI0.fr,hI0.grow,by rw [hF4]; exact rfl⟩
 ·replace hg3:=OF hg3
  refine GM Y (g_y (y_gtr Z Z) Z Z (g_y (y_pickF Z Z) Z Z (gnx ((c_cond Z (fun hc5=>?_) (fun hc5=>?_))))))
  ·replace hc5:=OT hc5
   refine csr ((GA Y (gnx ((c_ret ?_)))))
   have hF6:dLast year month=0:=ET (IN hg3) (ET (IP hc5) (rfl))
   refine x_thenR (x_ret ⟨_,_,rfl,rfl,rfl⟩ ?_)
   exact ⟨_,_,rfl,hI0.fr,hI0.grow,by rw [hF6]; exact rfl⟩
  ·replace hc5:=OF hc5
   refine c_skip (x_next (c_seq (csr ((GM Y (gnx ((c_block (c_cut (ι:=Bool × Dat) (fun ⟨b6,a3⟩=>[(0,.int .i64 year),(11,.int .i64 month),(12,.bool b6)]) (fun ⟨b6,a3⟩ b7=>Inv [] d w a3 [] b7∧Le d w a3 b7∧dLast_m1 month=b6) ?_ ?_)))))))))
   ·refine csr ((g_y (y_eql Z Z) Z Z (GA Y (gnx ((c_cond Z (fun a0=>?_) (fun a0=>?_)))))))
    ·replace a0:=OT a0
     refine c_skip (x_cut ((decide (month=1)),d) (.cons Z (.cons Z (.cons Z (.nil _)))) ⟨hI0,(Le.refl _ _),ET (IP a0) (rfl)⟩)
    ·replace a0:=OF a0
     refine csr ((g_y (y_eql Z Z) Z Z (GA Y (gnx ((c_cond Z (fun a1=>?_) (fun a1=>?_)))))))
     ·replace a1:=OT a1
      refine c_skip (x_cut ((decide (month=3)),d) (.cons Z (.cons Z (.cons Z (.nil _)))) ⟨hI0,(Le.refl _ _),ET (IN a0) (ET (IP a1) (rfl))⟩)
     ·replace a1:=OF a1
      refine csr ((g_y (y_eql Z Z) Z Z (GA Y (gnx ((c_cond Z (fun a2=>?_) (fun a2=>?_)))))))
      ·replace a2:=OT a2
       refine c_skip (x_cut ((decide (month=5)),d) (.cons Z (.cons Z (.cons Z (.nil _)))) ⟨hI0,(Le.refl _ _),ET (IN a0) (ET (IN a1) (ET (IP a2) (rfl)))⟩)
      ·replace a2:=OF a2
       refine csr ((g_y (y_eql Z Z) Z Z (GA Y (gnx ((c_cond Z (fun a4=>?_) (fun a4=>?_)))))))
       ·replace a4:=OT a4
        refine c_skip (x_cut ((decide (month=7)),d) (.cons Z (.cons Z (.cons Z (.nil _)))) ⟨hI0,(Le.refl _ _),ET (IN a0) (ET (IN a1) (ET (IN a2) (ET (IP a4) (rfl))))⟩)
       ·replace a4:=OF a4
        refine csr ((g_y (y_eql Z Z) Z Z (GA Y (gnx ((c_cond Z (fun a6=>?_) (fun a6=>?_)))))))
        ·replace a6:=OT a6
         refine c_skip (x_cut ((decide (month=8)),d) (.cons Z (.cons Z (.cons Z (.nil _)))) ⟨hI0,(Le.refl _ _),ET (IN a0) (ET (IN a1) (ET (IN a2) (ET (IN a4) (ET (IP a6) (rfl)))))⟩)
        ·replace a6:=OF a6
         refine csr ((g_y (y_eql Z Z) Z Z (GA Y (gnx ((c_cond Z (fun a9=>?_) (fun a9=>?_)))))))
         ·replace a9:=OT a9
          refine c_skip (x_cut ((decide (month=10)),d) (.cons Z (.cons Z (.cons Z (.nil _)))) ⟨hI0,(Le.refl _ _),ET (IN a0) (ET (IN a1) (ET (IN a2) (ET (IN a4) (ET (IN a6) (ET (IP a9) (rfl))))))⟩)
         ·replace a9:=OF a9
          refine c_region (g_y (y_eql Z Z) Z Z (GA Y (g_nil (x_cut ((decide (month=12)),d) (.cons Z (.cons Z (.cons Z (.nil _)))) ⟨hI0,(Le.refl _ _),ET (IN a0) (ET (IN a1) (ET (IN a2) (ET (IN a4) (ET (IN a6) (ET (IN a9) (rfl))))))⟩))))
   ·rintro ⟨b6,a3⟩ b7 ⟨b1,d1,b4⟩
    refine c_cond Z (fun b2=>?_) (fun b2=>?_)
    ·skip
     refine csr ((GA Y (gnx ((c_ret ?_)))))
     have c6:dLast year month=31:=ET (IN hg3) (ET (IN hc5) (ET (BE b4) (ET (cond_t b2) (rfl))))
     refine x_blockR (x_thenR (x_ret ⟨_,_,rfl,rfl,rfl⟩ ?_))
     exact ⟨_,_,rfl,b1.fr,b1.grow,by rw [c6]; exact rfl⟩
    ·skip
     refine c_cut (ι:=Bool × Dat) (fun ⟨b8,b9⟩=>[(0,.int .i64 year),(11,.int .i64 month),(20,.bool b8)]) (fun ⟨b8,b9⟩ c2=>Inv [] d w b9 [] c2∧Le a3 b7 b9 c2∧dLast_m2 month=b8) ?_ ?_
     ·refine csr ((g_y (y_eql Z Z) Z Z (GA Y (gnx ((c_cond Z (fun a5=>?_) (fun a5=>?_)))))))
      ·replace a5:=OT a5
       refine c_skip (x_cut ((decide (month=4)),a3) (.cons Z (.cons Z (.cons Z (.nil _)))) ⟨b1,(Le.refl _ _),ET (IP a5) (rfl)⟩)
      ·replace a5:=OF a5
       refine csr ((g_y (y_eql Z Z) Z Z (GA Y (gnx ((c_cond Z (fun a7=>?_) (fun a7=>?_)))))))
       ·replace a7:=OT a7
        refine c_skip (x_cut ((decide (month=6)),a3) (.cons Z (.cons Z (.cons Z (.nil _)))) ⟨b1,(Le.refl _ _),ET (IN a5) (ET (IP a7) (rfl))⟩)
       ·replace a7:=OF a7
        refine csr ((g_y (y_eql Z Z) Z Z (GA Y (gnx ((c_cond Z (fun b0=>?_) (fun b0=>?_)))))))
        ·replace b0:=OT b0
         refine c_skip (x_cut ((decide (month=9)),a3) (.cons Z (.cons Z (.cons Z (.nil _)))) ⟨b1,(Le.refl _ _),ET (IN a5) (ET (IN a7) (ET (IP b0) (rfl)))⟩)
        ·replace b0:=OF b0
         refine c_region (g_y (y_eql Z Z) Z Z (GA Y (g_nil (x_cut ((decide (month=11)),a3) (.cons Z (.cons Z (.cons Z (.nil _)))) ⟨b1,(Le.refl _ _),ET (IN a5) (ET (IN a7) (ET (IN b0) (rfl)))⟩))))
     ·rintro ⟨b8,b9⟩ c2 ⟨b3,d2,c0⟩
      refine c_cond Z (fun b5=>?_) (fun b5=>?_)
      ·skip
       refine csr ((GA Y (gnx ((c_ret ?_)))))
       have c7:dLast year month=30:=ET (IN hg3) (ET (IN hc5) (ET (BE b4) (ET (cond_f b2) (ET (BE c0) (ET (cond_t b5) (rfl))))))
       refine x_blockR (x_thenR (x_ret ⟨_,_,rfl,rfl,rfl⟩ ?_))
       exact ⟨_,_,rfl,b3.fr,b3.grow,by rw [c7]; exact rfl⟩
      ·skip
       refine csr ((g_y (y_eql Z Z) Z Z (GA Y (gnx ((c_cond Z (fun a8=>?_) (fun a8=>?_)))))))
       ·replace a8:=OT a8
        refine c_seq (csr ((GM Y ?_)))
        have c5:=dLeap_c (year:=year) b3.lt
        obtain ⟨d3,c3⟩:∃ r,dLeap year=r:=⟨_,rfl⟩
        rw [c3] at c5
        refine g_e (ev_pure b3 pf_258 Z c5) Z Z ?_
        rintro _ d4 ⟨d5,c1,d6,rfl⟩
        refine gnx ((c_cond Z (fun c4=>?_) (fun c4=>?_)))
        ·skip
         refine csr ((GA Y (gnx ((c_ret ?_)))))
         have c8:dLast year month=29:=ET (IN hg3) (ET (IN hc5) (ET (BE b4) (ET (cond_f b2) (ET (BE c0) (ET (cond_f b5) (ET (IP a8) (ET (BE c3) (ET (cond_t c4) (rfl)))))))))
         refine x_thenR (x_blockR (x_thenR (x_ret ⟨_,_,rfl,rfl,rfl⟩ ?_)))
         exact ⟨_,_,rfl,c1.fr,c1.grow,by rw [c8]; exact rfl⟩
        ·skip
         refine c_skip (x_next (csr ((GA Y (gnx ((c_ret ?_)))))))
         have c9:dLast year month=28:=ET (IN hg3) (ET (IN hc5) (ET (BE b4) (ET (cond_f b2) (ET (BE c0) (ET (cond_f b5) (ET (IP a8) (ET (BE c3) (ET (cond_f c4) (rfl)))))))))
         refine x_blockR (x_thenR (x_ret ⟨_,_,rfl,rfl,rfl⟩ ?_))
         exact ⟨_,_,rfl,c1.fr,c1.grow,by rw [c9]; exact rfl⟩
       ·replace a8:=OF a8
        refine c_skip (x_blockN (x_next ?_))
        refine csr ((GA Y (gnx ((c_ret ?_)))))
        have d0:dLast year month=0:=ET (IN hg3) (ET (IN hc5) (ET (BE b4) (ET (cond_f b2) (ET (BE c0) (ET (cond_f b5) (ET (IN a8) (rfl)))))))
        refine x_ret ⟨_,_,rfl,rfl,rfl⟩ (⟨_,_,rfl,b3.fr,b3.grow,by rw [d0]; exact rfl⟩)
def dRight (a:Date):Bool:=
 (if (1≤a.d) then (bnd (dLast a.y a.m) fun a0=>
 (decide (a.d≤a0)))
 else false)
theorem dRight_c {a:Date} {d:Dat} {w:World} (hd:∀ b,d b→b < w.heap.size):Ret Tryz.prog 253 [.agg #[.int .i64 a.y,.int .i64 a.m,.int .i64 a.d]] w [] d (fun u d' w'=>u=.bool ((dRight a))):=by
 refine ret_enter (n:=16) Tryz.func253 Z Z (ble Z) ?_
 have hI0:=Inv.start hd
 refine csr ((g_e (ev_box hI0 Z) Z Z ?_))
 rintro _ w1 ⟨b4,rfl,hI2,hle3⟩
 refine GA Y (gnx ((c_seq ?_)))
 have a1:=hI2.drew; have b3:=Le.drew d w1
 refine c_drawK 13 follows_mixed a1 (k_y 0 (by kernel_rfl) Z Z Z (fun _ _=>(y_fieldAddr fo_242_2 Z)) (k_y 1 (by kernel_rfl) Z Z Z (fun b5 ⟨b6,a5,b7⟩=>(y_load1 sh_3 Z ((blk_cells a5 m0).nth_ (i:=2) Z))) (k_y 2 (by kernel_rfl) Z Z Z (fun _ _=>(y_geq Z Z)) (k_y 3 (by kernel_rfl) Z Z Z (fun _ _=>(y_move Z)) (k_split (t:=6) Z (fun a0=>?_) (fun a0=>?_))))))
 ·replace a0:=OT a0
  refine k_y 4 (by kernel_rfl) Z Z Z (fun _ _=>(y_fieldAddr fo_242_2 Z)) (k_y 5 (by kernel_rfl) Z Z Z (fun b8 ⟨b9,a6,c0⟩=>(y_load1 sh_3 Z ((blk_cells a6 m0).nth_ (i:=2) Z))) (k_y 6 (by kernel_rfl) Z Z Z (fun _ _=>(y_fieldAddr fo_242_0 Z)) (k_y 7 (by kernel_rfl) Z Z Z (fun c1 ⟨c2,a7,c3⟩=>(y_load1 sh_3 Z ((blk_cells a7 m0).nth_ (i:=0) Z))) (k_y 8 (by kernel_rfl) Z Z Z (fun _ _=>(y_fieldAddr fo_242_1 Z)) (k_y 9 (by kernel_rfl) Z Z Z (fun c4 ⟨c5,a8,c6⟩=>(y_load1 sh_3 Z ((blk_cells a8 m0).nth_ (i:=1) Z))) (k_all (is:=[10]) (by kernel_rfl) (by simp) (.cons ?_ .nil)))))))
  have a3:=dLast_c (year:=a.y) (month:=a.m) a1.lt
  obtain ⟨a9,a4⟩:∃ r,dLast a.y a.m=r:=⟨_,rfl⟩
  rw [a4] at a3
  refine k_op Z Z Z (ev_pure a1 pf_254 Z a3) ?_
  rintro _ c7 ⟨c8,a2,b0,rfl⟩
  refine k_next a2 b0 (k_y 11 (by kernel_rfl) Z Z Z (fun _ _=>(y_leq Z Z)) (k_y 12 (by kernel_rfl) Z Z Z (fun _ _=>(y_pickT Z Z)) (k_all (is:=[13]) (by kernel_rfl) (by simp) (.cons ?_ .nil))))
  refine k_op Z Z Z (Ev.of_y2 (y_assign Z)) ?_
  rintro _ _ ⟨rfl,rfl⟩
  refine k_bar (b_done (by kernel_rfl) (x_draw ?_) (by kernel_rfl))
  refine x_next (c_ret ?_)
  have b1:dRight a=(decide (a.d≤a9)):=ET (IP a0) (ET (BE a4) (rfl))
  refine x_ret ⟨_,_,rfl,rfl,rfl⟩ (⟨_,_,rfl,a2.fr,a2.grow,by rw [b1]; exact rfl⟩)
 ·replace a0:=OF a0
  refine k_skip 4 (by kernel_rfl) Z Z Z (k_skip 5 (by kernel_rfl) Z Z Z (k_skip 6 (by kernel_rfl) Z Z Z (k_skip 7 (by kernel_rfl) Z Z Z (k_skip 8 (by kernel_rfl) Z Z Z (k_skip 9 (by kernel_rfl) Z Z Z (k_skip 10 (by kernel_rfl) Z Z Z (k_skip 11 (by kernel_rfl) Z Z Z (k_y 12 (by kernel_rfl) Z Z Z (fun _ _=>(y_pickF Z Z)) (k_all (is:=[13]) (by kernel_rfl) (by simp) (.cons ?_ .nil))))))))))
  refine k_op Z Z Z (Ev.of_y2 (y_assign Z)) ?_
  rintro _ _ ⟨rfl,rfl⟩
  refine k_bar (b_done (by kernel_rfl) (x_draw ?_) (by kernel_rfl))
  refine x_next (c_ret ?_)
  have b2:dRight a=false:=ET (IN a0) (rfl)
  refine x_ret ⟨_,_,rfl,rfl,rfl⟩ (⟨_,_,rfl,a1.fr,a1.grow,by rw [b2]; exact rfl⟩)
def dMonths (a:Date) (months:Int):Date × Int:=
 (bnd (dRight a) fun a1=>
 (cond a1 ((if (3600 < months) then ((⟨0,0,0⟩:Date),30)
 else (if (months < (-3600)) then ((⟨0,0,0⟩:Date),30)
 else (bnd (dLast ((wI ((wI ((wI ((wI ((wI (12 * a.y)) + a.m)) - 1)) + months)).tdiv 12))) ((wI (((wI ((wI ((wI ((wI (12 * a.y)) + a.m)) - 1)) + months)).tmod 12) + 1)))) fun a0=>
 (bnd (dRight ((⟨(wI ((wI ((wI ((wI ((wI (12 * a.y)) + a.m)) - 1)) + months)).tdiv 12)),(wI (((wI ((wI ((wI ((wI (12 * a.y)) + a.m)) - 1)) + months)).tmod 12) + 1)),(min a.d a0)⟩:Date))) fun a2=>
 (cond a2 (((⟨(wI ((wI ((wI ((wI ((wI (12 * a.y)) + a.m)) - 1)) + months)).tdiv 12)),(wI (((wI ((wI ((wI ((wI (12 * a.y)) + a.m)) - 1)) + months)).tmod 12) + 1)),(min a.d a0)⟩:Date),0))
 (((⟨0,0,0⟩:Date),30))))))))
 (((⟨0,0,0⟩:Date),30))))
theorem dMonths_c {a:Date} {months:Int} {d:Dat} {w:World} (hd:∀ b,d b→b < w.heap.size):Ret Tryz.prog 200 [.agg #[.int .i64 a.y,.int .i64 a.m,.int .i64 a.d],.int .i64 months] w [] d (fun u d' w'=>u=.tuple #[.agg #[.int .i64 ((dMonths a months).1.y),.int .i64 ((dMonths a months).1.m),.int .i64 ((dMonths a months).1.d)],.int .i64 ((dMonths a months).2)]):=by
 refine ret_enter (n:=51) Tryz.func200 Z Z (ble Z) ?_
 have hI0:=Inv.start hd
 refine csr ((g_e (ev_box hI0 Z) Z Z ?_))
 rintro _ w1 ⟨b4,rfl,hI2,hle3⟩
 refine g_e (ev_alloc hI2 ze_242) Z Z ?_
 rintro _ w5 ⟨b8,rfl,hI6,hle7⟩
 refine GA Y (gnx ((c_seq (csr ((g_y (y_loadA (cs:=[.int .i64 a.y,.int .i64 a.m,.int .i64 a.d]) sh_242 Z ((blk_cells hI6 m1).part (f:=0) (.take _ (.take _ (.take _ (.nil _)))))) Z Z ?_))))))
 have b9:=dRight_c (a:=a) hI6.lt
 obtain ⟨d6,a5⟩:∃ r,dRight a=r:=⟨_,rfl⟩
 rw [a5] at b9
 refine g_e (ev_pure hI6 pf_253 Z b9) Z Z ?_
 rintro _ d7 ⟨c3,a3,d8,rfl⟩
 refine g_y (y_not Z) Z Z (GM Y (g_split (t:=11) Z (fun a0=>?_) (fun a0=>?_)))
 ·replace a0:=not_t a0
  refine gsk Z Z (gsk Z Z (g_y (y_pickT Z Z) Z Z (GM Y (gsk Z Z (gsk Z Z (g_y (y_pickT Z Z) Z Z (gnx ((c_condT Z (csr ((g_y (y_build ze_242 pl_242 (.nil _)) Z Z (g_e (ev_store a3 Z Z Z sz_242 Z (.here _ _ (.here _ _ (.here _ _ (.nil _)))) (.hd _)) Z Z ?_)))))))))))))
  rintro _ d9 ⟨a7,e0⟩
  refine GA Y (gnx ((c_ret ?_)))
  have c4:dMonths a months=((⟨0,0,0⟩:Date),30):=ET (BE a5) (ET (cond_f a0) (rfl))
  refine x_thenR (x_ret ⟨_,_,_,rfl,rfl,blk_cells a7 m0,sh_242,⟨_,_,rfl,rfl,rfl⟩⟩ ?_)
  exact ⟨_,_,rfl,a7.fr,a7.grow,by rw [c4]; exact rfl⟩
 ·replace a0:=not_f a0
  refine GM Y (g_y (y_gtr Z Z) Z Z (g_y (y_pickF Z Z) Z Z (GM Y (g_split (t:=15) Z (fun a1=>?_) (fun a1=>?_)))))
  ·replace a1:=OT a1
   refine gsk Z Z (gsk Z Z (g_y (y_pickT Z Z) Z Z (gnx ((c_condT Z (csr ((g_y (y_build ze_242 pl_242 (.nil _)) Z Z (g_e (ev_store a3 Z Z Z sz_242 Z (.here _ _ (.here _ _ (.here _ _ (.nil _)))) (.hd _)) Z Z ?_)))))))))
   rintro _ e1 ⟨a8,e2⟩
   refine GA Y (gnx ((c_ret ?_)))
   have c5:dMonths a months=((⟨0,0,0⟩:Date),30):=ET (BE a5) (ET (cond_t a0) (ET (IP a1) (rfl)))
   refine x_thenR (x_ret ⟨_,_,_,rfl,rfl,blk_cells a8 m0,sh_242,⟨_,_,rfl,rfl,rfl⟩⟩ ?_)
   exact ⟨_,_,rfl,a8.fr,a8.grow,by rw [c5]; exact rfl⟩
  ·replace a1:=OF a1
   refine GM Y (g_y (y_lss Z Z) Z Z (g_y (y_pickF Z Z) Z Z (gnx ((c_cond Z (fun a2=>?_) (fun a2=>?_))))))
   ·replace a2:=OT a2
    refine csr ((g_y (y_build ze_242 pl_242 (.nil _)) Z Z (g_e (ev_store a3 Z Z Z sz_242 Z (.here _ _ (.here _ _ (.here _ _ (.nil _)))) (.hd _)) Z Z ?_)))
    rintro _ e3 ⟨a9,e4⟩
    refine GA Y (gnx ((c_ret ?_)))
    have c6:dMonths a months=((⟨0,0,0⟩:Date),30):=ET (BE a5) (ET (cond_t a0) (ET (IN a1) (ET (IP a2) (rfl))))
    refine x_thenR (x_ret ⟨_,_,_,rfl,rfl,blk_cells a9 m0,sh_242,⟨_,_,rfl,rfl,rfl⟩⟩ ?_)
    exact ⟨_,_,rfl,a9.fr,a9.grow,by rw [c6]; exact rfl⟩
   ·replace a2:=OF a2
    refine c_skip (x_next (csr ((gfa fo_242_0 Z Z Z (gld sh_3 Z a3 m1 (i:=0) Z Z Z (g_y (y_mulW Z Z) Z Z (gfa fo_242_1 Z Z Z (gld sh_3 Z a3 m1 (i:=1) Z Z Z (g_y (y_addW Z Z) Z Z (g_y (y_subW Z Z) Z Z (GM Y (g_y (y_addW Z Z) Z Z (GA Y ?_)))))))))))))
    refine gnx ((csr ((GM Y (g_y (y_quoW Z Z (by decide)) Z Z (GM Y (g_y (y_rem Z Z (by decide)) Z Z (g_y (y_addW Z Z) Z Z (gfa fo_242_2 Z Z Z (gld sh_3 Z a3 m1 (i:=2) Z Z Z (g_y (y_build ze_242 pl_242 (.cons Z Z Z Z (.here _ _ (.nil _)) (ble Z) (.cons Z Z Z Z (.next _ (.here _ _ (.nil _))) (ble Z) (.cons Z Z Z Z (.next _ (.next _ (.here _ _ (.nil _)))) (ble Z) (.nil _))))) Z Z (g_e (ev_alloc a3 ze_242) Z Z ?_))))))))))))
    rintro _ e5 ⟨e6,rfl,c7,e7⟩
    refine g_e (ev_store c7 Z Z Z sz_242 Z (.here _ _ (.here _ _ (.here _ _ (.nil _)))) (.hd _)) Z Z ?_
    rintro _ c8 ⟨c9,e8⟩
    refine gnx ((c_seq ?_))
    have b0:=c9.drew; have e9:=Le.drew c3 c8
    refine c_drawK 8 follows_mixed b0 (k_y 0 (by kernel_rfl) Z Z Z (fun _ _=>(y_fieldAddr fo_242_2 Z)) (k_y 1 (by kernel_rfl) Z Z Z (fun f0 ⟨f1,d0,f2⟩=>(y_load1 sh_3 Z ((blk_cells d0 m0).nth_ (i:=2) Z))) (k_y 2 (by kernel_rfl) Z Z Z (fun _ _=>(y_fieldAddr fo_242_0 Z)) (k_y 3 (by kernel_rfl) Z Z Z (fun f3 ⟨f4,d1,f5⟩=>(y_load1 sh_3 Z ((blk_cells d1 m0).nth_ (i:=0) Z))) (k_y 4 (by kernel_rfl) Z Z Z (fun _ _=>(y_fieldAddr fo_242_1 Z)) (k_y 5 (by kernel_rfl) Z Z Z (fun f6 ⟨f7,d2,f8⟩=>(y_load1 sh_3 Z ((blk_cells d2 m0).nth_ (i:=1) Z))) (k_all (is:=[6]) (by kernel_rfl) (by simp) (.cons ?_ .nil))))))))
    have c0:=dLast_c (year:=(wI ((wI ((wI ((wI ((wI (12 * a.y)) + a.m)) - 1)) + months)).tdiv 12))) (month:=(wI (((wI ((wI ((wI ((wI (12 * a.y)) + a.m)) - 1)) + months)).tmod 12) + 1))) b0.lt
    obtain ⟨a6,b1⟩:∃ r,dLast ((wI ((wI ((wI ((wI ((wI (12 * a.y)) + a.m)) - 1)) + months)).tdiv 12))) ((wI (((wI ((wI ((wI ((wI (12 * a.y)) + a.m)) - 1)) + months)).tmod 12) + 1)))=r:=⟨_,rfl⟩
    rw [b1] at c0
    refine k_op Z Z Z (ev_pure b0 pf_254 Z c0) ?_
    rintro _ f9 ⟨g0,c1,d3,rfl⟩
    refine k_next c1 d3 (k_y 7 (by kernel_rfl) Z Z Z (fun _ _=>(y_min Z Z)) (k_all (is:=[8]) (by kernel_rfl) (by simp) (.cons ?_ .nil)))
    refine k_op Z Z Z (Ev.of_y2 (y_fieldAddr fo_242_2 Z)) ?_
    rintro _ _ ⟨rfl,rfl⟩
    refine k_bar (b_all (i:=9) (by kernel_rfl) (by kernel_rfl) (k_op Z Z Z (ev_store c1 Z Z Z sz_3 Z (.next _ (.next _ (.here _ _ (.nil _)))) (.hd _)) ?_))
    rintro _ g1 ⟨b2,g2⟩
    refine k_bar (b_done (by kernel_rfl) (x_draw ?_) (by kernel_rfl))
    refine x_next (c_seq (csr ((g_y (y_loadA (cs:=[.int .i64 (wI ((wI ((wI ((wI ((wI (12 * a.y)) + a.m)) - 1)) + months)).tdiv 12)),.int .i64 (wI (((wI ((wI ((wI ((wI (12 * a.y)) + a.m)) - 1)) + months)).tmod 12) + 1)),.int .i64 (min a.d a6)]) sh_242 Z ((blk_cells b2 m0).part (f:=0) (.take _ (.take _ (.take _ (.nil _)))))) Z Z ?_))))
    have c2:=dRight_c (a:=(⟨(wI ((wI ((wI ((wI ((wI (12 * a.y)) + a.m)) - 1)) + months)).tdiv 12)),(wI (((wI ((wI ((wI ((wI (12 * a.y)) + a.m)) - 1)) + months)).tmod 12) + 1)),(min a.d a6)⟩:Date)) b2.lt
    obtain ⟨g3,b3⟩:∃ r,dRight ((⟨(wI ((wI ((wI ((wI ((wI (12 * a.y)) + a.m)) - 1)) + months)).tdiv 12)),(wI (((wI ((wI ((wI ((wI (12 * a.y)) + a.m)) - 1)) + months)).tmod 12) + 1)),(min a.d a6)⟩:Date))=r:=⟨_,rfl⟩
    rw [b3] at c2
    refine g_e (ev_pure b2 pf_253 Z c2) Z Z ?_
    rintro _ g4 ⟨g5,b5,g6,rfl⟩
    refine g_y (y_not Z) Z Z (gnx ((c_cond Z (fun a4=>?_) (fun a4=>?_))))
    ·replace a4:=not_t a4
     refine csr ((g_y (y_build ze_242 pl_242 (.nil _)) Z Z (g_e (ev_store b5 Z Z Z sz_242 Z (.here _ _ (.here _ _ (.here _ _ (.nil _)))) (.tl _ (.hd _))) Z Z ?_)))
     rintro _ g7 ⟨b6,g8⟩
     refine GA Y (gnx ((c_ret ?_)))
     have d4:dMonths a months=((⟨0,0,0⟩:Date),30):=ET (BE a5) (ET (cond_t a0) (ET (IN a1) (ET (IN a2) (ET (BE b1) (ET (BE b3) (ET (cond_f a4) (rfl)))))))
     refine x_thenR (x_ret ⟨_,_,_,rfl,rfl,blk_cells b6 m1,sh_242,⟨_,_,rfl,rfl,rfl⟩⟩ ?_)
     exact ⟨_,_,rfl,b6.fr,b6.grow,by rw [d4]; exact rfl⟩
    ·replace a4:=not_f a4
     refine c_skip (x_next (csr ((g_y (y_loadA (cs:=[.int .i64 (wI ((wI ((wI ((wI ((wI (12 * a.y)) + a.m)) - 1)) + months)).tdiv 12)),.int .i64 (wI (((wI ((wI ((wI ((wI (12 * a.y)) + a.m)) - 1)) + months)).tmod 12) + 1)),.int .i64 (min a.d a6)]) sh_242 Z ((blk_cells b5 m0).part (f:=0) (.take _ (.take _ (.take _ (.nil _)))))) Z Z (g_e (ev_store b5 Z Z Z sz_242 Z (.here _ _ (.here _ _ (.here _ _ (.nil _)))) (.tl _ (.hd _))) Z Z ?_)))))
     rintro _ g9 ⟨b7,h0⟩
     refine GA Y (gnx ((c_ret ?_)))
     have d5:dMonths a months=((⟨(wI ((wI ((wI ((wI ((wI (12 * a.y)) + a.m)) - 1)) + months)).tdiv 12)),(wI (((wI ((wI ((wI ((wI (12 * a.y)) + a.m)) - 1)) + months)).tmod 12) + 1)),(min a.d a6)⟩:Date),0):=ET (BE a5) (ET (cond_t a0) (ET (IN a1) (ET (IN a2) (ET (BE b1) (ET (BE b3) (ET (cond_t a4) (rfl)))))))
     refine x_ret ⟨_,_,_,rfl,rfl,blk_cells b7 m1,sh_242,⟨_,_,rfl,rfl,rfl⟩⟩ (⟨_,_,rfl,b7.fr,b7.grow,by rw [d5]; exact rfl⟩)
def dLeaps (year:Int):Int:=
 (wI ((wI ((wI ((wI (year - 1)).tdiv 4)) - (wI ((wI (year - 1)).tdiv 100)))) + (wI ((wI (year - 1)).tdiv 400))))
theorem dLeaps_c {year:Int} {d:Dat} {w:World} (hd:∀ b,d b→b < w.heap.size):Ret Tryz.prog 256 [.int .i64 year] w [] d (fun u d' w'=>u=.int .i64 ((dLeaps year))):=by
 refine ret_enter (n:=14) Tryz.func256 Z Z (ble Z) ?_
 have hI0:=Inv.start hd
 refine csr ((GA Y (gnx ((csr ((GM Y (g_y (y_subW Z Z) Z Z (GA Y (gnx ((csr (?_)))))))))))))
 refine GM Y (g_y (y_quoW Z Z (by decide)) Z Z (GM Y (g_y (y_quoW Z Z (by decide)) Z Z (g_y (y_subW Z Z) Z Z (GM Y (g_y (y_quoW Z Z (by decide)) Z Z (g_y (y_addW Z Z) Z Z (GA Y (gnx ((c_ret ?_)))))))))))
 have hF1:dLeaps year=(wI ((wI ((wI ((wI (year - 1)).tdiv 4)) - (wI ((wI (year - 1)).tdiv 100)))) + (wI ((wI (year - 1)).tdiv 400)))):=rfl
 refine x_ret ⟨_,_,rfl,rfl,rfl⟩ (⟨_,_,rfl,hI0.fr,hI0.grow,by rw [hF1]; exact rfl⟩)
def dBefore (month:Int):Int:=
 (if (2 < month) then (wI ((wI ((wI ((wI (153 * (wI (month - 3)))) + 2)).tdiv 5)) + 59))
 else (wI (31 * (wI (month - 1)))))
theorem dBefore_c {month:Int} {d:Dat} {w:World} (hd:∀ b,d b→b < w.heap.size):Ret Tryz.prog 257 [.int .i64 month] w [] d (fun u d' w'=>u=.int .i64 ((dBefore month))):=by
 refine ret_enter (n:=14) Tryz.func257 Z Z (ble Z) ?_
 have hI0:=Inv.start hd
 refine csr ((GA Y (gnx ((c_seq (csr ((GM Y (g_y (y_gtr Z Z) Z Z (gnx ((c_cond Z (fun hc2=>?_) (fun hc2=>?_)))))))))))))
 ·replace hc2:=OT hc2
  refine csr ((GM Y (g_y (y_subW Z Z) Z Z (g_y (y_mulW Z Z) Z Z (g_y (y_addW Z Z) Z Z (g_y (y_quoW Z Z (by decide)) Z Z (g_y (y_addW Z Z) Z Z (GA Y (gnx ((c_ret ?_)))))))))))
  have hF3:dBefore month=(wI ((wI ((wI ((wI (153 * (wI (month - 3)))) + 2)).tdiv 5)) + 59)):=ET (IP hc2) (rfl)
  refine x_thenR (x_ret ⟨_,_,rfl,rfl,rfl⟩ ?_)
  exact ⟨_,_,rfl,hI0.fr,hI0.grow,by rw [hF3]; exact rfl⟩
 ·replace hc2:=OF hc2
  refine c_skip (x_next (csr ((GM Y (g_y (y_subW Z Z) Z Z (g_y (y_mulW Z Z) Z Z (GA Y (gnx ((c_ret ?_))))))))))
  have hF4:dBefore month=(wI (31 * (wI (month - 1)))):=ET (IN hc2) (rfl)
  refine x_ret ⟨_,_,rfl,rfl,rfl⟩ (⟨_,_,rfl,hI0.fr,hI0.grow,by rw [hF4]; exact rfl⟩)
def dNumber_m1 (a:Date) (a0:Int) (a1:Int) (a2:Int):Int:=
 (if (2 < a.m) then (bnd (dLeap a.y) fun a3=>
 (cond a3 ((wI ((wI ((wI ((wI ((wI ((wI ((wI (365 * (wI (a.y - 1900)))) + a0)) - a1)) + a2)) + a.d)) - 1)) + 1)))
 ((wI ((wI ((wI ((wI ((wI ((wI (365 * (wI (a.y - 1900)))) + a0)) - a1)) + a2)) + a.d)) - 1)))))
 else (wI ((wI ((wI ((wI ((wI ((wI (365 * (wI (a.y - 1900)))) + a0)) - a1)) + a2)) + a.d)) - 1)))
def dNumber (a:Date):Int × Int:=
 (bnd (dRight a) fun a0=>
 (cond a0 ((bnd (dLeaps a.y) fun a1=>
 (bnd (dLeaps 1900) fun a2=>
 (bnd (dBefore a.m) fun a3=>
 (bnd (dNumber_m1 a a1 a2 a3) fun a4=>
 (a4,0))))))
 ((0,30))))
theorem dNumber_c {a:Date} {d:Dat} {w:World} (hd:∀ b,d b→b < w.heap.size):Ret Tryz.prog 202 [.agg #[.int .i64 a.y,.int .i64 a.m,.int .i64 a.d]] w [] d (fun u d' w'=>u=.tuple #[.int .i64 ((dNumber a).1),.int .i64 ((dNumber a).2)]):=by
 refine ret_enter (n:=37) Tryz.func202 Z Z (ble Z) ?_
 have hI0:=Inv.start hd
 refine csr ((g_e (ev_box hI0 Z) Z Z ?_))
 rintro _ w1 ⟨b4,rfl,hI2,hle3⟩
 refine GA Y (GA Y (gnx ((c_seq (csr ((g_y (y_loadA (cs:=[.int .i64 a.y,.int .i64 a.m,.int .i64 a.d]) sh_242 Z ((blk_cells hI2 m0).part (f:=0) (.take _ (.take _ (.take _ (.nil _)))))) Z Z ?_)))))))
 have b7:=dRight_c (a:=a) hI2.lt
 obtain ⟨e3,a8⟩:∃ r,dRight a=r:=⟨_,rfl⟩
 rw [a8] at b7
 refine g_e (ev_pure hI2 pf_253 Z b7) Z Z ?_
 rintro _ d0 ⟨d1,a9,e4,rfl⟩
 refine g_y (y_not Z) Z Z (gnx ((c_cond Z (fun a1=>?_) (fun a1=>?_))))
 ·replace a1:=not_t a1
  refine csr ((GA Y (GA Y (gnx ((c_ret ?_))))))
  have d2:dNumber a=(0,30):=ET (BE a8) (ET (cond_f a1) (rfl))
  refine x_thenR (x_ret ⟨_,_,rfl,rfl,⟨_,_,rfl,rfl,rfl⟩⟩ ?_)
  exact ⟨_,_,rfl,a9.fr,a9.grow,by rw [d2]; exact rfl⟩
 ·replace a1:=not_f a1
  refine c_skip (x_next (c_seq ?_))
  have b0:=a9.drew; have e5:=Le.drew d1 d0
  refine c_drawK 18 follows_mixed b0 (k_y 0 (by kernel_rfl) Z Z Z (fun _ _=>(y_fieldAddr fo_242_0 Z)) (k_y 1 (by kernel_rfl) Z Z Z (fun e6 ⟨e7,d3,e8⟩=>(y_load1 sh_3 Z ((blk_cells d3 m0).nth_ (i:=0) Z))) (k_y 2 (by kernel_rfl) Z Z Z (fun _ _=>(y_subW Z Z)) (k_y 3 (by kernel_rfl) Z Z Z (fun _ _=>(y_mulW Z Z)) (k_y 4 (by kernel_rfl) Z Z Z (fun _ _=>(y_fieldAddr fo_242_0 Z)) (k_y 5 (by kernel_rfl) Z Z Z (fun e9 ⟨f0,d4,f1⟩=>(y_load1 sh_3 Z ((blk_cells d4 m0).nth_ (i:=0) Z))) (k_y 10 (by kernel_rfl) Z Z Z (fun _ _=>(y_fieldAddr fo_242_1 Z)) (k_y 11 (by kernel_rfl) Z Z Z (fun f2 ⟨f3,d5,f4⟩=>(y_load1 sh_3 Z ((blk_cells d5 m0).nth_ (i:=1) Z))) (k_y 14 (by kernel_rfl) Z Z Z (fun _ _=>(y_fieldAddr fo_242_2 Z)) (k_y 15 (by kernel_rfl) Z Z Z (fun f5 ⟨f6,d6,f7⟩=>(y_load1 sh_3 Z ((blk_cells d6 m0).nth_ (i:=2) Z))) (k_all (is:=[6]) (by kernel_rfl) (by simp) (.cons ?_ .nil))))))))))))
  have b8:=dLeaps_c (year:=a.y) b0.lt
  obtain ⟨a4,b9⟩:∃ r,dLeaps a.y=r:=⟨_,rfl⟩
  rw [b9] at b8
  refine k_op Z Z Z (ev_pure b0 pf_256 Z b8) ?_
  rintro _ f8 ⟨f9,b1,d7,rfl⟩
  refine k_next b1 d7 (k_y 7 (by kernel_rfl) Z Z Z (fun _ _=>(y_addW Z Z)) (k_all (is:=[8]) (by kernel_rfl) (by simp) (.cons ?_ .nil)))
  have c0:=dLeaps_c (year:=1900) b1.lt
  obtain ⟨a5,c1⟩:∃ r,dLeaps 1900=r:=⟨_,rfl⟩
  rw [c1] at c0
  refine k_op Z Z Z (ev_pure b1 pf_256 Z c0) ?_
  rintro _ g0 ⟨g1,b2,d8,rfl⟩
  refine k_next b2 d8 (k_y 9 (by kernel_rfl) Z Z Z (fun _ _=>(y_subW Z Z)) (k_all (is:=[12]) (by kernel_rfl) (by simp) (.cons ?_ .nil)))
  have c2:=dBefore_c (month:=a.m) b2.lt
  obtain ⟨a6,c3⟩:∃ r,dBefore a.m=r:=⟨_,rfl⟩
  rw [c3] at c2
  refine k_op Z Z Z (ev_pure b2 pf_257 Z c2) ?_
  rintro _ d9 ⟨c4,a2,e0,rfl⟩
  refine k_next a2 e0 (k_y 13 (by kernel_rfl) Z Z Z (fun _ _=>(y_addW Z Z)) (k_y 16 (by kernel_rfl) Z Z Z (fun _ _=>(y_addW Z Z)) (k_y 17 (by kernel_rfl) Z Z Z (fun _ _=>(y_subW Z Z)) (k_all (is:=[18]) (by kernel_rfl) (by simp) (.cons ?_ .nil)))))
  refine k_op Z Z Z (Ev.of_y2 (y_assign Z)) ?_
  rintro _ _ ⟨rfl,rfl⟩
  refine k_bar (b_done (by kernel_rfl) (x_draw ?_) (by kernel_rfl))
  refine x_next (c_cut (ι:=Int × Dat) (fun ⟨a3,a7⟩=>[(4,.int .i64 a3)]) (fun ⟨a3,a7⟩ b3=>Inv [] d w a7 [blk b4 242 [.int .i64 a.y,.int .i64 a.m,.int .i64 a.d]] b3∧Le c4 d9 a7 b3∧dNumber_m1 a a4 a5 a6=a3) ?_ ?_)
  ·refine csr ((gfa fo_242_1 Z Z Z (gld sh_3 Z a2 m0 (i:=1) Z Z Z (g_y (y_gtr Z Z) Z Z (GM Y (g_split (t:=29) Z (fun a0=>?_) (fun a0=>?_)))))))
   ·replace a0:=OT a0
    refine gfa fo_242_0 Z Z Z (gld sh_3 Z a2 m0 (i:=0) Z Z Z ?_)
    have c5:=dLeap_c (year:=a.y) a2.lt
    obtain ⟨g2,b5⟩:∃ r,dLeap a.y=r:=⟨_,rfl⟩
    rw [b5] at c5
    refine g_e (ev_pure a2 pf_258 Z c5) Z Z ?_
    rintro _ g3 ⟨c6,c7,c8,rfl⟩
    refine g_y (y_pickT Z Z) Z Z (gnx ((c_cond Z (fun b6=>?_) (fun b6=>?_))))
    ·skip
     refine c_region (GM Y (g_y (y_addW Z Z) Z Z (GA Y (g_nil (x_cut ((wI ((wI ((wI ((wI ((wI ((wI ((wI (365 * (wI (a.y - 1900)))) + a4)) - a5)) + a6)) + a.d)) - 1)) + 1)),c6) (.cons Z (.nil _)) ⟨c7,c8,ET (IP a0) (ET (BE b5) (ET (cond_t b6) (rfl)))⟩)))))
    ·skip
     refine c_skip (x_cut ((wI ((wI ((wI ((wI ((wI ((wI (365 * (wI (a.y - 1900)))) + a4)) - a5)) + a6)) + a.d)) - 1)),c6) (.cons Z (.nil _)) ⟨c7,c8,ET (IP a0) (ET (BE b5) (ET (cond_f b6) (rfl)))⟩)
   ·replace a0:=OF a0
    refine gsk Z Z (gsk Z Z (gsk Z Z (g_y (y_pickF Z Z) Z Z (gnx ((c_condF Z (c_skip (x_cut ((wI ((wI ((wI ((wI ((wI ((wI (365 * (wI (a.y - 1900)))) + a4)) - a5)) + a6)) + a.d)) - 1)),c4) (.cons Z (.nil _)) ⟨a2,(Le.refl _ _),ET (IN a0) (rfl)⟩))))))))
  ·rintro ⟨a3,a7⟩ b3 ⟨c9,g4,e1⟩
   refine csr ((GM Y (GA Y (GA Y (gnx ((c_ret ?_)))))))
   have e2:dNumber a=(a3,0):=ET (BE a8) (ET (cond_t a1) (ET (BE b9) (ET (BE c1) (ET (BE c3) (ET (BE e1) (rfl))))))
   refine x_ret ⟨_,_,rfl,rfl,⟨_,_,rfl,rfl,rfl⟩⟩ (⟨_,_,rfl,c9.fr,c9.grow,by rw [e2]; exact rfl⟩)
def dBetween (a:Date) (b:Date):Int × Int:=
 (bnd (dNumber a) fun a0=>
 (bnd (dNumber b) fun a1=>
 (if (a0.2≠0) then (0,30)
 else (if (a1.2≠0) then (0,30)
 else ((wI (a1.1 - a0.1)),0)))))
theorem dBetween_c {a:Date} {b:Date} {d:Dat} {w:World} (hd:∀ b,d b→b < w.heap.size):Ret Tryz.prog 203 [.agg #[.int .i64 a.y,.int .i64 a.m,.int .i64 a.d],.agg #[.int .i64 b.y,.int .i64 b.m,.int .i64 b.d]] w [] d (fun u d' w'=>u=.tuple #[.int .i64 ((dBetween a b).1),.int .i64 ((dBetween a b).2)]):=by
 refine ret_enter (n:=29) Tryz.func203 Z Z (ble Z) ?_
 have hI0:=Inv.start hd
 refine csr ((g_e (ev_box hI0 Z) Z Z ?_))
 rintro _ w1 ⟨b4,rfl,hI2,hle3⟩
 refine g_e (ev_box hI2 Z) Z Z ?_
 rintro _ w5 ⟨b8,rfl,hI6,hle7⟩
 refine GA Y (GA Y (gnx ((csr ((g_y (y_loadA (cs:=[.int .i64 a.y,.int .i64 a.m,.int .i64 a.d]) sh_242 Z ((blk_cells hI6 m1).part (f:=0) (.take _ (.take _ (.take _ (.nil _)))))) Z Z ?_))))))
 have hq9:=dNumber_c (a:=a) hI6.lt
 obtain ⟨a7,a3⟩:∃ r,dNumber a=r:=⟨_,rfl⟩
 rw [a3] at hq9
 refine g_e (ev_pure hI6 pf_202 Z hq9) Z Z ?_
 rintro _ b2 ⟨b3,a5,b5,rfl⟩
 refine GM Y (g_y (y_extract Z Z) Z Z (g_y (y_extract Z Z) Z Z (GA Y (GA Y (gnx ((csr ((g_y (y_loadA (cs:=[.int .i64 b.y,.int .i64 b.m,.int .i64 b.d]) sh_242 Z ((blk_cells a5 m0).part (f:=0) (.take _ (.take _ (.take _ (.nil _)))))) Z Z ?_)))))))))
 have a6:=dNumber_c (a:=b) a5.lt
 obtain ⟨a8,a4⟩:∃ r,dNumber b=r:=⟨_,rfl⟩
 rw [a4] at a6
 refine g_e (ev_pure a5 pf_202 Z a6) Z Z ?_
 rintro _ b6 ⟨b7,a2,b9,rfl⟩
 refine GM Y (g_y (y_extract Z Z) Z Z (g_y (y_extract Z Z) Z Z (GA Y (GA Y (gnx ((c_seq (csr ((GM Y (g_y (y_neq Z Z) Z Z (GM Y (g_split (t:=22) Z (fun a0=>?_) (fun a0=>?_))))))))))))))
 ·replace a0:=OT a0
  refine gsk Z Z (gsk Z Z (g_y (y_pickT Z Z) Z Z (gnx ((c_condT Z (csr ((GA Y (GA Y (gnx ((c_ret ?_))))))))))))
  have a9:dBetween a b=(0,30):=ET (BE a3) (ET (BE a4) (ET (IP a0) (rfl)))
  refine x_thenR (x_ret ⟨_,_,rfl,rfl,⟨_,_,rfl,rfl,rfl⟩⟩ ?_)
  exact ⟨_,_,rfl,a2.fr,a2.grow,by rw [a9]; exact rfl⟩
 ·replace a0:=OF a0
  refine GM Y (g_y (y_neq Z Z) Z Z (g_y (y_pickF Z Z) Z Z (gnx ((c_cond Z (fun a1=>?_) (fun a1=>?_))))))
  ·replace a1:=OT a1
   refine csr ((GA Y (GA Y (gnx ((c_ret ?_))))))
   have b0:dBetween a b=(0,30):=ET (BE a3) (ET (BE a4) (ET (IN a0) (ET (IP a1) (rfl))))
   refine x_thenR (x_ret ⟨_,_,rfl,rfl,⟨_,_,rfl,rfl,rfl⟩⟩ ?_)
   exact ⟨_,_,rfl,a2.fr,a2.grow,by rw [b0]; exact rfl⟩
  ·replace a1:=OF a1
   refine c_skip (x_next (csr ((GM Y (GM Y (g_y (y_subW Z Z) Z Z (GA Y (GA Y (gnx ((c_ret ?_)))))))))))
   have b1:dBetween a b=((wI (a8.1 - a7.1)),0):=ET (BE a3) (ET (BE a4) (ET (IN a0) (ET (IN a1) (rfl))))
   refine x_ret ⟨_,_,rfl,rfl,⟨_,_,rfl,rfl,rfl⟩⟩ (⟨_,_,rfl,a2.fr,a2.grow,by rw [b1]; exact rfl⟩)
end Go.Proofs.YtclblpmjamcknaaGreat
