import Derived.Test.YtclblpmjamcknaaGreatA2
import Derived.Test.YtclblpmjamcknaaGreatCore15
set_option linter.unusedVariables false
set_option linter.unusedSimpArgs false
set_option maxRecDepth 8000
set_option maxHeartbeats 1000000
namespace Go.Proofs.YtclblpmjamcknaaGreat
open Go.Sx
theorem y_stNe_Share {n:Nat} {L:Env} {w:World} {x y:Share} {X Y:Operand} {yt rt:TypeId} (hx:opv L X=some (.agg #[.int .i64 x.ee,.int .i64 x.er])) (hy:opv L Y=some (.agg #[.int .i64 y.ee,.int .i64 y.er])) :
  Yv Tryz.prog n (.binOp .neq 68 X Y yt) rt L w (.bool (decide (x≠y))):=
 y_stNe (by kernel_rfl) (by kernel_rfl) (by kernel_rfl) (sub:=[(2,0,true),(2,1,true)]) (by kernel_rfl) (xs:=[.int .i64 x.ee,.int .i64 x.er]) (ys:=[.int .i64 y.ee,.int .i64 y.er]) (.int sh_2 Tryz.underlying2 rfl rfl (.int sh_2 Tryz.underlying2 rfl rfl .nil)) ((congrArg (fun z=>!z) (by rw [Bool.eq_iff_iff]; obtain ⟨a1,a2⟩:=x; obtain ⟨b1,b2⟩:=y; simp:_=decide (x=y))).trans (by simp)) hx hy
theorem y_stEq_Bases {n:Nat} {L:Env} {w:World} {x y:Bases} {X Y:Operand} {yt rt:TypeId} (hx:opv L X=some (.agg #[.int .i64 x.cash,.int .i64 x.taxable,.int .i64 x.social])) (hy:opv L Y=some (.agg #[.int .i64 y.cash,.int .i64 y.taxable,.int .i64 y.social])) :
  Yv Tryz.prog n (.binOp .eql 47 X Y yt) rt L w (.bool (decide (x=y))):=
 y_stEq (by kernel_rfl) (by kernel_rfl) (by kernel_rfl) (sub:=[(2,0,true),(2,1,true),(2,2,true)]) (by kernel_rfl) (xs:=[.int .i64 x.cash,.int .i64 x.taxable,.int .i64 x.social]) (ys:=[.int .i64 y.cash,.int .i64 y.taxable,.int .i64 y.social]) (.int sh_2 Tryz.underlying2 rfl rfl (.int sh_2 Tryz.underlying2 rfl rfl (.int sh_2 Tryz.underlying2 rfl rfl .nil))) (by rw [Bool.eq_iff_iff]; obtain ⟨a1,a2,a3⟩:=x; obtain ⟨b1,b2,b3⟩:=y; simp) hx hy
theorem tFits_nn {t:Table} {c:Code} (h:tFits t c=0):cCheck c=0∧(0≤c.scheme∧c.scheme < t.schemes.length)∧(c.kind=3→∀ l,t.schemes[c.scheme.toNat]?=some l→0≤c.flat∧c.flat < l.length):=by
 unfold tFits at h
 simp only [bnd] at h
 by_cases h1:cCheck c=0
 ·have h2:=cCheck_nn h1
  simp only [h1,ne_eq,not_true_eq_false,if_false] at h
  by_cases h3:(t.schemes.length:Int)≤c.scheme
  ·simp [h3] at h
  ·refine ⟨h1,⟨h2.1.1,by omega⟩,?_⟩
   intro hk l hl
   refine ⟨h2.2.1.1,?_⟩
   by_cases h5:(l.length:Int)≤c.flat
   ·exfalso
    simp [h3,tFits_m1,hk,hl,opt,h5] at h
   ·omega
 ·simp [h1] at h
def bScale_l1 (n:Int) (q:Int):List Band→Nat→(List Band)→Out (List Band) ((List Band) × Int)
 | [],a3,a0=>(Out.next a0)
 | a1 :: tl1,a3,a0=>(bnd (fScale a1.frm n q) fun a2=>
 (if (a2.2≠0) then (Out.ret ((([]:List Band),a2.2)))
 else (if (0 < (a0.length:Int)) then (opt (a0)[(((a0.length:Int) - 1)).toNat]? fun a4=>
 (if (a4.frm=a2.1) then (bScale_l1 n q tl1 (a3 + 1) (((a0.take ((((a0.length:Int) - 1)).toNat)) ++ [(⟨a2.1,a1.rate,a1.emp⟩:Band)])))
 else (bScale_l1 n q tl1 (a3 + 1) ((a0 ++ [(⟨a2.1,a1.rate,a1.emp⟩:Band)])))))
 else (bScale_l1 n q tl1 (a3 + 1) ((a0 ++ [(⟨a2.1,a1.rate,a1.emp⟩:Band)]))))))
def bScale (n:Int) (q:Int) (list:(List Band)):(List Band) × Int:=
 (bnd (bCheck list) fun r6=>
 (if (r6≠0) then (([]:List Band),r6)
 else (if (n < 0) then (([]:List Band),1)
 else (if (q < 1) then (([]:List Band),1)
 else (if (q < n) then (([]:List Band),1)
 else (if (1048576 < q) then (([]:List Band),1)
 else (out (bScale_l1 n q list 0 (([]:List Band))) fun a0=>
 (a0,0))))))))
theorem bScale_c {n:Int} {q:Int} {list:(List Band)} {v_list:Value} {d:Dat} {w:World} (hd:∀ b,d b→b < w.heap.size) (h_list:Sl bandTy d w v_list list):Ret Tryz.prog 317 [.int .i64 n,.int .i64 q,v_list] w [] d (fun u d' w'=>∃ (v0:Value),u=.tuple #[v0,.int .i64 ((bScale n q list).2)]∧Sl bandTy d' w' v0 (bScale n q list).1):=by
 obtain ⟨A1,c2,rfl,hn3,hb4⟩:=h_list.fm
 refine ret_enter (n:=78) Tryz.func317 Z Z (ble Z) ?_
 have hI0:=Inv.start hd
 refine csr ((GA Y (GA Y (gnx ((c_seq (csr ((GM Y ?_)))))))))
 have hq5:=bCheck_c (list:=list) hI0.lt h_list
 obtain ⟨r6,hr7⟩:∃ r,bCheck list=r:=⟨_,rfl⟩
 rw [hr7] at hq5
 refine g_e (ev_pure hI0 pf_283 Z hq5) Z Z ?_
 rintro _ w9 ⟨d8,a5,e2,rfl⟩
 refine GA Y (gnx ((csr ((GM Y (g_y (y_neq Z Z) Z Z (gnx ((c_cond Z (fun a4=>?_) (fun a4=>?_))))))))))
 ·replace a4:=OT a4
  refine csr ((GM Y (GA Y (GA Y (gnx ((c_ret ?_)))))))
  have e3:bScale n q list=(([]:List Band),r6):=ET (BE hr7) (ET (IP a4) (rfl))
  refine x_thenR (x_ret ⟨_,_,rfl,rfl,⟨_,_,rfl,rfl,rfl⟩⟩ ?_)
  exact ⟨_,_,rfl,a5.fr,a5.grow,by rw [e3]; exact ⟨_,rfl,(Sl.nil_ _ _ _ none 0)⟩⟩
 ·replace a4:=OF a4
  refine c_skip (x_next (c_seq (csr ((GM Y (g_y (y_lss Z Z) Z Z (GM Y (g_split (t:=22) Z (fun a6=>?_) (fun a6=>?_)))))))))
  ·replace a6:=OT a6
   refine gsk Z Z (gsk Z Z (g_y (y_pickT Z Z) Z Z (GM Y (gsk Z Z (gsk Z Z (gsk Z Z (g_y (y_pickT Z Z) Z Z (GM Y (gsk Z Z (gsk Z Z (g_y (y_pickT Z Z) Z Z (gnx (?_)))))))))))))
   refine c_condT Z (csr ((GA Y (GA Y (gnx ((c_ret ?_)))))))
   have e4:bScale n q list=(([]:List Band),1):=ET (BE hr7) (ET (IN a4) (ET (IP a6) (rfl)))
   refine x_thenR (x_ret ⟨_,_,rfl,rfl,⟨_,_,rfl,rfl,rfl⟩⟩ ?_)
   exact ⟨_,_,rfl,a5.fr,a5.grow,by rw [e4]; exact ⟨_,rfl,(Sl.nil_ _ _ _ none 0)⟩⟩
  ·replace a6:=OF a6
   refine GM Y (g_y (y_lss Z Z) Z Z (g_y (y_pickF Z Z) Z Z (GM Y (g_split (t:=26) Z (fun a7=>?_) (fun a7=>?_)))))
   ·replace a7:=OT a7
    refine gsk Z Z (gsk Z Z (gsk Z Z (g_y (y_pickT Z Z) Z Z (GM Y (gsk Z Z (gsk Z Z (g_y (y_pickT Z Z) Z Z (gnx ((c_condT Z (csr ((GA Y ?_)))))))))))))
    refine GA Y (gnx ((c_ret ?_)))
    have e5:bScale n q list=(([]:List Band),1):=ET (BE hr7) (ET (IN a4) (ET (IN a6) (ET (IP a7) (rfl))))
    refine x_thenR (x_ret ⟨_,_,rfl,rfl,⟨_,_,rfl,rfl,rfl⟩⟩ ?_)
    exact ⟨_,_,rfl,a5.fr,a5.grow,by rw [e5]; exact ⟨_,rfl,(Sl.nil_ _ _ _ none 0)⟩⟩
   ·replace a7:=OF a7
    refine GM Y (GM Y (g_y (y_gtr Z Z) Z Z (g_y (y_pickF Z Z) Z Z (GM Y (g_split (t:=31) Z (fun a8=>?_) (fun a8=>?_))))))
    ·replace a8:=OT a8
     refine gsk Z Z (gsk Z Z (g_y (y_pickT Z Z) Z Z (gnx ((c_condT Z (csr ((GA Y (GA Y (gnx ((c_ret ?_))))))))))))
     have e6:bScale n q list=(([]:List Band),1):=ET (BE hr7) (ET (IN a4) (ET (IN a6) (ET (IN a7) (ET (IP a8) (rfl)))))
     refine x_thenR (x_ret ⟨_,_,rfl,rfl,⟨_,_,rfl,rfl,rfl⟩⟩ ?_)
     exact ⟨_,_,rfl,a5.fr,a5.grow,by rw [e6]; exact ⟨_,rfl,(Sl.nil_ _ _ _ none 0)⟩⟩
    ·replace a8:=OF a8
     refine GM Y (g_y (y_gtr Z Z) Z Z (g_y (y_pickF Z Z) Z Z (gnx ((c_cond Z (fun b0=>?_) (fun b0=>?_))))))
     ·replace b0:=OT b0
      refine csr ((GA Y (GA Y (gnx ((c_ret ?_))))))
      have e7:bScale n q list=(([]:List Band),1):=ET (BE hr7) (ET (IN a4) (ET (IN a6) (ET (IN a7) (ET (IN a8) (ET (IP b0) (rfl))))))
      refine x_thenR (x_ret ⟨_,_,rfl,rfl,⟨_,_,rfl,rfl,rfl⟩⟩ ?_)
      exact ⟨_,_,rfl,a5.fr,a5.grow,by rw [e7]; exact ⟨_,rfl,(Sl.nil_ _ _ _ none 0)⟩⟩
     ·replace b0:=OF b0
      refine c_skip (x_next (csr ((GA Y (gnx ((c_seq (csr ((GM Y (gln el_34 Z Z Z (GM Y (g_nil ?_)))))))))))))
      refine x_next ?_
      have e8:=nil_row bandTy 33 a5
      refine c_cut1 (ι:=List Band × Option Addr × Nat × Dat) (fun ⟨b1,c4,c5,c6⟩=>[(9,.slice c4 b1.length c5)]) (fun ⟨b1,c4,c5,c6⟩ c7=>Inv [] d w c6 [row bandTy 33 (.slice c4 b1.length c5) (b1)] c7∧Le d8 w9 c6 c7∧bScale_l1 n q list 0 (([]:List Band))=Out.next b1∧b1.length≤list.length) ?_ ?_
      ·refine c_block (c_loop (ι:=List Band × Option Addr × Nat × Nat × Dat) (fun ⟨a1,b5,b6,a2,b7⟩=>[(0,.int .i64 n),(1,.int .i64 q),(9,.slice b5 a1.length b6),(35,.slice A1 (list).length c2),(36,.int .i64 (list.length:Int)),(37,.int .i64 (a2:Int))]) (fun ⟨a1,b5,b6,a2,b7⟩ c8=>Inv [] d w b7 [row bandTy 33 (.slice b5 a1.length b6) (a1)] c8∧Le d8 w9 b7 c8∧bScale_l1 n q list 0 (([]:List Band))=bScale_l1 n q (list.drop a2) a2 a1∧a2≤list.length∧a1.length≤a2) (fun ⟨a1,b5,b6,a2,b7⟩=>list.length - a2) (([]:List Band),none,0,0,d8) (.cons Z (.cons Z (.cons Z (.cons Z (.cons Z (.cons Z (.nil _))))))) ⟨e8,Le.refl _ _,rfl,Nat.zero_le _,by simp⟩ ?_)
       rintro ⟨a1,b5,b6,a2,b7⟩ c8 ⟨c9,b8,b9,j8,j9⟩
       have e9:=row_len (c9.ok _ m0); unfold big at e9
       refine csr ((g_y (y_lss Z Z) Z Z (gnx ((c_seq (c_cond Z (fun c0=>?_) (fun c0=>?_)))))))
       ·replace c0:=OT c0
        obtain ⟨a0,c1⟩:=has (xs:=list) (k:=a2) (by omega)
        refine c_skip (x_next (c_seq (c_block (csr (?_)))))
        obtain ⟨k0,k1,k2,f0,f1,f2,k3⟩:=Sl.at_ (h_list.mono (e2.t b8)) c1
        obtain rfl:=f1
        refine g_y (y_indexAddr (i:=a2) el_34 Z f0 Z (rfl) (by omega)) Z Z (g_y (y_loadA (cs:=[.int .i64 a0.frm,.int .i64 a0.rate,.int .i64 a0.emp]) sh_33 Z (f2.part (f:=0) (.take _ (.take _ (.take _ (.nil _)))))) Z Z (g_e (ev_alloc c9 ze_33) Z Z ?_))
        rintro _ k4 ⟨k5,rfl,f3,d0⟩
        refine g_e (ev_store f3 Z Z Z sz_33 Z (.here _ _ (.here _ _ (.here _ _ (.nil _)))) (.hd _)) Z Z ?_
        rintro _ k6 ⟨d1,d2⟩
        refine gnx ((csr ((gfa fo_33_0 Z Z Z (gld sh_2 Z d1 m0 (i:=0) Z Z Z (GM Y (GM Y ?_)))))))
        have d5:=fScale_c (x:=a0.frm) (n:=n) (q:=q) d1.lt
        obtain ⟨a3,c3⟩:∃ r,fScale a0.frm n q=r:=⟨_,rfl⟩
        rw [c3] at d5
        refine g_e (ev_pure d1 pf_339 Z d5) Z Z ?_
        rintro _ k7 ⟨k8,b3,d3,rfl⟩
        refine GM Y (g_y (y_extract Z Z) Z Z (g_y (y_extract Z Z) Z Z (GA Y (GA Y (gnx ((c_seq (csr ((GM Y (g_y (y_neq Z Z) Z Z (gnx (?_)))))))))))))
        refine c_cond Z (fun a9=>?_) (fun a9=>?_)
        ·replace a9:=OT a9
         refine csr ((GM Y (GA Y (GA Y (gnx ((c_ret ?_)))))))
         have f4:bScale_l1 n q list 0 (([]:List Band))=(Out.ret ((([]:List Band),a3.2))):=b9.trans (ET (congrArg (fun l=>bScale_l1 n q l a2 a1) (drop_cons c1)) (ET (BE c3) (ET (IP a9) (rfl))))
         have f5:bScale n q list=(([]:List Band),a3.2):=ET (BE hr7) (ET (IN a4) (ET (IN a6) (ET (IN a7) (ET (IN a8) (ET (IN b0) (ET (out_ret f4) (rfl)))))))
         refine x_thenR (x_blockR (x_thenR (x_rndR (x_blockR (x_cutR (x_thenR (x_ret ⟨_,_,rfl,rfl,⟨_,_,rfl,rfl,rfl⟩⟩ ?_)))))))
         exact ⟨_,_,rfl,b3.fr,b3.grow,by rw [f5]; exact ⟨_,rfl,(Sl.nil_ _ _ _ none 0)⟩⟩
        ·replace a9:=OF a9
         refine c_skip (x_next (c_seq (csr ((GM Y (gln el_34 Z Z Z (GA Y (gnx ((csr ((GM Y (g_y (y_gtr Z Z) Z Z ?_)))))))))))))
         refine GM Y (g_split (t:=56) Z (fun b2=>?_) (fun b2=>?_))
         ·replace b2:=OT b2
          refine GM Y (GM Y (g_y (y_sub Z Z (by omega)) Z Z ?_))
          obtain ⟨k9,d4⟩:=has (xs:=a1) (k:=(((a1.length:Int) - 1)).toNat) (by omega)
          obtain ⟨l0,l1,f6,f7,f8⟩:=row_at0 (b3.ok _ m1) d4
          obtain rfl:=f7
          refine g_y (y_indexAddr (i:=(((a1.length:Int) - 1)).toNat) el_34 Z f6 Z ((Int.toNat_of_nonneg (by omega)).symm) (by omega)) Z Z (gfa fo_33_0 Z Z Z (g_y (y_load1 sh_2 Z (f8.nth_ (i:=0) Z)) Z Z (GM Y (g_y (y_eql Z Z) Z Z (g_y (y_pickT Z Z) Z Z (gnx ((c_cond Z (fun b4=>?_) (fun b4=>?_)))))))))
          ·replace b4:=OT b4
           refine c_region (GM Y (GM Y (g_y (y_sub Z Z (by omega)) Z Z ?_)))
           have f9:(a1.take ((((a1.length:Int) - 1)).toNat)).length=(((a1.length:Int) - 1)).toNat:=by rw [List.length_take]; omega
           have l2:=row_cap (b3.ok _ m1)
           have g0:=b3.rowTake (i:=((((a1.length:Int) - 1)).toNat)) (by omega) (.tl _ (.hd _))
           refine g_y (y_slice_toL (i:=(((a1.length:Int) - 1)).toNat) el_34 Z Z ((Int.toNat_of_nonneg (by omega)).symm) (by omega) f9) Z Z (GA Y (gnx ((csr ((GM Y (gfa fo_33_0 Z Z Z (g_e (ev_store g0 Z Z Z sz_2 Z (.here _ _ (.nil _)) (.hd _)) Z Z ?_))))))))
           rintro _ l3 ⟨d6,g1⟩
           refine gnx ((c_region (GM Y (g_y (y_loadA (cs:=[.int .i64 a3.1,.int .i64 a0.rate,.int .i64 a0.emp]) sh_33 Z ((blk_cells d6 m0).part (f:=0) (.take _ (.take _ (.take _ (.nil _)))))) Z Z (g_e (ev_buildSl (T:=bandTy) (xs:=[(⟨a3.1,a0.rate,a0.emp⟩:Band)]) d6 el_34 ze_33 Z Z (ble Z) (ble Z) (.cons Z Z Z Z (.here _ _ (.here _ _ (.here _ _ (.nil _)))) (ble Z) (.nil _)) (.cons (x:=(⟨a3.1,a0.rate,a0.emp⟩:Band)) (cs:=[.int .i64 a3.1,.int .i64 a0.rate,.int .i64 a0.emp]) Z .nil)) Z Z ?_)))))
           rintro _ l4 ⟨g2,g3,g4,g5,l5,rfl⟩
           refine g_e (ev_append g3 ei_34 Z Z m1 g5 (by simp only [LA,LC,LN,big] at *; omega) (by simp only [LA,LC,LN,big] at *; omega)) Z Z ?_
           rintro _ l6 ⟨g6,g7,g8,g9,rfl⟩
           have h0:=g6 _ (.tl _ (.hd _))
           refine GA Y (g_nil (x_blockN (x_next ?_)))
           refine c_region (g_y (y_add Z Z (by omega)) Z Z (GM Y (g_nil ?_)))
           have h1:=h0.drop (.hd _)
           refine x_round (((a1.take ((((a1.length:Int) - 1)).toNat)) ++ [(⟨a3.1,a0.rate,a0.emp⟩:Band)]),g8,g9,a2 + 1,g2) (by dsimp only; omega) (.cons Z (.cons Z (.cons Z (.cons Z (.cons Z (.cons Z (.nil _))))))) ⟨h1,((((((b8.t d0).t d2).t d3).t g1).t g4).t g7),b9.trans (ET (congrArg (fun l=>bScale_l1 n q l a2 a1) (drop_cons c1)) (ET (BE c3) (ET (IN a9) (ET (IP b2) (ET (opt_some d4) (ET (IP b4) (rfl))))))),by omega,by first | omega | (simp only [LA,LC,LN] at *; omega)⟩
          ·replace b4:=OF b4
           refine c_skip (x_next (csr ((GM Y (gfa fo_33_0 Z Z Z (g_e (ev_store b3 Z Z Z sz_2 Z (.here _ _ (.nil _)) (.hd _)) Z Z ?_))))))
           rintro _ l7 ⟨d7,h2⟩
           refine gnx ((c_region (GM Y (g_y (y_loadA (cs:=[.int .i64 a3.1,.int .i64 a0.rate,.int .i64 a0.emp]) sh_33 Z ((blk_cells d7 m0).part (f:=0) (.take _ (.take _ (.take _ (.nil _)))))) Z Z (g_e (ev_buildSl (T:=bandTy) (xs:=[(⟨a3.1,a0.rate,a0.emp⟩:Band)]) d7 el_34 ze_33 Z Z (ble Z) (ble Z) (.cons Z Z Z Z (.here _ _ (.here _ _ (.here _ _ (.nil _)))) (ble Z) (.nil _)) (.cons (x:=(⟨a3.1,a0.rate,a0.emp⟩:Band)) (cs:=[.int .i64 a3.1,.int .i64 a0.rate,.int .i64 a0.emp]) Z .nil)) Z Z ?_)))))
           rintro _ l8 ⟨h3,h4,h5,h6,l9,rfl⟩
           refine g_e (ev_append h4 ei_34 Z Z m1 h6 (by simp only [LA,LC,LN,big] at *; omega) (by simp only [LA,LC,LN,big] at *; omega)) Z Z ?_
           rintro _ m6 ⟨h7,h8,h9,i0,rfl⟩
           have i1:=h7 _ (.tl _ (.hd _))
           refine GA Y (g_nil (x_blockN (x_next ?_)))
           refine c_region (g_y (y_add Z Z (by omega)) Z Z (GM Y (g_nil ?_)))
           have i2:=i1.drop (.hd _)
           refine x_round ((a1 ++ [(⟨a3.1,a0.rate,a0.emp⟩:Band)]),h9,i0,a2 + 1,h3) (by dsimp only; omega) (.cons Z (.cons Z (.cons Z (.cons Z (.cons Z (.cons Z (.nil _))))))) ⟨i2,((((((b8.t d0).t d2).t d3).t h2).t h5).t h8),b9.trans (ET (congrArg (fun l=>bScale_l1 n q l a2 a1) (drop_cons c1)) (ET (BE c3) (ET (IN a9) (ET (IP b2) (ET (opt_some d4) (ET (IN b4) (rfl))))))),by omega,by first | omega | (simp only [LA,LC,LN] at *; omega)⟩
         ·replace b2:=OF b2
          refine gsk Z Z (gsk Z Z (gsk Z Z (gsk Z Z (gsk Z Z (gsk Z Z (gsk Z Z (gsk Z Z (g_y (y_pickF Z Z) Z Z (gnx ((c_condF Z (c_skip (x_next ?_)))))))))))))
          refine csr ((GM Y (gfa fo_33_0 Z Z Z (g_e (ev_store b3 Z Z Z sz_2 Z (.here _ _ (.nil _)) (.hd _)) Z Z ?_))))
          rintro _ m7 ⟨d9,i3⟩
          refine gnx ((c_region (GM Y (g_y (y_loadA (cs:=[.int .i64 a3.1,.int .i64 a0.rate,.int .i64 a0.emp]) sh_33 Z ((blk_cells d9 m0).part (f:=0) (.take _ (.take _ (.take _ (.nil _)))))) Z Z (g_e (ev_buildSl (T:=bandTy) (xs:=[(⟨a3.1,a0.rate,a0.emp⟩:Band)]) d9 el_34 ze_33 Z Z (ble Z) (ble Z) (.cons Z Z Z Z (.here _ _ (.here _ _ (.here _ _ (.nil _)))) (ble Z) (.nil _)) (.cons (x:=(⟨a3.1,a0.rate,a0.emp⟩:Band)) (cs:=[.int .i64 a3.1,.int .i64 a0.rate,.int .i64 a0.emp]) Z .nil)) Z Z ?_)))))
          rintro _ m8 ⟨i4,i5,i6,i7,m9,rfl⟩
          refine g_e (ev_append i5 ei_34 Z Z m1 i7 (by simp only [LA,LC,LN,big] at *; omega) (by simp only [LA,LC,LN,big] at *; omega)) Z Z ?_
          rintro _ n0 ⟨i8,i9,j0,j1,rfl⟩
          have j2:=i8 _ (.tl _ (.hd _))
          refine GA Y (g_nil (x_blockN (x_next ?_)))
          refine c_region (g_y (y_add Z Z (by omega)) Z Z (GM Y (g_nil ?_)))
          have j3:=j2.drop (.hd _)
          refine x_round ((a1 ++ [(⟨a3.1,a0.rate,a0.emp⟩:Band)]),j0,j1,a2 + 1,i4) (by dsimp only; omega) (.cons Z (.cons Z (.cons Z (.cons Z (.cons Z (.cons Z (.nil _))))))) ⟨j3,((((((b8.t d0).t d2).t d3).t i3).t i6).t i9),b9.trans (ET (congrArg (fun l=>bScale_l1 n q l a2 a1) (drop_cons c1)) (ET (BE c3) (ET (IN a9) (ET (IN b2) (rfl))))),by omega,by first | omega | (simp only [LA,LC,LN] at *; omega)⟩
       ·replace c0:=OF c0
        refine c_exit (x_thenE (x_rndE (x_blockE (x_cut (a1,b5,b6,b7) (.cons Z (.nil _)) ⟨c9,b8,b9.trans (ET (congrArg (fun l=>bScale_l1 n q l a2 a1) (drop_nil (by omega))) (rfl)),by first | omega | (simp only [LA,LC,LN] at *; omega)⟩))))
      ·rintro ⟨b1,c4,c5,c6⟩ c7 ⟨e0,n1,j4,n2⟩
       have j5:=row_len (e0.ok _ m0); unfold big at j5
       refine x_next (csr ((GM Y (GA Y (GA Y (gnx ((c_ret ?_))))))))
       obtain ⟨n3,e1,n4,j6⟩:=pub_row e0 (.hd _) (by simp)
       have j7:bScale n q list=(b1,0):=ET (BE hr7) (ET (IN a4) (ET (IN a6) (ET (IN a7) (ET (IN a8) (ET (IN b0) (ET (out_next j4) (rfl)))))))
       refine x_ret ⟨_,_,rfl,rfl,⟨_,_,rfl,rfl,rfl⟩⟩ (⟨_,_,rfl,e1.fr,e1.grow,by rw [j7]; exact ⟨_,rfl,j6⟩⟩)
def tExact (t:Table) (c:Code) (taxable:Int) (n:Int) (q:Int):Int × Int:=
 (bnd (tFits t c) fun a2=>
 (if (a2≠0) then (0,a2)
 else (bnd (cCharge c taxable n q) fun a0=>
 (if (a0.2≠0) then (0,a0.2)
 else (if (c.kind=4) then (0,0)
 else (if (c.kind=3) then (opt (t.schemes)[c.scheme.toNat]? fun a5=>
 (opt (a5)[c.flat.toNat]? fun a6=>
 (bnd (fPart a0.1 a6.rate) fun a3=>
 (a3.1,a3.2))))
 else (opt (t.schemes)[c.scheme.toNat]? fun a7=>
 (bnd (bScale n q a7) fun a1=>
 (if (a1.2≠0) then (0,a1.2)
 else (bnd (bExact a0.1 a1.1) fun a4=>
 (a4.1,a4.2)))))))))))
theorem tExact_c {t:Table} {cs_t:List Value} {c:Code} {taxable:Int} {n:Int} {q:Int} {d:Dat} {w:World} (hd:∀ b,d b→b < w.heap.size) (h_t:tableTy.rel d w t cs_t):Ret Tryz.prog 293 [.agg cs_t.toArray,.agg #[.int .i64 c.scheme,.int .i64 c.kind,.int .i64 c.amount,.int .i64 c.flat,.bool c.alone],.int .i64 taxable,.int .i64 n,.int .i64 q] w [] d (fun u d' w'=>u=.tuple #[.int .i64 ((tExact t c taxable n q).1),.int .i64 ((tExact t c taxable n q).2)]):=by
 obtain ⟨v1,v2,v3,rfl,hS4,hS5,hS6⟩:=h_t
 obtain ⟨A7,c8,rfl,hn9,h2⟩:=hS4.fm
 obtain ⟨d9,e0,rfl,h3,h4⟩:=hS5.fm
 obtain ⟨e1,e2,rfl,h5,h6⟩:=hS6.fm
 refine ret_enter (n:=74) Tryz.func293 Z Z (ble Z) ?_
 have hI0:=Inv.start hd
 refine csr ((g_e (ev_box hI0 Z) Z Z ?_))
 rintro _ h7 ⟨i0,rfl,e3,a8⟩
 refine g_e (ev_box e3 Z) Z Z ?_
 rintro _ i1 ⟨i2,rfl,b2,a9⟩
 refine GA Y (GA Y (gnx ((c_seq (csr ((g_y (y_loadA (cs:=[.slice A7 (t.schemes).length c8,.slice d9 (t.contribs).length e0,.slice e1 (t.kinds).length e2,.int .i64 t.limit,.int .i64 t.round]) sh_26 Z ((blk_cells b2 m1).part (f:=0) (.take _ (.take _ (.take _ (.take _ (.take _ (.nil _)))))))) Z Z (g_y (y_loadA (cs:=[.int .i64 c.scheme,.int .i64 c.kind,.int .i64 c.amount,.int .i64 c.flat,.bool c.alone]) sh_28 Z ((blk_cells b2 m0).part (f:=0) (.take _ (.take _ (.take _ (.take _ (.take _ (.nil _)))))))) Z Z ?_))))))))
 have b9:=tFits_c (t:=t) (c:=c) b2.lt (show tableTy.rel _ _ t _ from ⟨_,_,_,rfl,(hS4.mono (a8.t a9)),(hS5.mono (a8.t a9)),(hS6.mono (a8.t a9))⟩)
 obtain ⟨e4,a5⟩:∃ r,tFits t c=r:=⟨_,rfl⟩
 rw [a5] at b9
 refine g_e (ev_pure b2 pf_59 Z b9) Z Z ?_
 rintro _ i3 ⟨i4,b0,c0,rfl⟩
 refine GA Y (gnx ((csr ((GM Y (g_y (y_neq Z Z) Z Z (gnx ((c_cond Z (fun a0=>?_) (fun a0=>?_))))))))))
 ·replace a0:=OT a0
  refine csr ((GM Y (GA Y (GA Y (gnx ((c_ret ?_)))))))
  have e5:tExact t c taxable n q=(0,e4):=ET (BE a5) (ET (IP a0) (rfl))
  refine x_thenR (x_ret ⟨_,_,rfl,rfl,⟨_,_,rfl,rfl,rfl⟩⟩ ?_)
  exact ⟨_,_,rfl,b0.fr,b0.grow,by rw [e5]; exact rfl⟩
 ·replace a0:=OF a0
  refine c_skip (x_next (csr ((g_y (y_loadA (cs:=[.int .i64 c.scheme,.int .i64 c.kind,.int .i64 c.amount,.int .i64 c.flat,.bool c.alone]) sh_28 Z ((blk_cells b0 m0).part (f:=0) (.take _ (.take _ (.take _ (.take _ (.take _ (.nil _)))))))) Z Z (GM Y (GM Y (GM Y ?_)))))))
  have c1:=cCharge_c (c:=c) (taxable:=taxable) (n:=n) (q:=q) b0.lt
  obtain ⟨b1,a7⟩:∃ r,cCharge c taxable n q=r:=⟨_,rfl⟩
  rw [a7] at c1
  refine g_e (ev_pure b0 pf_315 Z c1) Z Z ?_
  rintro _ e6 ⟨e7,a1,c2,rfl⟩
  refine GM Y (g_y (y_extract Z Z) Z Z (g_y (y_extract Z Z) Z Z (GA Y (GA Y (gnx ((c_seq (csr ((GM Y (g_y (y_neq Z Z) Z Z (gnx (?_)))))))))))))
  refine c_cond Z (fun a2=>?_) (fun a2=>?_)
  ·replace a2:=OT a2
   refine csr ((GM Y (GA Y (GA Y (gnx ((c_ret ?_)))))))
   have e8:tExact t c taxable n q=(0,b1.2):=ET (BE a5) (ET (IN a0) (ET (BE a7) (ET (IP a2) (rfl))))
   refine x_thenR (x_ret ⟨_,_,rfl,rfl,⟨_,_,rfl,rfl,rfl⟩⟩ ?_)
   exact ⟨_,_,rfl,a1.fr,a1.grow,by rw [e8]; exact rfl⟩
  ·replace a2:=OF a2
   refine c_skip (x_next (c_seq (csr ((gfa fo_28_1 Z Z Z (gld sh_3 Z a1 m0 (i:=1) Z Z Z (gnx ((c_block (csr ((g_y (y_eql Z Z) Z Z (GA Y ?_)))))))))))))
   refine gnx ((c_cond Z (fun a3=>?_) (fun a3=>?_)))
   ·replace a3:=OT a3
    refine csr ((GA Y (GA Y (gnx ((c_ret ?_))))))
    have e9:tExact t c taxable n q=(0,0):=ET (BE a5) (ET (IN a0) (ET (BE a7) (ET (IN a2) (ET (IP a3) (rfl)))))
    refine x_blockR (x_thenR (x_ret ⟨_,_,rfl,rfl,⟨_,_,rfl,rfl,rfl⟩⟩ ?_))
    exact ⟨_,_,rfl,a1.fr,a1.grow,by rw [e9]; exact rfl⟩
   ·replace a3:=OF a3
    refine csr ((g_y (y_eql Z Z) Z Z (GA Y (gnx ((c_cond Z (fun a4=>?_) (fun a4=>?_)))))))
    ·replace a4:=OT a4
     refine c_seq ?_
     have b4:=a1.drew; have f0:=Le.drew e7 e6
     refine c_drawK 15 follows_mixed b4 (k_y 0 (by kernel_rfl) Z Z Z (fun _ _=>(y_move Z)) (k_y 1 (by kernel_rfl) Z Z Z (fun _ _=>(y_fieldAddr fo_26_0 Z)) (k_y 2 (by kernel_rfl) Z Z Z (fun i5 ⟨i6,f1,i7⟩=>(y_load1 sh_22 Z ((blk_cells f1 m1).nth_ (i:=0) Z))) (k_y 3 (by kernel_rfl) Z Z Z (fun _ _=>(y_fieldAddr fo_28_0 Z)) (k_y 4 (by kernel_rfl) Z Z Z (fun i8 ⟨i9,f2,j0⟩=>(y_load1 sh_3 Z ((blk_cells f2 m0).nth_ (i:=0) Z))) ?_)))))
     obtain ⟨f3,c3⟩:=has (xs:=t.schemes) (k:=c.scheme.toNat) (by first | omega | (have h9:=tFits_nn (t:=t) (c:=c) (by omega); first | omega | (have h8:=h9.2.2 (by omega) _ (by assumption); omega)))
     obtain ⟨j1,j2,j3,f4,f5,f6,f7⟩:=Sl.at_ (hS4.mono ((((a8.t a9).t c0).t c2).t f0)) c3
     obtain ⟨j4,rfl,c4⟩:=f5
     obtain ⟨j5,j6,rfl,j7,j8⟩:=c4.fm
     refine k_y 5 (by kernel_rfl) Z Z Z (fun _ _=>(y_indexAddr (i:=c.scheme.toNat) el_22 Z f4 Z ((Int.toNat_of_nonneg (by first | omega | (have h9:=tFits_nn (t:=t) (c:=c) (by omega); first | omega | (have h8:=h9.2.2 (by omega) _ (by assumption); omega)))).symm) (by first | omega | (have h9:=tFits_nn (t:=t) (c:=c) (by omega); first | omega | (have h8:=h9.2.2 (by omega) _ (by assumption); omega))))) (k_y 6 (by kernel_rfl) Z Z Z (fun j9 ⟨k0,k1,f8⟩=>(y_load1 sh_34 Z ((f6.keep ((f8).blk _ f7)).nth_ (i:=0) Z))) (k_y 7 (by kernel_rfl) Z Z Z (fun _ _=>(y_fieldAddr fo_28_3 Z)) (k_y 8 (by kernel_rfl) Z Z Z (fun k2 ⟨k3,f9,k4⟩=>(y_load1 sh_3 Z ((blk_cells f9 m0).nth_ (i:=3) Z))) ?_)))
     obtain ⟨c5,c6⟩:=has (xs:=f3) (k:=c.flat.toNat) (by first | omega | (have h9:=tFits_nn (t:=t) (c:=c) (by omega); first | omega | (have h8:=h9.2.2 (by omega) _ (by assumption); omega)))
     obtain ⟨k5,k6,k7,g0,g1,g2,g3⟩:=Sl.at_ c4 c6
     obtain rfl:=g1
     refine k_y 9 (by kernel_rfl) Z Z Z (fun _ _=>(y_indexAddr (i:=c.flat.toNat) el_34 Z g0 Z ((Int.toNat_of_nonneg (by first | omega | (have h9:=tFits_nn (t:=t) (c:=c) (by omega); first | omega | (have h8:=h9.2.2 (by omega) _ (by assumption); omega)))).symm) (by first | omega | (have h9:=tFits_nn (t:=t) (c:=c) (by omega); first | omega | (have h8:=h9.2.2 (by omega) _ (by assumption); omega))))) (k_y 10 (by kernel_rfl) Z Z Z (fun _ _=>(y_fieldAddr fo_33_1 Z)) (k_y 11 (by kernel_rfl) Z Z Z (fun k8 ⟨k9,l0,g4⟩=>(y_load1 sh_3 Z ((g2.keep ((g4).blk _ g3)).nth_ (i:=1) Z))) (k_all (is:=[12]) (by kernel_rfl) (by simp) (.cons ?_ .nil))))
     have c7:=fPart_c (x:=b1.1) (rate:=c5.rate) b4.lt
     obtain ⟨c9,d0⟩:∃ r,fPart b1.1 c5.rate=r:=⟨_,rfl⟩
     rw [d0] at c7
     refine k_op Z Z Z (ev_pure b4 pf_316 Z c7) ?_
     rintro _ l1 ⟨l2,b5,g5,rfl⟩
     refine k_next b5 g5 (k_y 13 (by kernel_rfl) Z Z Z (fun _ _=>(y_extract Z Z)) (k_y 14 (by kernel_rfl) Z Z Z (fun _ _=>(y_extract Z Z)) (k_all (is:=[15]) (by kernel_rfl) (by simp) (.cons ?_ .nil))))
     refine k_op Z Z Z (Ev.of_y2 (y_assign Z)) ?_
     rintro _ _ ⟨rfl,rfl⟩
     refine k_bar (b_all (i:=16) (by kernel_rfl) (by kernel_rfl) (k_op Z Z Z (Ev.of_y2 (y_assign Z)) ?_))
     rintro _ _ ⟨rfl,rfl⟩
     refine k_bar (b_done (by kernel_rfl) (x_draw ?_) (by kernel_rfl))
     refine x_next (c_ret ?_)
     have g6:tExact t c taxable n q=(c9.1,c9.2):=ET (BE a5) (ET (IN a0) (ET (BE a7) (ET (IN a2) (ET (IN a3) (ET (IP a4) (ET (opt_some c3) (ET (opt_some c6) (ET (BE d0) (rfl)))))))))
     refine x_blockR (x_thenR (x_ret ⟨_,_,rfl,rfl,⟨_,_,rfl,rfl,rfl⟩⟩ ?_))
     exact ⟨_,_,rfl,b5.fr,b5.grow,by rw [g6]; exact rfl⟩
    ·replace a4:=OF a4
     refine c_skip (x_blockN (x_next ?_))
     refine csr ((GM Y (GM Y (gfa fo_26_0 Z Z Z (gld sh_22 Z a1 m1 (i:=0) Z Z Z (gfa fo_28_0 Z Z Z (gld sh_3 Z a1 m0 (i:=0) Z Z Z ?_)))))))
     obtain ⟨d1,b6⟩:=has (xs:=t.schemes) (k:=c.scheme.toNat) (by first | omega | (have h9:=tFits_nn (t:=t) (c:=c) (by omega); first | omega | (have h8:=h9.2.2 (by omega) _ (by assumption); omega)))
     obtain ⟨l3,l4,l5,g7,g8,g9,l6⟩:=Sl.at_ (hS4.mono (((a8.t a9).t c0).t c2)) b6
     obtain ⟨l7,rfl,d2⟩:=g8
     obtain ⟨l8,l9,rfl,m6,m7⟩:=d2.fm
     refine g_y (y_indexAddr (i:=c.scheme.toNat) el_22 Z g7 Z ((Int.toNat_of_nonneg (by first | omega | (have h9:=tFits_nn (t:=t) (c:=c) (by omega); first | omega | (have h8:=h9.2.2 (by omega) _ (by assumption); omega)))).symm) (by first | omega | (have h9:=tFits_nn (t:=t) (c:=c) (by omega); first | omega | (have h8:=h9.2.2 (by omega) _ (by assumption); omega)))) Z Z (g_y (y_load1 sh_34 Z (g9.nth_ (i:=0) Z)) Z Z ?_)
     have d3:=bScale_c (n:=n) (q:=q) (list:=d1) a1.lt d2
     obtain ⟨b7,b8⟩:∃ r,bScale n q d1=r:=⟨_,rfl⟩
     rw [b8] at d3
     refine g_e (ev_pure a1 pf_317 Z d3) Z Z ?_
     rintro _ m8 ⟨m9,b3,n0,⟨n1,rfl,d4⟩⟩
     obtain ⟨n2,n3,rfl,n4,n5⟩:=d4.fm
     refine GM Y (g_y (y_extract Z Z) Z Z (g_y (y_extract Z Z) Z Z (GA Y (GA Y (gnx ((c_seq (csr ((GM Y (g_y (y_neq Z Z) Z Z (gnx (?_)))))))))))))
     refine c_cond Z (fun a6=>?_) (fun a6=>?_)
     ·replace a6:=OT a6
      refine csr ((GM Y (GA Y (GA Y (gnx ((c_ret ?_)))))))
      have h0:tExact t c taxable n q=(0,b7.2):=ET (BE a5) (ET (IN a0) (ET (BE a7) (ET (IN a2) (ET (IN a3) (ET (IN a4) (ET (opt_some b6) (ET (BE b8) (ET (IP a6) (rfl)))))))))
      refine x_thenR (x_ret ⟨_,_,rfl,rfl,⟨_,_,rfl,rfl,rfl⟩⟩ ?_)
      exact ⟨_,_,rfl,b3.fr,b3.grow,by rw [h0]; exact rfl⟩
     ·replace a6:=OF a6
      refine c_skip (x_next (csr ((GM Y (GM Y ?_)))))
      have d5:=bExact_c (x:=b1.1) (list:=b7.1) b3.lt d4
      obtain ⟨d6,d7⟩:∃ r,bExact b1.1 b7.1=r:=⟨_,rfl⟩
      rw [d7] at d5
      refine g_e (ev_pure b3 pf_282 Z d5) Z Z ?_
      rintro _ n6 ⟨n7,d8,n8,rfl⟩
      refine g_y (y_extract Z Z) Z Z (g_y (y_extract Z Z) Z Z (GA Y (GA Y (gnx ((c_ret ?_))))))
      have h1:tExact t c taxable n q=(d6.1,d6.2):=ET (BE a5) (ET (IN a0) (ET (BE a7) (ET (IN a2) (ET (IN a3) (ET (IN a4) (ET (opt_some b6) (ET (BE b8) (ET (IN a6) (ET (BE d7) (rfl))))))))))
      refine x_ret ⟨_,_,rfl,rfl,⟨_,_,rfl,rfl,rfl⟩⟩ (⟨_,_,rfl,d8.fr,d8.grow,by rw [h1]; exact rfl⟩)
def tDue (t:Table) (c:Code) (taxable:Int) (n:Int) (q:Int):Int × Int:=
 (bnd (tExact t c taxable n q) fun a0=>
 (if (a0.2≠0) then (0,a0.2)
 else (bnd (fCoins a0.1 t.round) fun a1=>
 (a1.1,a1.2))))
theorem tDue_c {t:Table} {cs_t:List Value} {c:Code} {taxable:Int} {n:Int} {q:Int} {d:Dat} {w:World} (hd:∀ b,d b→b < w.heap.size) (h_t:tableTy.rel d w t cs_t):Ret Tryz.prog 262 [.agg cs_t.toArray,.agg #[.int .i64 c.scheme,.int .i64 c.kind,.int .i64 c.amount,.int .i64 c.flat,.bool c.alone],.int .i64 taxable,.int .i64 n,.int .i64 q] w [] d (fun u d' w'=>u=.tuple #[.int .i64 ((tDue t c taxable n q).1),.int .i64 ((tDue t c taxable n q).2)]):=by
 obtain ⟨v1,v2,v3,rfl,hS4,hS5,hS6⟩:=h_t
 obtain ⟨A7,c8,rfl,hn9,b9⟩:=hS4.fm
 obtain ⟨b2,b3,rfl,c0,c1⟩:=hS5.fm
 obtain ⟨b4,b5,rfl,c2,c3⟩:=hS6.fm
 refine ret_enter (n:=32) Tryz.func262 Z Z (ble Z) ?_
 have hI0:=Inv.start hd
 refine csr ((g_e (ev_box hI0 Z) Z Z ?_))
 rintro _ c4 ⟨c5,rfl,b6,a3⟩
 refine g_e (ev_box b6 Z) Z Z ?_
 rintro _ c6 ⟨c7,rfl,a2,a4⟩
 refine GA Y (GA Y (gnx ((csr ((g_y (y_loadA (cs:=[.slice A7 (t.schemes).length c8,.slice b2 (t.contribs).length b3,.slice b4 (t.kinds).length b5,.int .i64 t.limit,.int .i64 t.round]) sh_26 Z ((blk_cells a2 m1).part (f:=0) (.take _ (.take _ (.take _ (.take _ (.take _ (.nil _)))))))) Z Z (g_y (y_loadA (cs:=[.int .i64 c.scheme,.int .i64 c.kind,.int .i64 c.amount,.int .i64 c.flat,.bool c.alone]) sh_28 Z ((blk_cells a2 m0).part (f:=0) (.take _ (.take _ (.take _ (.take _ (.take _ (.nil _)))))))) Z Z (GM Y (GM Y (GM Y ?_))))))))))
 have a7:=tExact_c (t:=t) (c:=c) (taxable:=taxable) (n:=n) (q:=q) a2.lt (show tableTy.rel _ _ t _ from ⟨_,_,_,rfl,(hS4.mono (a3.t a4)),(hS5.mono (a3.t a4)),(hS6.mono (a3.t a4))⟩)
 obtain ⟨a5,a6⟩:∃ r,tExact t c taxable n q=r:=⟨_,rfl⟩
 rw [a6] at a7
 refine g_e (ev_pure a2 pf_293 Z a7) Z Z ?_
 rintro _ c9 ⟨d0,a1,d1,rfl⟩
 refine GM Y (g_y (y_extract Z Z) Z Z (g_y (y_extract Z Z) Z Z (GA Y (GA Y (gnx ((c_seq (csr ((GM Y (g_y (y_neq Z Z) Z Z (gnx (?_)))))))))))))
 refine c_cond Z (fun a0=>?_) (fun a0=>?_)
 ·replace a0:=OT a0
  refine csr ((GM Y (GA Y (GA Y (gnx ((c_ret ?_)))))))
  have b7:tDue t c taxable n q=(0,a5.2):=ET (BE a6) (ET (IP a0) (rfl))
  refine x_thenR (x_ret ⟨_,_,rfl,rfl,⟨_,_,rfl,rfl,rfl⟩⟩ ?_)
  exact ⟨_,_,rfl,a1.fr,a1.grow,by rw [b7]; exact rfl⟩
 ·replace a0:=OF a0
  refine c_skip (x_next (csr ((GM Y (gfa fo_26_4 Z Z Z (gld sh_3 Z a1 m1 (i:=4) Z Z Z ?_))))))
  have a8:=fCoins_c (x:=a5.1) (mode:=t.round) a1.lt
  obtain ⟨a9,b0⟩:∃ r,fCoins a5.1 t.round=r:=⟨_,rfl⟩
  rw [b0] at a8
  refine g_e (ev_pure a1 pf_294 Z a8) Z Z ?_
  rintro _ d2 ⟨d3,b1,d4,rfl⟩
  refine g_y (y_extract Z Z) Z Z (g_y (y_extract Z Z) Z Z (GA Y (GA Y (gnx ((c_ret ?_))))))
  have b8:tDue t c taxable n q=(a9.1,a9.2):=ET (BE a6) (ET (IN a0) (ET (BE b0) (rfl)))
  refine x_ret ⟨_,_,rfl,rfl,⟨_,_,rfl,rfl,rfl⟩⟩ (⟨_,_,rfl,b1.fr,b1.grow,by rw [b8]; exact rfl⟩)
def hStep (t:Table) (s:HState) (cash:Int) (due:Int) (back:Bool):Int × HState × Int:=
 (bnd (mRight ([s.withheld,s.shortfall,cash,due])) fun a5=>
 (cond a5 ((bnd (hLimit t cash) fun a1=>
 (if (a1.2≠0) then (0,s,a1.2)
 else (bnd (mSub due s.withheld) fun a0=>
 (if (a0.2≠0) then (0,s,a0.2)
 else (bnd (hPart a0.1 a1.1 back) fun a2=>
 (bnd (mAdd s.withheld a2) fun a3=>
 (if (a3.2≠0) then (0,s,a3.2)
 else (bnd (mSub a0.1 a2) fun a4=>
 (if (a4.2≠0) then (0,s,a4.2)
 else (a2,(⟨a3.1,a4.1⟩:HState),0)))))))))))
 ((0,s,10))))
theorem hStep_c {t:Table} {cs_t:List Value} {s:HState} {cash:Int} {due:Int} {back:Bool} {d:Dat} {w:World} (hd:∀ b,d b→b < w.heap.size) (h_t:tableTy.rel d w t cs_t):Ret Tryz.prog 224 [.agg cs_t.toArray,.agg #[.int .i64 s.withheld,.int .i64 s.shortfall],.int .i64 cash,.int .i64 due,.bool back] w [] d (fun u d' w'=>u=.tuple #[.int .i64 ((hStep t s cash due back).1),.agg #[.int .i64 ((hStep t s cash due back).2.1.withheld),.int .i64 ((hStep t s cash due back).2.1.shortfall)],.int .i64 ((hStep t s cash due back).2.2)]):=by
 obtain ⟨v1,v2,v3,rfl,hS4,hS5,hS6⟩:=h_t
 obtain ⟨A7,c8,rfl,hn9,h9⟩:=hS4.fm
 obtain ⟨e7,e8,rfl,i0,i1⟩:=hS5.fm
 obtain ⟨e9,f0,rfl,i2,i3⟩:=hS6.fm
 refine ret_enter (n:=79) Tryz.func224 Z Z (ble Z) ?_
 have hI0:=Inv.start hd
 refine csr ((g_e (ev_box hI0 Z) Z Z ?_))
 rintro _ i4 ⟨i5,rfl,f1,b8⟩
 refine g_e (ev_box f1 Z) Z Z ?_
 rintro _ i6 ⟨i7,rfl,f2,b9⟩
 refine GA Y (g_e (ev_alloc f2 ze_351) Z Z ?_)
 rintro _ i8 ⟨i9,rfl,c0,c1⟩
 refine GA Y (gnx ((c_seq (csr ((gfa fo_351_0 Z Z Z (gld sh_2 Z c0 m1 (i:=0) Z Z Z (gfa fo_351_1 Z Z Z (gld sh_2 Z c0 m1 (i:=1) Z Z Z (GM Y (GM Y (g_e (ev_buildSl (T:=intTy) (xs:=[s.withheld,s.shortfall,cash,due]) c0 el_174 ze_2 Z Z (ble Z) (ble Z) (.cons Z Z Z Z (.here _ _ (.nil _)) (ble Z) (.cons Z Z Z Z (.next _ (.here _ _ (.nil _))) (ble Z) (.cons Z Z Z Z (.next _ (.next _ (.here _ _ (.nil _)))) (ble Z) (.cons Z Z Z Z (.next _ (.next _ (.next _ (.here _ _ (.nil _))))) (ble Z) (.nil _))))) (.cons (x:=s.withheld) (cs:=[.int .i64 s.withheld]) Z (.cons (x:=s.shortfall) (cs:=[.int .i64 s.shortfall]) Z (.cons (x:=cash) (cs:=[.int .i64 cash]) Z (.cons (x:=due) (cs:=[.int .i64 due]) Z .nil))))) Z Z ?_))))))))))))
 rintro _ j0 ⟨j1,d2,c2,f3,j2,rfl⟩
 have d3:=mRight_c (list:=[s.withheld,s.shortfall,cash,due]) d2.lt f3
 obtain ⟨j3,a4⟩:∃ r,mRight ([s.withheld,s.shortfall,cash,due])=r:=⟨_,rfl⟩
 rw [a4] at d3
 refine g_e (ev_pure d2 pf_117 Z d3) Z Z ?_
 rintro _ f4 ⟨f5,b0,c3,rfl⟩
 refine g_y (y_not Z) Z Z (gnx ((c_cond Z (fun a0=>?_) (fun a0=>?_))))
 ·replace a0:=not_t a0
  refine c_seq ?_
  have d4:=b0.drew; have j4:=Le.drew f5 f4
  refine c_drawK 2 follows_mixed d4 (k_y 0 (by kernel_rfl) Z Z Z (fun j5 ⟨j6,f6,j7⟩=>(y_loadA (cs:=[.int .i64 s.withheld,.int .i64 s.shortfall]) sh_351 Z ((blk_cells f6 m1).part (f:=0) (.take _ (.take _ (.nil _)))))) (k_y 1 (by kernel_rfl) Z Z Z (fun _ _=>(y_assign Z)) (k_all (is:=[2]) (by kernel_rfl) (by simp) (.cons ?_ .nil))))
  refine k_op Z Z Z (ev_store d4 Z Z Z sz_351 Z (.here _ _ (.here _ _ (.nil _))) (.hd _)) ?_
  rintro _ j8 ⟨c4,j9⟩
  refine k_bar (b_all (i:=3) (by kernel_rfl) (by kernel_rfl) (k_op Z Z Z (Ev.of_y2 (y_assign Z)) ?_))
  rintro _ _ ⟨rfl,rfl⟩
  refine k_bar (b_done (by kernel_rfl) (x_draw ?_) (by kernel_rfl))
  refine x_next (c_ret ?_)
  have f7:hStep t s cash due back=(0,s,10):=ET (BE a4) (ET (cond_f a0) (rfl))
  refine x_thenR (x_ret ⟨_,_,rfl,rfl,⟨_,_,_,rfl,rfl,blk_cells c4 m0,sh_351,⟨_,_,rfl,rfl,rfl⟩⟩⟩ ?_)
  exact ⟨_,_,rfl,c4.fr,c4.grow,by rw [f7]; exact rfl⟩
 ·replace a0:=not_f a0
  refine c_skip (x_next (csr ((g_y (y_loadA (cs:=[.slice A7 (t.schemes).length c8,.slice e7 (t.contribs).length e8,.slice e9 (t.kinds).length f0,.int .i64 t.limit,.int .i64 t.round]) sh_26 Z ((blk_cells b0 m2).part (f:=0) (.take _ (.take _ (.take _ (.take _ (.take _ (.nil _)))))))) Z Z (GM Y ?_)))))
  have d5:=hLimit_c (t:=t) (cash:=cash) b0.lt (show tableTy.rel _ _ t _ from ⟨_,_,_,rfl,(hS4.mono ((((b8.t b9).t c1).t c2).t c3)),(hS5.mono ((((b8.t b9).t c1).t c2).t c3)),(hS6.mono ((((b8.t b9).t c1).t c2).t c3))⟩)
  obtain ⟨c5,a6⟩:∃ r,hLimit t cash=r:=⟨_,rfl⟩
  rw [a6] at d5
  refine g_e (ev_pure b0 pf_269 Z d5) Z Z ?_
  rintro _ f8 ⟨f9,b1,k0,rfl⟩
  refine GM Y (g_y (y_extract Z Z) Z Z (g_y (y_extract Z Z) Z Z (GA Y (GA Y (gnx ((c_seq (csr ((GM Y (g_y (y_neq Z Z) Z Z (gnx (?_)))))))))))))
  refine c_cond Z (fun a1=>?_) (fun a1=>?_)
  ·replace a1:=OT a1
   refine c_seq ?_
   have d6:=b1.drew; have k1:=Le.drew f9 f8
   refine c_drawK 4 follows_mixed (d6.drop (.hd _)) (k_y 0 (by kernel_rfl) Z Z Z (fun k2 ⟨k3,g0,k4⟩=>(y_loadA (cs:=[.int .i64 s.withheld,.int .i64 s.shortfall]) sh_351 Z ((blk_cells g0 m0).part (f:=0) (.take _ (.take _ (.nil _)))))) (k_y 1 (by kernel_rfl) Z Z Z (fun _ _=>(y_move Z)) (k_y 2 (by kernel_rfl) Z Z Z (fun _ _=>(y_assign Z)) (k_all (is:=[3]) (by kernel_rfl) (by simp) (.cons ?_ .nil)))))
   refine k_op Z Z Z (ev_store d6 Z Z Z sz_351 Z (.here _ _ (.here _ _ (.nil _))) (.hd _)) ?_
   rintro _ k5 ⟨b2,g1⟩
   refine k_next (b2.drop (.hd _)) g1 (k_all (is:=[4]) (by kernel_rfl) (by simp) (.cons ?_ .nil))
   refine k_op Z Z Z (Ev.of_y2 (y_assign Z)) ?_
   rintro _ _ ⟨rfl,rfl⟩
   refine k_bar (b_done (by kernel_rfl) (x_draw ?_) (by kernel_rfl))
   refine x_next (c_ret ?_)
   have g2:hStep t s cash due back=(0,s,c5.2):=ET (BE a4) (ET (cond_t a0) (ET (BE a6) (ET (IP a1) (rfl))))
   refine x_thenR (x_ret ⟨_,_,rfl,rfl,⟨_,_,_,rfl,rfl,blk_cells b2 m0,sh_351,⟨_,_,rfl,rfl,rfl⟩⟩⟩ ?_)
   exact ⟨_,_,rfl,b2.fr,b2.grow,by rw [g2]; exact rfl⟩
  ·replace a1:=OF a1
   refine c_skip (x_next (csr ((GM Y (gfa fo_351_0 Z Z Z (gld sh_2 Z b1 m1 (i:=0) Z Z Z ?_))))))
   have d7:=mSub_c (a:=due) (b:=s.withheld) b1.lt
   obtain ⟨a7,a8⟩:∃ r,mSub due s.withheld=r:=⟨_,rfl⟩
   rw [a8] at d7
   refine g_e (ev_pure b1 pf_127 Z d7) Z Z ?_
   rintro _ g3 ⟨g4,c6,k6,rfl⟩
   refine GM Y (g_y (y_extract Z Z) Z Z (g_y (y_extract Z Z) Z Z (GA Y (GA Y (gnx ((c_seq (csr ((GM Y (g_y (y_neq Z Z) Z Z (gnx (?_)))))))))))))
   refine c_cond Z (fun a2=>?_) (fun a2=>?_)
   ·replace a2:=OT a2
    refine c_seq ?_
    have d8:=c6.drew; have k7:=Le.drew g4 g3
    refine c_drawK 4 follows_mixed (d8.drop (.hd _)) (k_y 0 (by kernel_rfl) Z Z Z (fun k8 ⟨k9,g5,l0⟩=>(y_loadA (cs:=[.int .i64 s.withheld,.int .i64 s.shortfall]) sh_351 Z ((blk_cells g5 m0).part (f:=0) (.take _ (.take _ (.nil _)))))) (k_y 1 (by kernel_rfl) Z Z Z (fun _ _=>(y_move Z)) (k_y 2 (by kernel_rfl) Z Z Z (fun _ _=>(y_assign Z)) (k_all (is:=[3]) (by kernel_rfl) (by simp) (.cons ?_ .nil)))))
    refine k_op Z Z Z (ev_store d8 Z Z Z sz_351 Z (.here _ _ (.here _ _ (.nil _))) (.hd _)) ?_
    rintro _ l1 ⟨b3,g6⟩
    refine k_next (b3.drop (.hd _)) g6 (k_all (is:=[4]) (by kernel_rfl) (by simp) (.cons ?_ .nil))
    refine k_op Z Z Z (Ev.of_y2 (y_assign Z)) ?_
    rintro _ _ ⟨rfl,rfl⟩
    refine k_bar (b_done (by kernel_rfl) (x_draw ?_) (by kernel_rfl))
    refine x_next (c_ret ?_)
    have g7:hStep t s cash due back=(0,s,a7.2):=ET (BE a4) (ET (cond_t a0) (ET (BE a6) (ET (IN a1) (ET (BE a8) (ET (IP a2) (rfl))))))
    refine x_thenR (x_ret ⟨_,_,rfl,rfl,⟨_,_,_,rfl,rfl,blk_cells b3 m0,sh_351,⟨_,_,rfl,rfl,rfl⟩⟩⟩ ?_)
    exact ⟨_,_,rfl,b3.fr,b3.grow,by rw [g7]; exact rfl⟩
   ·replace a2:=OF a2
    refine c_skip (x_next (csr ((GM Y (GM Y (GM Y ?_))))))
    have d9:=hPart_c (need:=a7.1) (limit:=c5.1) (back:=back) c6.lt
    obtain ⟨a9,b4⟩:∃ r,hPart a7.1 c5.1 back=r:=⟨_,rfl⟩
    rw [b4] at d9
    refine g_e (ev_pure c6 pf_270 Z d9) Z Z ?_
    rintro _ l2 ⟨l3,c7,l4,rfl⟩
    refine GA Y (gnx ((csr ((gfa fo_351_0 Z Z Z (gld sh_2 Z c7 m1 (i:=0) Z Z Z (GM Y ?_)))))))
    have e0:=mAdd_c (a:=s.withheld) (b:=a9) c7.lt
    obtain ⟨e1,b5⟩:∃ r,mAdd s.withheld a9=r:=⟨_,rfl⟩
    rw [b5] at e0
    refine g_e (ev_pure c7 pf_116 Z e0) Z Z ?_
    rintro _ g8 ⟨g9,c9,l5,rfl⟩
    refine GM Y (g_y (y_extract Z Z) Z Z (g_y (y_extract Z Z) Z Z (GA Y (GA Y (gnx ((c_seq (csr ((GM Y (g_y (y_neq Z Z) Z Z (gnx (?_)))))))))))))
    refine c_cond Z (fun a3=>?_) (fun a3=>?_)
    ·replace a3:=OT a3
     refine c_seq ?_
     have e2:=c9.drew; have l6:=Le.drew g9 g8
     refine c_drawK 4 follows_mixed (e2.drop (.hd _)) (k_y 0 (by kernel_rfl) Z Z Z (fun l7 ⟨l8,h0,l9⟩=>(y_loadA (cs:=[.int .i64 s.withheld,.int .i64 s.shortfall]) sh_351 Z ((blk_cells h0 m0).part (f:=0) (.take _ (.take _ (.nil _)))))) (k_y 1 (by kernel_rfl) Z Z Z (fun _ _=>(y_move Z)) (k_y 2 (by kernel_rfl) Z Z Z (fun _ _=>(y_assign Z)) (k_all (is:=[3]) (by kernel_rfl) (by simp) (.cons ?_ .nil)))))
     refine k_op Z Z Z (ev_store e2 Z Z Z sz_351 Z (.here _ _ (.here _ _ (.nil _))) (.hd _)) ?_
     rintro _ m6 ⟨b6,h1⟩
     refine k_next (b6.drop (.hd _)) h1 (k_all (is:=[4]) (by kernel_rfl) (by simp) (.cons ?_ .nil))
     refine k_op Z Z Z (Ev.of_y2 (y_assign Z)) ?_
     rintro _ _ ⟨rfl,rfl⟩
     refine k_bar (b_done (by kernel_rfl) (x_draw ?_) (by kernel_rfl))
     refine x_next (c_ret ?_)
     have h2:hStep t s cash due back=(0,s,e1.2):=ET (BE a4) (ET (cond_t a0) (ET (BE a6) (ET (IN a1) (ET (BE a8) (ET (IN a2) (ET (BE b4) (ET (BE b5) (ET (IP a3) (rfl)))))))))
     refine x_thenR (x_ret ⟨_,_,rfl,rfl,⟨_,_,_,rfl,rfl,blk_cells b6 m0,sh_351,⟨_,_,rfl,rfl,rfl⟩⟩⟩ ?_)
     exact ⟨_,_,rfl,b6.fr,b6.grow,by rw [h2]; exact rfl⟩
    ·replace a3:=OF a3
     refine c_skip (x_next (csr ((GM Y (GM Y ?_)))))
     have e3:=mSub_c (a:=a7.1) (b:=a9) c9.lt
     obtain ⟨e4,d0⟩:∃ r,mSub a7.1 a9=r:=⟨_,rfl⟩
     rw [d0] at e3
     refine g_e (ev_pure c9 pf_127 Z e3) Z Z ?_
     rintro _ h3 ⟨h4,e5,m7,rfl⟩
     refine GM Y (g_y (y_extract Z Z) Z Z (g_y (y_extract Z Z) Z Z (GA Y (GA Y (gnx ((c_seq (csr ((GM Y (g_y (y_neq Z Z) Z Z (gnx (?_)))))))))))))
     refine c_cond Z (fun a5=>?_) (fun a5=>?_)
     ·replace a5:=OT a5
      refine c_seq ?_
      have e6:=e5.drew; have m8:=Le.drew h4 h3
      refine c_drawK 4 follows_mixed (e6.drop (.hd _)) (k_y 0 (by kernel_rfl) Z Z Z (fun m9 ⟨n0,h5,n1⟩=>(y_loadA (cs:=[.int .i64 s.withheld,.int .i64 s.shortfall]) sh_351 Z ((blk_cells h5 m0).part (f:=0) (.take _ (.take _ (.nil _)))))) (k_y 1 (by kernel_rfl) Z Z Z (fun _ _=>(y_move Z)) (k_y 2 (by kernel_rfl) Z Z Z (fun _ _=>(y_assign Z)) (k_all (is:=[3]) (by kernel_rfl) (by simp) (.cons ?_ .nil)))))
      refine k_op Z Z Z (ev_store e6 Z Z Z sz_351 Z (.here _ _ (.here _ _ (.nil _))) (.hd _)) ?_
      rintro _ n2 ⟨b7,h6⟩
      refine k_next (b7.drop (.hd _)) h6 (k_all (is:=[4]) (by kernel_rfl) (by simp) (.cons ?_ .nil))
      refine k_op Z Z Z (Ev.of_y2 (y_assign Z)) ?_
      rintro _ _ ⟨rfl,rfl⟩
      refine k_bar (b_done (by kernel_rfl) (x_draw ?_) (by kernel_rfl))
      refine x_next (c_ret ?_)
      have h7:hStep t s cash due back=(0,s,e4.2):=ET (BE a4) (ET (cond_t a0) (ET (BE a6) (ET (IN a1) (ET (BE a8) (ET (IN a2) (ET (BE b4) (ET (BE b5) (ET (IN a3) (ET (BE d0) (ET (IP a5) (rfl)))))))))))
      refine x_thenR (x_ret ⟨_,_,rfl,rfl,⟨_,_,_,rfl,rfl,blk_cells b7 m0,sh_351,⟨_,_,rfl,rfl,rfl⟩⟩⟩ ?_)
      exact ⟨_,_,rfl,b7.fr,b7.grow,by rw [h7]; exact rfl⟩
     ·replace a5:=OF a5
      refine c_skip (x_next (csr ((GM Y (GM Y (GM Y (g_y (y_build ze_351 pl_351 (.cons Z Z Z Z (.here _ _ (.nil _)) (ble Z) (.cons Z Z Z Z (.next _ (.here _ _ (.nil _))) (ble Z) (.nil _)))) Z Z (GA Y (g_e (ev_store e5 Z Z Z sz_351 Z (.here _ _ (.here _ _ (.nil _))) (.hd _)) Z Z ?_)))))))))
      rintro _ n3 ⟨d1,n4⟩
      refine GA Y (gnx ((c_ret ?_)))
      have h8:hStep t s cash due back=(a9,(⟨e1.1,e4.1⟩:HState),0):=ET (BE a4) (ET (cond_t a0) (ET (BE a6) (ET (IN a1) (ET (BE a8) (ET (IN a2) (ET (BE b4) (ET (BE b5) (ET (IN a3) (ET (BE d0) (ET (IN a5) (rfl)))))))))))
      refine x_ret ⟨_,_,rfl,rfl,⟨_,_,_,rfl,rfl,blk_cells d1 m0,sh_351,⟨_,_,rfl,rfl,rfl⟩⟩⟩ (⟨_,_,rfl,d1.fr,d1.grow,by rw [h8]; exact rfl⟩)
def eOf (kind:ByteArray) (amount:Int):Elem:=
 (⟨kind,amount,100⟩:Elem)
theorem eOf_c {kind:ByteArray} {amount:Int} {d:Dat} {w:World} (hd:∀ b,d b→b < w.heap.size):Ret Tryz.prog 21 [.string kind,.int .i64 amount] w [] d (fun u d' w'=>u=.agg #[.string ((eOf kind amount).kind),.int .i64 ((eOf kind amount).amount),.int .i64 ((eOf kind amount).units)]):=by
 refine ret_enter (n:=8) Tryz.func21 Z Z (ble Z) ?_
 have hI0:=Inv.start hd
 refine csr ((g_e (ev_alloc hI0 ze_40) Z Z ?_))
 rintro _ w1 ⟨b4,rfl,hI2,hle3⟩
 refine gnx ((csr ((GM Y (GM Y (g_y (y_build ze_40 pl_40 (.cons Z Z Z Z (.here _ _ (.nil _)) (ble Z) (.cons Z Z Z Z (.next _ (.here _ _ (.nil _))) (ble Z) (.cons Z Z Z Z (.next _ (.next _ (.here _ _ (.nil _)))) (ble Z) (.nil _))))) Z Z (g_e (ev_store hI2 Z Z Z sz_40 Z (.here _ _ (.here _ _ (.here _ _ (.nil _)))) (.hd _)) Z Z ?_)))))))
 rintro _ w5 ⟨hI6,hle7⟩
 refine gnx ((c_ret ?_))
 have hF8:eOf kind amount=(⟨kind,amount,100⟩:Elem):=rfl
 refine x_ret ⟨_,_,_,rfl,rfl,blk_cells hI6 m0,sh_40,rfl⟩ (⟨_,_,rfl,hI6.fr,hI6.grow,by rw [hF8]; exact rfl⟩)
def clShareR (s:(List Share)):(List Share):=
 (([]:List Share) ++ s)
theorem clShareR_c {s:(List Share)} {v_s:Value} {d:Dat} {w:World} (hd:∀ b,d b→b < w.heap.size) (h_s:Sl shareTy d w v_s s):Ret Tryz.prog 125 [v_s] w [] d (fun u d' w'=>Fresh (row shareTy 68 u (clShareR s)) d' w w'):=by
 obtain ⟨A1,c2,rfl,hn3,hb4⟩:=h_s.fm
 refine ret_enter (n:=8) Tryz.func125 Z Z (ble Z) ?_
 have hI0:=Inv.start hd
 refine csr ((GA Y (gnx ((c_seq (csr ((GM Y (g_y (y_slEqNil Tryz.underlying62 Z Z) Z Z (gnx ((c_cond Z (fun hc7=>?_) (fun hc7=>?_)))))))))))))
 ·have hn8:=Sl.none_nil h_s hc7
  refine csr ((GA Y (gnx ((c_ret ?_)))))
  have hI9:=nil_row shareTy 68 hI0
  have a1:clShareR s=([]:List Share):=by rw [hn8]; rfl
  refine x_thenR (x_ret ⟨_,_,rfl,rfl,rfl⟩ ?_)
  exact ⟨_,_,rfl,hI9.fr,hI9.grow,by rw [a1]; exact hI9.fresh m0⟩
 ·skip
  refine c_skip (x_next (csr ((g_e (ev_buildRow (T:=shareTy) (xs:=([]:List Share)) hI0 el_62 ze_68 Z Z (ble Z) (ble Z) (.nil _) .nil) Z Z ?_))))
  rintro _ a6 ⟨a7,rfl,a2,a3⟩
  refine GM Y (g_e (ev_append a2 ei_62 Z Z m0 (h_s.mono a3) (by simp only [LA,LC,LN,big] at *; omega) (by simp only [LA,LC,LN,big] at *; omega)) Z Z ?_)
  rintro _ a8 ⟨a4,a9,b0,b1,rfl⟩
  have a0:=a4 _ (.hd _)
  refine GA Y (gnx ((c_ret ?_)))
  have a5:clShareR s=(([]:List Share) ++ s):=rfl
  refine x_ret ⟨_,_,rfl,rfl,rfl⟩ (⟨_,_,rfl,a0.fr,a0.grow,by rw [a5]; exact a0.fresh m0⟩)
def clShare (s:(List Share)):(List Share):=
 (([]:List Share) ++ s)
theorem clShare_c {s:(List Share)} {v_s:Value} {d:Dat} {w:World} (hd:∀ b,d b→b < w.heap.size) (h_s:Sl shareTy d w v_s s):Ret Tryz.prog 199 [v_s] w [] d (fun u d' w'=>Fresh (row shareTy 68 u (clShare s)) d' w w'):=by
 obtain ⟨A1,c2,rfl,hn3,hb4⟩:=h_s.fm
 refine ret_enter (n:=8) Tryz.func199 Z Z (ble Z) ?_
 have hI0:=Inv.start hd
 refine csr ((GA Y (gnx ((c_seq (csr ((GM Y (g_y (y_slEqNil Tryz.underlying48 Z Z) Z Z (gnx ((c_cond Z (fun hc7=>?_) (fun hc7=>?_)))))))))))))
 ·have hn8:=Sl.none_nil h_s hc7
  refine csr ((GA Y (gnx ((c_ret ?_)))))
  have hI9:=nil_row shareTy 68 hI0
  have a1:clShare s=([]:List Share):=by rw [hn8]; rfl
  refine x_thenR (x_ret ⟨_,_,rfl,rfl,rfl⟩ ?_)
  exact ⟨_,_,rfl,hI9.fr,hI9.grow,by rw [a1]; exact hI9.fresh m0⟩
 ·skip
  refine c_skip (x_next (csr ((g_e (ev_buildRow (T:=shareTy) (xs:=([]:List Share)) hI0 el_48 ze_68 Z Z (ble Z) (ble Z) (.nil _) .nil) Z Z ?_))))
  rintro _ a6 ⟨a7,rfl,a2,a3⟩
  refine GM Y (g_e (ev_append a2 ei_48 Z Z m0 (h_s.mono a3) (by simp only [LA,LC,LN,big] at *; omega) (by simp only [LA,LC,LN,big] at *; omega)) Z Z ?_)
  rintro _ a8 ⟨a4,a9,b0,b1,rfl⟩
  have a0:=a4 _ (.hd _)
  refine GA Y (gnx ((c_ret ?_)))
  have a5:clShare s=(([]:List Share) ++ s):=rfl
  refine x_ret ⟨_,_,rfl,rfl,rfl⟩ (⟨_,_,rfl,a0.fr,a0.grow,by rw [a5]; exact a0.fresh m0⟩)
def clTaken (s:(List Taken)):(List Taken):=
 (([]:List Taken) ++ s)
theorem clTaken_c {s:(List Taken)} {v_s:Value} {d:Dat} {w:World} (hd:∀ b,d b→b < w.heap.size) (h_s:Sl takenTy d w v_s s):Ret Tryz.prog 193 [v_s] w [] d (fun u d' w'=>Fresh (row takenTy 236 u (clTaken s)) d' w w'):=by
 obtain ⟨A1,c2,rfl,hn3,hb4⟩:=h_s.fm
 refine ret_enter (n:=8) Tryz.func193 Z Z (ble Z) ?_
 have hI0:=Inv.start hd
 refine csr ((GA Y (gnx ((c_seq (csr ((GM Y (g_y (y_slEqNil Tryz.underlying49 Z Z) Z Z (gnx ((c_cond Z (fun hc7=>?_) (fun hc7=>?_)))))))))))))
 ·have hn8:=Sl.none_nil h_s hc7
  refine csr ((GA Y (gnx ((c_ret ?_)))))
  have hI9:=nil_row takenTy 236 hI0
  have a1:clTaken s=([]:List Taken):=by rw [hn8]; rfl
  refine x_thenR (x_ret ⟨_,_,rfl,rfl,rfl⟩ ?_)
  exact ⟨_,_,rfl,hI9.fr,hI9.grow,by rw [a1]; exact hI9.fresh m0⟩
 ·skip
  refine c_skip (x_next (csr ((g_e (ev_buildRow (T:=takenTy) (xs:=([]:List Taken)) hI0 el_49 ze_236 Z Z (ble Z) (ble Z) (.nil _) .nil) Z Z ?_))))
  rintro _ a6 ⟨a7,rfl,a2,a3⟩
  refine GM Y (g_e (ev_append a2 ei_49 Z Z m0 (h_s.mono a3) (by simp only [LA,LC,LN,big] at *; omega) (by simp only [LA,LC,LN,big] at *; omega)) Z Z ?_)
  rintro _ a8 ⟨a4,a9,b0,b1,rfl⟩
  have a0:=a4 _ (.hd _)
  refine GA Y (gnx ((c_ret ?_)))
  have a5:clTaken s=(([]:List Taken) ++ s):=rfl
  refine x_ret ⟨_,_,rfl,rfl,rfl⟩ (⟨_,_,rfl,a0.fr,a0.grow,by rw [a5]; exact a0.fresh m0⟩)
def clElem (s:(List Elem)):(List Elem):=
 (([]:List Elem) ++ s)
theorem clElem_c {s:(List Elem)} {v_s:Value} {d:Dat} {w:World} (hd:∀ b,d b→b < w.heap.size) (h_s:Sl elemTy d w v_s s):Ret Tryz.prog 136 [v_s] w [] d (fun u d' w'=>Fresh (row elemTy 40 u (clElem s)) d' w w'):=by
 obtain ⟨A1,c2,rfl,hn3,hb4⟩:=h_s.fm
 refine ret_enter (n:=8) Tryz.func136 Z Z (ble Z) ?_
 have hI0:=Inv.start hd
 refine csr ((GA Y (gnx ((c_seq (csr ((GM Y (g_y (y_slEqNil Tryz.underlying43 Z Z) Z Z (gnx ((c_cond Z (fun hc7=>?_) (fun hc7=>?_)))))))))))))
 ·have hn8:=Sl.none_nil h_s hc7
  refine csr ((GA Y (gnx ((c_ret ?_)))))
  have hI9:=nil_row elemTy 40 hI0
  have a1:clElem s=([]:List Elem):=by rw [hn8]; rfl
  refine x_thenR (x_ret ⟨_,_,rfl,rfl,rfl⟩ ?_)
  exact ⟨_,_,rfl,hI9.fr,hI9.grow,by rw [a1]; exact hI9.fresh m0⟩
 ·skip
  refine c_skip (x_next (csr ((g_e (ev_buildRow (T:=elemTy) (xs:=([]:List Elem)) hI0 el_43 ze_40 Z Z (ble Z) (ble Z) (.nil _) .nil) Z Z ?_))))
  rintro _ a6 ⟨a7,rfl,a2,a3⟩
  refine GM Y (g_e (ev_append a2 ei_43 Z Z m0 (h_s.mono a3) (by simp only [LA,LC,LN,big] at *; omega) (by simp only [LA,LC,LN,big] at *; omega)) Z Z ?_)
  rintro _ a8 ⟨a4,a9,b0,b1,rfl⟩
  have a0:=a4 _ (.hd _)
  refine GA Y (gnx ((c_ret ?_)))
  have a5:clElem s=(([]:List Elem) ++ s):=rfl
  refine x_ret ⟨_,_,rfl,rfl,rfl⟩ (⟨_,_,rfl,a0.fr,a0.grow,by rw [a5]; exact a0.fresh m0⟩)
def clInput (s:(List Input)):(List Input):=
 (([]:List Input) ++ s)
theorem clInput_c {s:(List Input)} {v_s:Value} {d:Dat} {w:World} (hd:∀ b,d b→b < w.heap.size) (h_s:Sl inputTy d w v_s s):Ret Tryz.prog 156 [v_s] w [] d (fun u d' w'=>Fresh (row inputTy 112 u (clInput s)) d' w w'):=by
 obtain ⟨A1,c2,rfl,hn3,hb4⟩:=h_s.fm
 refine ret_enter (n:=8) Tryz.func156 Z Z (ble Z) ?_
 have hI0:=Inv.start hd
 refine csr ((GA Y (gnx ((c_seq (csr ((GM Y (g_y (y_slEqNil Tryz.underlying79 Z Z) Z Z (gnx ((c_cond Z (fun hc7=>?_) (fun hc7=>?_)))))))))))))
 ·have hn8:=Sl.none_nil h_s hc7
  refine csr ((GA Y (gnx ((c_ret ?_)))))
  have hI9:=nil_row inputTy 112 hI0
  have a1:clInput s=([]:List Input):=by rw [hn8]; rfl
  refine x_thenR (x_ret ⟨_,_,rfl,rfl,rfl⟩ ?_)
  exact ⟨_,_,rfl,hI9.fr,hI9.grow,by rw [a1]; exact hI9.fresh m0⟩
 ·skip
  refine c_skip (x_next (csr ((g_e (ev_buildRow (T:=inputTy) (xs:=([]:List Input)) hI0 el_79 ze_112 Z Z (ble Z) (ble Z) (.nil _) .nil) Z Z ?_))))
  rintro _ a6 ⟨a7,rfl,a2,a3⟩
  refine GM Y (g_e (ev_append a2 ei_79 Z Z m0 (h_s.mono a3) (by simp only [LA,LC,LN,big] at *; omega) (by simp only [LA,LC,LN,big] at *; omega)) Z Z ?_)
  rintro _ a8 ⟨a4,a9,b0,b1,rfl⟩
  have a0:=a4 _ (.hd _)
  refine GA Y (gnx ((c_ret ?_)))
  have a5:clInput s=(([]:List Input) ++ s):=rfl
  refine x_ret ⟨_,_,rfl,rfl,rfl⟩ (⟨_,_,rfl,a0.fr,a0.grow,by rw [a5]; exact a0.fresh m0⟩)
def clState (s:(List OState)):(List OState):=
 (([]:List OState) ++ s)
theorem clState_c {s:(List OState)} {v_s:Value} {d:Dat} {w:World} (hd:∀ b,d b→b < w.heap.size) (h_s:Sl oStateTy d w v_s s):Ret Tryz.prog 189 [v_s] w [] d (fun u d' w'=>Fresh (row oStateTy 260 u (clState s)) d' w w'):=by
 obtain ⟨A1,c2,rfl,hn3,hb4⟩:=h_s.fm
 refine ret_enter (n:=8) Tryz.func189 Z Z (ble Z) ?_
 have hI0:=Inv.start hd
 refine csr ((GA Y (gnx ((c_seq (csr ((GM Y (g_y (y_slEqNil Tryz.underlying257 Z Z) Z Z (gnx ((c_cond Z (fun hc7=>?_) (fun hc7=>?_)))))))))))))
 ·have hn8:=Sl.none_nil h_s hc7
  refine csr ((GA Y (gnx ((c_ret ?_)))))
  have hI9:=nil_row oStateTy 260 hI0
  have a1:clState s=([]:List OState):=by rw [hn8]; rfl
  refine x_thenR (x_ret ⟨_,_,rfl,rfl,rfl⟩ ?_)
  exact ⟨_,_,rfl,hI9.fr,hI9.grow,by rw [a1]; exact hI9.fresh m0⟩
 ·skip
  refine c_skip (x_next (csr ((g_e (ev_buildRow (T:=oStateTy) (xs:=([]:List OState)) hI0 el_257 ze_260 Z Z (ble Z) (ble Z) (.nil _) .nil) Z Z ?_))))
  rintro _ a6 ⟨a7,rfl,a2,a3⟩
  refine GM Y (g_e (ev_append a2 ei_257 Z Z m0 (h_s.mono a3) (by simp only [LA,LC,LN,big] at *; omega) (by simp only [LA,LC,LN,big] at *; omega)) Z Z ?_)
  rintro _ a8 ⟨a4,a9,b0,b1,rfl⟩
  have a0:=a4 _ (.hd _)
  refine GA Y (gnx ((c_ret ?_)))
  have a5:clState s=(([]:List OState) ++ s):=rfl
  refine x_ret ⟨_,_,rfl,rfl,rfl⟩ (⟨_,_,rfl,a0.fr,a0.grow,by rw [a5]; exact a0.fresh m0⟩)
def clContrib (s:(List Contrib)):(List Contrib):=
 (([]:List Contrib) ++ s)
theorem clContrib_c {s:(List Contrib)} {v_s:Value} {d:Dat} {w:World} (hd:∀ b,d b→b < w.heap.size) (h_s:Sl contribTy d w v_s s):Ret Tryz.prog 210 [v_s] w [] d (fun u d' w'=>Fresh (row contribTy 70 u (clContrib s)) d' w w'):=by
 obtain ⟨A1,c2,rfl,hn3,hb4⟩:=h_s.fm
 refine ret_enter (n:=8) Tryz.func210 Z Z (ble Z) ?_
 have hI0:=Inv.start hd
 refine csr ((GA Y (gnx ((c_seq (csr ((GM Y (g_y (y_slEqNil Tryz.underlying23 Z Z) Z Z (gnx ((c_cond Z (fun hc7=>?_) (fun hc7=>?_)))))))))))))
 ·have hn8:=Sl.none_nil h_s hc7
  refine csr ((GA Y (gnx ((c_ret ?_)))))
  have hI9:=nil_row contribTy 70 hI0
  have a1:clContrib s=([]:List Contrib):=by rw [hn8]; rfl
  refine x_thenR (x_ret ⟨_,_,rfl,rfl,rfl⟩ ?_)
  exact ⟨_,_,rfl,hI9.fr,hI9.grow,by rw [a1]; exact hI9.fresh m0⟩
 ·skip
  refine c_skip (x_next (csr ((g_e (ev_buildRow (T:=contribTy) (xs:=([]:List Contrib)) hI0 el_23 ze_70 Z Z (ble Z) (ble Z) (.nil _) .nil) Z Z ?_))))
  rintro _ a6 ⟨a7,rfl,a2,a3⟩
  refine GM Y (g_e (ev_append a2 ei_23 Z Z m0 (h_s.mono a3) (by simp only [LA,LC,LN,big] at *; omega) (by simp only [LA,LC,LN,big] at *; omega)) Z Z ?_)
  rintro _ a8 ⟨a4,a9,b0,b1,rfl⟩
  have a0:=a4 _ (.hd _)
  refine GA Y (gnx ((c_ret ?_)))
  have a5:clContrib s=(([]:List Contrib) ++ s):=rfl
  refine x_ret ⟨_,_,rfl,rfl,rfl⟩ (⟨_,_,rfl,a0.fr,a0.grow,by rw [a5]; exact a0.fresh m0⟩)
def clKind (s:(List Kind)):(List Kind):=
 (([]:List Kind) ++ s)
theorem clKind_c {s:(List Kind)} {v_s:Value} {d:Dat} {w:World} (hd:∀ b,d b→b < w.heap.size) (h_s:Sl kindTy d w v_s s):Ret Tryz.prog 211 [v_s] w [] d (fun u d' w'=>Fresh (row kindTy 36 u (clKind s)) d' w w'):=by
 obtain ⟨A1,c2,rfl,hn3,hb4⟩:=h_s.fm
 refine ret_enter (n:=8) Tryz.func211 Z Z (ble Z) ?_
 have hI0:=Inv.start hd
 refine csr ((GA Y (gnx ((c_seq (csr ((GM Y (g_y (y_slEqNil Tryz.underlying24 Z Z) Z Z (gnx ((c_cond Z (fun hc7=>?_) (fun hc7=>?_)))))))))))))
 ·have hn8:=Sl.none_nil h_s hc7
  refine csr ((GA Y (gnx ((c_ret ?_)))))
  have hI9:=nil_row kindTy 36 hI0
  have a1:clKind s=([]:List Kind):=by rw [hn8]; rfl
  refine x_thenR (x_ret ⟨_,_,rfl,rfl,rfl⟩ ?_)
  exact ⟨_,_,rfl,hI9.fr,hI9.grow,by rw [a1]; exact hI9.fresh m0⟩
 ·skip
  refine c_skip (x_next (csr ((g_e (ev_buildRow (T:=kindTy) (xs:=([]:List Kind)) hI0 el_24 ze_36 Z Z (ble Z) (ble Z) (.nil _) .nil) Z Z ?_))))
  rintro _ a6 ⟨a7,rfl,a2,a3⟩
  refine GM Y (g_e (ev_append a2 ei_24 Z Z m0 (h_s.mono a3) (by simp only [LA,LC,LN,big] at *; omega) (by simp only [LA,LC,LN,big] at *; omega)) Z Z ?_)
  rintro _ a8 ⟨a4,a9,b0,b1,rfl⟩
  have a0:=a4 _ (.hd _)
  refine GA Y (gnx ((c_ret ?_)))
  have a5:clKind s=(([]:List Kind) ++ s):=rfl
  refine x_ret ⟨_,_,rfl,rfl,rfl⟩ (⟨_,_,rfl,a0.fr,a0.grow,by rw [a5]; exact a0.fresh m0⟩)
def clInt (s:(List Int)):(List Int):=
 (([]:List Int) ++ s)
theorem clInt_c {s:(List Int)} {v_s:Value} {d:Dat} {w:World} (hd:∀ b,d b→b < w.heap.size) (h_s:Sl intTy d w v_s s):Ret Tryz.prog 295 [v_s] w [] d (fun u d' w'=>Fresh (row intTy 2 u (clInt s)) d' w w'):=by
 obtain ⟨A1,c2,rfl,hn3,hb4⟩:=h_s.fm
 refine ret_enter (n:=8) Tryz.func295 Z Z (ble Z) ?_
 have hI0:=Inv.start hd
 refine csr ((GA Y (gnx ((c_seq (csr ((GM Y (g_y (y_slEqNil Tryz.underlying174 Z Z) Z Z (gnx ((c_cond Z (fun hc7=>?_) (fun hc7=>?_)))))))))))))
 ·have hn8:=Sl.none_nil h_s hc7
  refine csr ((GA Y (gnx ((c_ret ?_)))))
  have hI9:=nil_row intTy 2 hI0
  have a1:clInt s=([]:List Int):=by rw [hn8]; rfl
  refine x_thenR (x_ret ⟨_,_,rfl,rfl,rfl⟩ ?_)
  exact ⟨_,_,rfl,hI9.fr,hI9.grow,by rw [a1]; exact hI9.fresh m0⟩
 ·skip
  refine c_skip (x_next (csr ((g_e (ev_buildRow (T:=intTy) (xs:=([]:List Int)) hI0 el_174 ze_2 Z Z (ble Z) (ble Z) (.nil _) .nil) Z Z ?_))))
  rintro _ a6 ⟨a7,rfl,a2,a3⟩
  refine GM Y (g_e (ev_append a2 ei_174 Z Z m0 (h_s.mono a3) (by simp only [LA,LC,LN,big] at *; omega) (by simp only [LA,LC,LN,big] at *; omega)) Z Z ?_)
  rintro _ a8 ⟨a4,a9,b0,b1,rfl⟩
  have a0:=a4 _ (.hd _)
  refine GA Y (gnx ((c_ret ?_)))
  have a5:clInt s=(([]:List Int) ++ s):=rfl
  refine x_ret ⟨_,_,rfl,rfl,rfl⟩ (⟨_,_,rfl,a0.fr,a0.grow,by rw [a5]; exact a0.fresh m0⟩)
theorem clShareR_eq {s:List Share}:clShareR s=s:=by
 unfold clShareR
 simp [bnd]
theorem clShare_eq {s:List Share}:clShare s=s:=by
 unfold clShare
 simp [bnd]
theorem clTaken_eq {s:List Taken}:clTaken s=s:=by
 unfold clTaken
 simp [bnd]
theorem clElem_eq {s:List Elem}:clElem s=s:=by
 unfold clElem
 simp [bnd]
theorem clInput_eq {s:List Input}:clInput s=s:=by
 unfold clInput
 simp [bnd]
theorem clState_eq {s:List OState}:clState s=s:=by
 unfold clState
 simp [bnd]
theorem clContrib_eq {s:List Contrib}:clContrib s=s:=by
 unfold clContrib
 simp [bnd]
theorem clKind_eq {s:List Kind}:clKind s=s:=by
 unfold clKind
 simp [bnd]
theorem clInt_eq {s:List Int}:clInt s=s:=by
 unfold clInt
 simp [bnd]
def tClone_l1:List (List Band)→Nat→(List (List Band))→List (List Band)
 | [],a1,a0=>a0
 | a2 :: tl1,a1,a0=>(bnd (clBand a2) fun a3=>
 (tClone_l1 tl1 (a1 + 1) ((a0 ++ [a3]))))
def tClone_l2:List Contrib→Nat→(List Contrib)→List Contrib
 | [],a1,a2=>a2
 | a4 :: tl2,a1,a2=>(opt (a2)[a1]? fun a0=>
 (bnd (clBand a0.bands) fun a3=>
 (tClone_l2 tl2 (a1 + 1) ((a2.set a1 ((⟨a0.name,a0.base,a3,a0.pceil,a0.yceil,a0.round⟩:Contrib)))))))
def tClone (t:Table):Table:=
 (bnd (clContrib t.contribs) fun a0=>
 (bnd (clKind t.kinds) fun a1=>
 (bnd (tClone_l1 t.schemes 0 (([]:List (List Band)))) fun a2=>
 (bnd (tClone_l2 a0 0 a0) fun a3=>
 (⟨a2,a3,a1,t.limit,t.round⟩:Table)))))
theorem tClone_c {t:Table} {cs_t:List Value} {d:Dat} {w:World} (hd:∀ b,d b→b < w.heap.size) (h_t:tableTy.rel d w t cs_t):Ret Tryz.prog 142 [.agg cs_t.toArray] w [] d (fun u d' w'=>∃ (cs0:List Value),u=.agg cs0.toArray∧tableTy.rel d' w' (tClone t) cs0):=by
 obtain ⟨v1,v2,v3,rfl,hS4,hS5,hS6⟩:=h_t
 obtain ⟨A7,c8,rfl,hn9,q2⟩:=hS4.fm
 obtain ⟨c2,c3,rfl,q3,q4⟩:=hS5.fm
 obtain ⟨c4,c5,rfl,q5,q6⟩:=hS6.fm
 refine ret_enter (n:=52) Tryz.func142 Z Z (ble Z) ?_
 have hI0:=Inv.start hd
 refine csr ((g_e (ev_box hI0 Z) Z Z ?_))
 rintro _ q7 ⟨d2,rfl,j3,d9⟩
 refine g_e (ev_alloc j3 ze_26) Z Z ?_
 rintro _ q8 ⟨b4,rfl,g1,e0⟩
 refine gnx ((csr ((g_y (y_loadA (cs:=[.slice A7 (t.schemes).length c8,.slice c2 (t.contribs).length c3,.slice c4 (t.kinds).length c5,.int .i64 t.limit,.int .i64 t.round]) sh_26 Z ((blk_cells g1 m1).part (f:=0) (.take _ (.take _ (.take _ (.take _ (.take _ (.nil _)))))))) Z Z (g_e (ev_alloc g1 ze_26) Z Z ?_)))))
 rintro _ q9 ⟨b5,rfl,j4,e1⟩
 refine g_e (ev_store j4 Z Z Z sz_26 Z (.here _ _ (.here _ _ (.here _ _ (.here _ _ (.here _ _ (.nil _)))))) (.hd _)) Z Z ?_
 rintro _ j5 ⟨j6,e2⟩
 refine gnx ((c_seq ?_))
 have e3:=j6.drew; have e4:=Le.drew d j5
 refine c_drawK 10 follows_mixed (e3.drop (.hd _)) (k_y 0 (by kernel_rfl) Z Z Z (fun _ _=>(y_fieldAddr fo_26_1 Z)) (k_y 1 (by kernel_rfl) Z Z Z (fun r0 ⟨r1,j7,r2⟩=>(y_load1 sh_23 Z ((blk_cells j7 m1).nth_ (i:=1) Z))) (k_y 3 (by kernel_rfl) Z Z Z (fun _ _=>(y_fieldAddr fo_26_2 Z)) (k_y 4 (by kernel_rfl) Z Z Z (fun r3 ⟨r4,j8,r5⟩=>(y_load1 sh_24 Z ((blk_cells j8 m1).nth_ (i:=2) Z))) (k_y 6 (by kernel_rfl) Z Z Z (fun _ _=>(y_fieldAddr fo_26_0 Z)) (k_all (is:=[2]) (by kernel_rfl) (by simp) (.cons ?_ .nil)))))))
 have g2:=clContrib_c (s:=t.contribs) e3.lt (hS5.mono ((((d9.t e0).t e1).t e2).t e4))
 obtain ⟨a0,e5⟩:∃ r,clContrib t.contribs=r:=⟨_,rfl⟩
 rw [e5] at g2
 have h8r188:a0.length=t.contribs.length:=by rw [← e5,clContrib_eq]
 refine k_op Z Z Z (ev_row e3 pf_210 Z g2) ?_
 rintro _ r6 ⟨r7,a8,a9,rfl,d3,e6⟩
 have j9:=row_len (d3.ok _ m0); unfold big at j9
 refine k_next ((d3.drop (.hd _)).drop (.hd _)) e6 (k_all (is:=[5]) (by kernel_rfl) (by simp) (.cons ?_ .nil))
 have g3:=clKind_c (s:=t.kinds) d3.lt (hS6.mono (((((d9.t e0).t e1).t e2).t e4).t e6))
 obtain ⟨a3,e7⟩:∃ r,clKind t.kinds=r:=⟨_,rfl⟩
 rw [e7] at g3
 have h8r198:a3.length=t.kinds.length:=by rw [← e7,clKind_eq]
 refine k_op Z Z Z (ev_row d3 pf_211 Z g3) ?_
 rintro _ r8 ⟨e8,b0,b1,rfl,e9,g4⟩
 have k0:=row_len (e9.ok _ m0); unfold big at k0
 refine k_next (((e9.drop (.hd _)).drop (.hd _)).drop (.hd _)) g4 (k_all (is:=[7]) (by kernel_rfl) (by simp) (.cons ?_ .nil))
 refine k_op Z Z Z (ev_store e9 Z Z Z sz_22 Z (.here _ _ (.nil _)) (.tl _ (.tl _ (.hd _)))) ?_
 rintro _ r9 ⟨g5,g6⟩
 refine k_next (((g5.drop (.hd _)).drop (.hd _)).drop (.hd _)) g6 (k_y 8 (by kernel_rfl) Z Z Z (fun _ _=>(y_fieldAddr fo_26_1 Z)) (k_all (is:=[9]) (by kernel_rfl) (by simp) (.cons ?_ .nil)))
 refine k_op Z Z Z (ev_store g5 Z Z Z sz_23 Z (.next _ (.here _ _ (.nil _))) (.tl _ (.tl _ (.hd _)))) ?_
 rintro _ s0 ⟨g7,g8⟩
 refine k_next (((g7.drop (.hd _)).drop (.hd _)).drop (.hd _)) g8 (k_all (is:=[10]) (by kernel_rfl) (by simp) (.cons ?_ .nil))
 refine k_op Z Z Z (Ev.of_y2 (y_fieldAddr fo_26_2 Z)) ?_
 rintro _ _ ⟨rfl,rfl⟩
 refine k_bar (b_all (i:=11) (by kernel_rfl) (by kernel_rfl) (k_op Z Z Z (ev_store g7 Z Z Z sz_24 Z (.next _ (.next _ (.here _ _ (.nil _)))) (.tl _ (.tl _ (.hd _)))) ?_))
 rintro _ g9 ⟨h0,k1⟩
 refine k_bar (b_done (by kernel_rfl) (x_draw ?_) (by kernel_rfl))
 refine x_next (c_seq (csr ((gfa fo_26_0 Z Z Z (gld sh_22 Z h0 m4 (i:=0) Z Z Z (gln el_22 Z Z Z (GM Y (gnx (?_)))))))))
 have k2:=nil_row (Ty.slice bandTy) 34 h0
 refine c_cut1 (ι:=List (List Band) × Option Addr × Nat × Dat) (fun ⟨a4,b2,b3,b6⟩=>[(2,.pointer (some ⟨b4,0,none⟩)),(3,.pointer (some ⟨b5,0,none⟩))]) (fun ⟨a4,b2,b3,b6⟩ c6=>Inv [] d w b6 [row (Ty.slice bandTy) 34 (.slice b2 a4.length b3) (a4),row kindTy 36 (.slice b0 a3.length b1) (a3),row contribTy 70 (.slice a8 a0.length a9) (a0),blk b5 26 [.slice b2 a4.length b3,.slice a8 a0.length a9,.slice b0 a3.length b1,.int .i64 t.limit,.int .i64 t.round],blk b4 26 [.slice none 0 0,.slice none 0 0,.slice none 0 0,.int .i64 0,.int .i64 0],blk d2 26 [.slice A7 (t.schemes).length c8,.slice c2 (t.contribs).length c3,.slice c4 (t.kinds).length c5,.int .i64 t.limit,.int .i64 t.round]] c6∧Le e8 g9 b6 c6∧tClone_l1 t.schemes 0 (([]:List (List Band)))=a4∧a4.length≤t.schemes.length) ?_ ?_
 ·refine c_block (c_loop (ι:=List (List Band) × Option Addr × Nat × Nat × Dat) (fun ⟨a6,b9,c0,a5,b7⟩=>[(2,.pointer (some ⟨b4,0,none⟩)),(3,.pointer (some ⟨b5,0,none⟩)),(18,.slice A7 (t.schemes).length c8),(19,.int .i64 (t.schemes.length:Int)),(20,.int .i64 (a5:Int))]) (fun ⟨a6,b9,c0,a5,b7⟩ d4=>Inv [] d w b7 [row (Ty.slice bandTy) 34 (.slice b9 a6.length c0) (a6),row kindTy 36 (.slice b0 a3.length b1) (a3),row contribTy 70 (.slice a8 a0.length a9) (a0),blk b5 26 [.slice b9 a6.length c0,.slice a8 a0.length a9,.slice b0 a3.length b1,.int .i64 t.limit,.int .i64 t.round],blk b4 26 [.slice none 0 0,.slice none 0 0,.slice none 0 0,.int .i64 0,.int .i64 0],blk d2 26 [.slice A7 (t.schemes).length c8,.slice c2 (t.contribs).length c3,.slice c4 (t.kinds).length c5,.int .i64 t.limit,.int .i64 t.round]] d4∧Le e8 g9 b7 d4∧tClone_l1 t.schemes 0 (([]:List (List Band)))=tClone_l1 (t.schemes.drop a5) a5 a6∧a5≤t.schemes.length∧a6.length≤a5) (fun ⟨a6,b9,c0,a5,b7⟩=>t.schemes.length - a5) (([]:List (List Band)),none,0,0,e8) (.cons Z (.cons Z (.cons Z (.cons Z (.cons Z (.nil _)))))) ⟨k2,Le.refl _ _,rfl,Nat.zero_le _,by simp⟩ ?_)
  rintro ⟨a6,b9,c0,a5,b7⟩ d4 ⟨f0,f1,h1,s1,s2⟩
  have k3:=row_len (f0.ok _ m0); unfold big at k3
  refine csr ((g_y (y_lss Z Z) Z Z (gnx ((c_seq (c_cond Z (fun c7=>?_) (fun c7=>?_)))))))
  ·replace c7:=OT c7
   obtain ⟨h2,h3⟩:=has (xs:=t.schemes) (k:=a5) (by omega)
   refine c_skip (x_next (c_seq (c_block (csr (?_)))))
   obtain ⟨s3,s4,s5,k4,k5,k6,s6⟩:=Sl.at_ (hS4.mono ((((((((((d9.t e0).t e1).t e2).t e4).t e6).t g4).t g6).t g8).t k1).t f1)) h3
   obtain ⟨s7,rfl,h4⟩:=k5
   obtain ⟨s8,s9,rfl,t0,t1⟩:=h4.fm
   refine g_y (y_indexAddr (i:=a5) el_22 Z k4 Z (rfl) (by omega)) Z Z (g_y (y_load1 sh_34 Z (k6.nth_ (i:=0) Z)) Z Z (GA Y (gnx (?_))))
   have f2:=f0.drew; have h5:=Le.drew b7 d4
   refine c_drawK 6 follows_mixed (f2.drop (.hd _)) (k_y 0 (by kernel_rfl) Z Z Z (fun _ _=>(y_fieldAddr fo_26_0 Z)) (k_y 1 (by kernel_rfl) Z Z Z (fun t2 ⟨t3,k7,t4⟩=>(y_load1 sh_22 Z ((blk_cells k7 m2).nth_ (i:=0) Z))) (k_y 2 (by kernel_rfl) Z Z Z (fun _ _=>(y_move Z)) (k_all (is:=[3]) (by kernel_rfl) (by simp) (.cons ?_ .nil)))))
   have h6:=clBand_c (s:=h2) f2.lt (h4.mono h5)
   obtain ⟨d5,h7⟩:∃ r,clBand h2=r:=⟨_,rfl⟩
   rw [h7] at h6
   refine k_op Z Z Z (ev_row f2 pf_212 Z h6) ?_
   rintro _ t5 ⟨t6,k8,k9,rfl,f3,h8⟩
   have l0:=row_len (f3.ok _ m0); unfold big at l0
   refine k_next ((f3.drop (.hd _)).drop (.hd _)) h8 (k_all (is:=[4]) (by kernel_rfl) (by simp) (.cons ?_ .nil))
   obtain ⟨t7,l1,h9,l2⟩:=pub_row f3 (.hd _) (by simp)
   refine k_op Z Z Z (ev_buildSl (T:=(Ty.slice bandTy)) (xs:=[d5]) l1 el_22 ze_34 Z Z (ble Z) (ble Z) (.cons Z Z Z Z (.here _ _ (.nil _)) (ble Z) (.nil _)) (.cons (x:=d5) (cs:=[.slice k8 (d5).length k9]) ⟨_,rfl,l2⟩ .nil)) ?_
   rintro _ t8 ⟨l3,i0,i1,l4,t9,rfl⟩
   refine k_next (i0.drop (.hd _)) (h9.t i1) (k_all (is:=[5]) (by kernel_rfl) (by simp) (.cons ?_ .nil))
   refine k_op Z Z Z (ev_append i0 ei_22 Z Z m0 l4 (by simp only [LA,LC,LN,big] at *; omega) (by simp only [LA,LC,LN,big] at *; omega)) ?_
   rintro _ u0 ⟨l5,i2,l6,l7,rfl⟩
   have i3:=l5 _ (.hd _)
   refine k_next (i3.drop (.hd _)) i2 (k_all (is:=[6]) (by kernel_rfl) (by simp) (.cons ?_ .nil))
   refine k_op Z Z Z (Ev.of_y2 (y_fieldAddr fo_26_0 Z)) ?_
   rintro _ _ ⟨rfl,rfl⟩
   refine k_bar (b_all (i:=7) (by kernel_rfl) (by kernel_rfl) (k_op Z Z Z (ev_store i3 Z Z Z sz_22 Z (.here _ _ (.nil _)) (.tl _ (.tl _ (.tl _ (.hd _))))) ?_))
   rintro _ u1 ⟨l8,l9⟩
   refine k_bar (b_done (by kernel_rfl) (x_draw ?_) (by kernel_rfl))
   refine x_blockN (x_next ?_)
   refine c_region (g_y (y_add Z Z (by omega)) Z Z (GM Y (g_nil (x_round ((a6 ++ [d5]),l6,l7,a5 + 1,l3) (by dsimp only; omega) (.cons Z (.cons Z (.cons Z (.cons Z (.cons Z (.nil _)))))) ⟨l8,((((((f1.t h5).t h8).t h9).t i1).t i2).t l9),h1.trans (ET (congrArg (fun l=>tClone_l1 l a5 a6) (drop_cons h3)) (ET (BE h7) (rfl))),by omega,by first | omega | (simp only [LA,LC,LN] at *; omega)⟩))))
  ·replace c7:=OF c7
   refine c_exit (x_thenE (x_rndE (x_blockE (x_cut (a6,b9,c0,b7) (.cons Z (.cons Z (.nil _))) ⟨f0,f1,h1.trans (ET (congrArg (fun l=>tClone_l1 l a5 a6) (drop_nil (by omega))) (rfl)),by first | omega | (simp only [LA,LC,LN] at *; omega)⟩))))
 ·rintro ⟨a4,b2,b3,b6⟩ c6 ⟨f4,u2,m6,u3⟩
  have m7:=row_len (f4.ok _ m0); unfold big at m7
  refine x_next (c_seq (csr ((gfa fo_26_1 Z Z Z (gld sh_23 Z f4 m3 (i:=1) Z Z Z (gln el_23 Z Z Z (GM Y (gnx ((c_cut1 (ι:=List Contrib × Dat) (fun ⟨c1,d6⟩=>[(2,.pointer (some ⟨b4,0,none⟩)),(3,.pointer (some ⟨b5,0,none⟩))]) (fun ⟨c1,d6⟩ f5=>Inv [] d w d6 [row (Ty.slice bandTy) 34 (.slice b2 a4.length b3) (a4),row kindTy 36 (.slice b0 a3.length b1) (a3),row contribTy 70 (.slice a8 a0.length a9) (c1),blk b5 26 [.slice b2 a4.length b3,.slice a8 a0.length a9,.slice b0 a3.length b1,.int .i64 t.limit,.int .i64 t.round],blk b4 26 [.slice none 0 0,.slice none 0 0,.slice none 0 0,.int .i64 0,.int .i64 0],blk d2 26 [.slice A7 (t.schemes).length c8,.slice c2 (t.contribs).length c3,.slice c4 (t.kinds).length c5,.int .i64 t.limit,.int .i64 t.round]] f5∧Le b6 c6 d6 f5∧tClone_l2 a0 0 a0=c1∧c1.length=a0.length) ?_ ?_))))))))))
  ·refine c_block (c_loop (ι:=List Contrib × Nat × Dat) (fun ⟨a7,a2,b8⟩=>[(2,.pointer (some ⟨b4,0,none⟩)),(3,.pointer (some ⟨b5,0,none⟩)),(34,.int .i64 (a0.length:Int)),(35,.int .i64 (a2:Int))]) (fun ⟨a7,a2,b8⟩ d7=>Inv [] d w b8 [row (Ty.slice bandTy) 34 (.slice b2 a4.length b3) (a4),row kindTy 36 (.slice b0 a3.length b1) (a3),row contribTy 70 (.slice a8 a0.length a9) (a7),blk b5 26 [.slice b2 a4.length b3,.slice a8 a0.length a9,.slice b0 a3.length b1,.int .i64 t.limit,.int .i64 t.round],blk b4 26 [.slice none 0 0,.slice none 0 0,.slice none 0 0,.int .i64 0,.int .i64 0],blk d2 26 [.slice A7 (t.schemes).length c8,.slice c2 (t.contribs).length c3,.slice c4 (t.kinds).length c5,.int .i64 t.limit,.int .i64 t.round]] d7∧Le b6 c6 b8 d7∧tClone_l2 a0 0 a0=tClone_l2 (a0.drop a2) a2 a7∧a2≤a0.length∧a7.length=a0.length) (fun ⟨a7,a2,b8⟩=>a0.length - a2) (a0,0,b6) (.cons Z (.cons Z (.cons Z (.cons Z (.nil _))))) ⟨f4,Le.refl _ _,rfl,Nat.zero_le _,by omega⟩ ?_)
   rintro ⟨a7,a2,b8⟩ d7 ⟨f6,i4,i5,u4,u5⟩
   have m8:=row_len (f6.ok _ m2); unfold big at m8
   refine csr ((g_y (y_lss Z Z) Z Z (gnx ((c_seq (c_cond Z (fun c9=>?_) (fun c9=>?_)))))))
   ·replace c9:=OT c9
    obtain ⟨u6,m9⟩:=has (xs:=a0) (k:=a2) (by omega)
    refine c_skip (x_next (c_seq (c_block (csr ((GM Y (GA Y (gnx (?_)))))))))
    have d0:=f6.drew; have n0:=Le.drew b8 d7
    refine c_drawK 10 follows_mixed d0 (k_y 0 (by kernel_rfl) Z Z Z (fun _ _=>(y_fieldAddr fo_26_1 Z)) (k_y 1 (by kernel_rfl) Z Z Z (fun u7 ⟨u8,n1,u9⟩=>(y_load1 sh_23 Z ((blk_cells n1 m3).nth_ (i:=1) Z))) (k_y 2 (by kernel_rfl) Z Z Z (fun _ _=>(y_move Z)) (k_y 3 (by kernel_rfl) Z Z Z (fun _ _=>(y_fieldAddr fo_26_1 Z)) (k_y 4 (by kernel_rfl) Z Z Z (fun v0 ⟨v4,n2,v5⟩=>(y_load1 sh_23 Z ((blk_cells n2 m3).nth_ (i:=1) Z))) (k_y 5 (by kernel_rfl) Z Z Z (fun _ _=>(y_move Z)) ?_))))))
    obtain ⟨a1,d1⟩:=has (xs:=a7) (k:=a2) (by omega)
    obtain ⟨v6,v7,n3,n4,n5⟩:=row_at0 (d0.ok _ m2) d1
    obtain ⟨v8,rfl,i6⟩:=n4
    obtain ⟨v9,w0,rfl,w1,w2⟩:=i6.fm
    refine k_y 6 (by kernel_rfl) Z Z Z (fun _ _=>(y_indexAddr (i:=a2) el_23 Z n3 Z (rfl) (by omega))) (k_y 7 (by kernel_rfl) Z Z Z (fun _ _=>(y_fieldAddr fo_70_2 Z)) (k_all (is:=[8]) (by kernel_rfl) (by simp) (.cons ?_ .nil)))
    refine k_op Z Z Z (Ev.of_y2 (y_load1 sh_34 Z (n5.nth_ (i:=2) Z))) ?_
    rintro _ _ ⟨rfl,rfl⟩
    refine k_next d0 (Le.refl _ _) (k_all (is:=[9]) (by kernel_rfl) (by simp) (.cons ?_ .nil))
    have i7:=clBand_c (s:=a1.bands) d0.lt i6
    obtain ⟨f7,i8⟩:∃ r,clBand a1.bands=r:=⟨_,rfl⟩
    rw [i8] at i7
    refine k_op Z Z Z (ev_row d0 pf_212 Z i7) ?_
    rintro _ w3 ⟨w4,w5,w6,rfl,d8,i9⟩
    have n6:=row_len (d8.ok _ m0); unfold big at n6
    refine k_next (d8.drop (.hd _)) i9 (k_all (is:=[10]) (by kernel_rfl) (by simp) (.cons ?_ .nil))
    obtain ⟨n7,w7,f8,n8,w8⟩:=row_at0 (d8.ok _ m3) d1
    obtain ⟨w9,rfl,n9⟩:=n8
    obtain ⟨x0,x1,rfl,x2,x3⟩:=n9.fm
    refine k_op Z Z Z (Ev.of_y2 (y_indexAddr (i:=a2) el_23 Z f8 Z (rfl) (by omega))) ?_
    rintro _ _ ⟨rfl,rfl⟩
    refine k_bar (b_all (i:=11) (by kernel_rfl) (by kernel_rfl) (k_op Z Z Z (Ev.of_y2 (y_fieldAddr fo_70_2 Z)) ?_))
    rintro _ _ ⟨rfl,rfl⟩
    refine k_bar (b_all (i:=12) (by kernel_rfl) (by kernel_rfl) ?_)
    obtain ⟨o0,j0,o1,o2⟩:=pub_row d8 (.hd _) (by simp)
    obtain ⟨o3,x4,j1,o4,o5⟩:=row_at0 (j0.ok _ m2) d1
    have o6:o3=n7:=by rw [f8] at j1; cases j1; rfl
    subst o6
    obtain ⟨x5,rfl,o7⟩:=o4
    obtain ⟨o8,o9,rfl,x6,x7⟩:=o7.fm
    refine k_op Z Z Z (ev_storeRow (i:=a2) (off:=2) (cs:=[.string a1.name,.int .i64 a1.base,.slice o8 (a1.bands).length o9,.int .i64 a1.pceil,.int .i64 a1.yceil,.int .i64 a1.round]) (y':=(⟨a1.name,a1.base,f7,a1.pceil,a1.yceil,a1.round⟩:Contrib)) j0 f8 Z Z Z sz_34 Z (.next _ (.next _ (.here _ _ (.nil _)))) (.tl _ (.tl _ (.hd _))) d1 o5 Z ⟨_,rfl,o2⟩ (ble Z)) ?_
    rintro _ x8 ⟨p0,p1⟩
    have x9:(a7.set a2 ((⟨a1.name,a1.base,f7,a1.pceil,a1.yceil,a1.round⟩:Contrib))).length=a0.length:=by (try simp only [LS]); omega
    refine k_bar (b_done (by kernel_rfl) (x_draw ?_) (by kernel_rfl))
    refine x_blockN (x_next ?_)
    refine c_region (g_y (y_add Z Z (by omega)) Z Z (GM Y (g_nil (x_round ((a7.set a2 ((⟨a1.name,a1.base,f7,a1.pceil,a1.yceil,a1.round⟩:Contrib))),a2 + 1,o0) (by dsimp only; omega) (.cons Z (.cons Z (.cons Z (.cons Z (.nil _))))) ⟨p0,((((i4.t n0).t i9).t o1).t p1),i5.trans (ET (congrArg (fun l=>tClone_l2 l a2 a7) (drop_cons m9)) (ET (opt_some d1) (ET (BE i8) (rfl)))),by omega,by omega⟩))))
   ·replace c9:=OF c9
    refine c_exit (x_thenE (x_rndE (x_blockE (x_cut (a7,b8) (.cons Z (.cons Z (.nil _))) ⟨f6,i4,i5.trans (ET (congrArg (fun l=>tClone_l2 l a2 a7) (drop_nil (by omega))) (rfl)),by omega⟩))))
  ·rintro ⟨c1,d6⟩ f5 ⟨f9,y0,p2,y1⟩
   have p3:=row_len (f9.ok _ m2); unfold big at p3
   refine x_next (csr ((g_y (y_loadA (cs:=[.slice b2 a4.length b3,.slice a8 a0.length a9,.slice b0 a3.length b1,.int .i64 t.limit,.int .i64 t.round]) sh_26 Z ((blk_cells f9 m3).part (f:=0) (.take _ (.take _ (.take _ (.take _ (.take _ (.nil _)))))))) Z Z (g_e (ev_store f9 Z Z Z sz_26 Z (.here _ _ (.here _ _ (.here _ _ (.here _ _ (.here _ _ (.nil _)))))) (.tl _ (.tl _ (.tl _ (.tl _ (.hd _)))))) Z Z ?_))))
   rintro _ y2 ⟨p4,y3⟩
   refine gnx ((c_ret ?_))
   obtain ⟨y4,p5,y5,p6⟩:=pub_row p4 (.hd _) (by simp)
   obtain ⟨y6,p7,p8,p9⟩:=pub_row p5 (.tl _ (.hd _)) (by simp)
   obtain ⟨y7,g0,j2,q0⟩:=pub_row p7 (.hd _) (by simp)
   have q1:tClone t=(⟨a4,c1,a3,t.limit,t.round⟩:Table):=ET (BE e5) (ET (BE e7) (ET (BE m6) (ET (BE p2) (rfl))))
   refine x_ret ⟨_,_,_,rfl,rfl,blk_cells g0 m1,sh_26,rfl⟩ (⟨_,_,rfl,g0.fr,g0.grow,by rw [q1]; exact ⟨_,rfl,⟨_,_,_,rfl,(p6.mono (p8.t j2)),(p9.mono j2),q0⟩⟩⟩)
def sMake_m1 (period:Int) (b:Bases) (tax:Int) (short:Int) (rw:(List Share)) (taken:(List Taken)):List Share × List Taken × Int × Int × Int × Int × Int × Int:=
 (bnd (clShareR rw) fun a0=>
 (bnd (clTaken taken) fun a1=>
 (a0,a1,period,b.cash,b.taxable,b.social,tax,short)))
def sMake (period:Int) (b:Bases) (tax:Int) (short:Int) (rw:(List Share)) (taken:(List Taken)):Slip × Int:=
 (bnd (sMake_m1 period b tax short rw taken) fun ⟨a3,a4,a5,a6,a7,a8,a9,b0⟩=>
 (bnd (sNet b.cash tax rw) fun a0=>
 (if (a0.2≠0) then ((⟨0,(⟨0,0,0⟩:Bases),0,0,([]:List Share),0,([]:List Taken),0⟩:Slip),a0.2)
 else (bnd (aSum taken) fun a2=>
 (if (a2.2≠0) then ((⟨0,(⟨0,0,0⟩:Bases),0,0,([]:List Share),0,([]:List Taken),0⟩:Slip),a2.2)
 else (bnd (mSub a0.1 a2.1) fun a1=>
 (if (a1.2≠0) then ((⟨0,(⟨0,0,0⟩:Bases),0,0,([]:List Share),0,([]:List Taken),0⟩:Slip),a1.2)
 else (bnd (yCheck ((⟨a5,(⟨a6,a7,a8⟩:Bases),a9,b0,a3,a0.1,a4,a1.1⟩:Slip)) ((rw.length:Int))) fun b1=>
 (if (b1≠0) then ((⟨0,(⟨0,0,0⟩:Bases),0,0,([]:List Share),0,([]:List Taken),0⟩:Slip),b1)
 else ((⟨a5,(⟨a6,a7,a8⟩:Bases),a9,b0,a3,a0.1,a4,a1.1⟩:Slip),0))))))))))
theorem sMake_c {period:Int} {b:Bases} {tax:Int} {short:Int} {rw:(List Share)} {v_rw:Value} {taken:(List Taken)} {v_taken:Value} {d:Dat} {w:World} (hd:∀ b,d b→b < w.heap.size) (h_rw:Sl shareTy d w v_rw rw) (h_taken:Sl takenTy d w v_taken taken):Ret Tryz.prog 111 [.int .i64 period,.agg #[.int .i64 b.cash,.int .i64 b.taxable,.int .i64 b.social],.int .i64 tax,.int .i64 short,v_rw,v_taken] w [] d (fun u d' w'=>∃ (cs0:List Value),u=.tuple #[.agg cs0.toArray,.int .i64 ((sMake period b tax short rw taken).2)]∧slipTy.rel d' w' (sMake period b tax short rw taken).1 cs0):=by
 obtain ⟨A1,c2,rfl,hn3,hb4⟩:=h_rw.fm
 obtain ⟨A5,c6,rfl,hn7,hb8⟩:=h_taken.fm
 refine ret_enter (n:=70) Tryz.func111 Z Z (ble Z) ?_
 have hI0:=Inv.start hd
 refine csr ((g_e (ev_box hI0 Z) Z Z ?_))
 rintro _ w9 ⟨g0,rfl,j0,b3⟩
 refine g_e (ev_alloc j0 ze_51) Z Z ?_
 rintro _ g1 ⟨g2,rfl,j1,b4⟩
 refine GA Y (gnx ((c_cut (ι:=List Share × Option Addr × Nat × List Taken × Option Addr × Nat × Nat × Int × Int × Int × Int × Int × Int × Dat) (fun ⟨a0,b7,b8,a1,b9,c0,c8,a2,a3,a4,a5,a6,a7,c9⟩=>[(2,.int .i64 tax),(4,.slice A1 (rw).length c2),(5,.slice A5 (taken).length c6),(7,.pointer (some ⟨g0,0,none⟩)),(12,.pointer (some ⟨g2,0,none⟩)),(14,.pointer (some ⟨c8,0,none⟩))]) (fun ⟨a0,b7,b8,a1,b9,c0,c8,a2,a3,a4,a5,a6,a7,c9⟩ d6=>Inv [] d w c9 [blk c8 51 [.int .i64 a2,.int .i64 a3,.int .i64 a4,.int .i64 a5,.int .i64 a6,.int .i64 a7,.slice b7 a0.length b8,.int .i64 0,.slice b9 a1.length c0,.int .i64 0],row takenTy 236 (.slice b9 a1.length c0) (a1),row shareTy 68 (.slice b7 a0.length b8) (a0),blk g2 51 [.int .i64 0,.int .i64 0,.int .i64 0,.int .i64 0,.int .i64 0,.int .i64 0,.slice none 0 0,.int .i64 0,.slice none 0 0,.int .i64 0],blk g0 47 [.int .i64 b.cash,.int .i64 b.taxable,.int .i64 b.social]] d6∧Le d g1 c9 d6∧sMake_m1 period b tax short rw taken=(a0,a1,a2,a3,a4,a5,a6,a7)) ?_ ?_)))
 ·have d0:=j1.drew; have b1:=Le.drew d g1
  refine c_drawK 10 follows_mixed d0 (k_y 0 (by kernel_rfl) Z Z Z (fun _ _=>(y_move Z)) (k_y 1 (by kernel_rfl) Z Z Z (fun o4 ⟨o5,j2,o6⟩=>(y_loadA (cs:=[.int .i64 b.cash,.int .i64 b.taxable,.int .i64 b.social]) sh_47 Z ((blk_cells j2 m1).part (f:=0) (.take _ (.take _ (.take _ (.nil _))))))) (k_y 2 (by kernel_rfl) Z Z Z (fun _ _=>(y_move Z)) (k_y 3 (by kernel_rfl) Z Z Z (fun _ _=>(y_move Z)) (k_y 4 (by kernel_rfl) Z Z Z (fun _ _=>(y_move Z)) (k_y 6 (by kernel_rfl) Z Z Z (fun _ _=>(y_move Z)) (k_all (is:=[5,9]) (by kernel_rfl) (by simp) (.cons ?_ (.cons ?_ .nil)))))))))
  ·have g3:=clShareR_c (s:=rw) d0.lt (h_rw.mono ((b3.t b4).t b1))
   obtain ⟨d7,d1⟩:∃ r,clShareR rw=r:=⟨_,rfl⟩
   rw [d1] at g3
   have h8r367:d7.length=rw.length:=by rw [← d1,clShareR_eq]
   refine k_op Z Z Z (ev_row d0 pf_125 Z g3) ?_
   rintro _ o7 ⟨o8,g4,g5,rfl,c3,c4⟩
   have j3:=row_len (c3.ok _ m0); unfold big at j3
   refine k_next (c3.drop (.hd _)) c4 (k_all (is:=[7,9]) (by kernel_rfl) (by simp) (.cons ?_ (.cons ?_ .nil)))
   ·have g6:=clTaken_c (s:=taken) c3.lt (h_taken.mono (((b3.t b4).t b1).t c4))
    obtain ⟨g7,d8⟩:∃ r,clTaken taken=r:=⟨_,rfl⟩
    rw [d8] at g6
    have h8r377:g7.length=taken.length:=by rw [← d8,clTaken_eq]
    refine k_op Z Z Z (ev_row c3 pf_193 Z g6) ?_
    rintro _ o9 ⟨j4,j5,j6,rfl,d9,g8⟩
    have j7:=row_len (d9.ok _ m0); unfold big at j7
    refine k_next ((d9.drop (.hd _)).drop (.hd _)) g8 (k_y 8 (by kernel_rfl) Z Z Z (fun _ _=>(y_build ze_51 pl_51 (.cons Z Z Z Z (.here _ _ (.nil _)) (ble Z) (.cons Z Z Z Z (.next _ (.here _ _ (.here _ _ (.here _ _ (.nil _))))) (ble Z) (.cons Z Z Z Z (.next _ (.next _ (.next _ (.next _ (.here _ _ (.nil _)))))) (ble Z) (.cons Z Z Z Z (.next _ (.next _ (.next _ (.next _ (.next _ (.here _ _ (.nil _))))))) (ble Z) (.cons Z Z Z Z (.next _ (.next _ (.next _ (.next _ (.next _ (.next _ (.here _ _ (.nil _)))))))) (ble Z) (.cons Z Z Z Z (.next _ (.next _ (.next _ (.next _ (.next _ (.next _ (.next _ (.next _ (.here _ _ (.nil _)))))))))) (ble Z) (.nil _))))))))) (k_all (is:=[9]) (by kernel_rfl) (by simp) (.cons ?_ .nil)))
    refine k_op Z Z Z (ev_alloc d9 ze_51) ?_
    rintro _ p0 ⟨j8,rfl,g9,h0⟩
    refine k_next (((g9.drop (.hd _)).drop (.hd _)).drop (.hd _)) h0 (k_all (is:=[10]) (by kernel_rfl) (by simp) (.cons ?_ .nil))
    refine k_op Z Z Z (ev_store g9 Z Z Z sz_51 Z (.here _ _ (.here _ _ (.here _ _ (.here _ _ (.here _ _ (.here _ _ (.here _ _ (.here _ _ (.here _ _ (.here _ _ (.nil _))))))))))) (.hd _)) ?_
    rintro _ p1 ⟨j9,k0⟩
    refine k_bar (b_done (by kernel_rfl) (x_draw ?_) (by kernel_rfl))
    have k1:=j9.front (.tl _ (.tl _ (.hd _)))
    have k2:=k1.front (.tl _ (.tl _ (.hd _)))
    have k3:=k2.front (.tl _ (.tl _ (.hd _)))
    refine x_cut (d7,g4,g5,g7,j5,j6,j8,period,b.cash,b.taxable,b.social,tax,short,j4) (.cons Z (.cons Z (.cons Z (.cons Z (.cons Z (.cons Z (.nil _))))))) ⟨k3,((((b1.t c4).t g8).t h0).t k0),ET (BE d1) (ET (BE d8) (rfl))⟩
   ·refine k_op Z Z Z (ev_alloc c3 ze_51) ?_
    rintro _ p2 ⟨k4,rfl,e0,e1⟩
    refine k_next ((e0.drop (.hd _)).drop (.hd _)) e1 (k_all (is:=[7]) (by kernel_rfl) (by simp) (.cons ?_ .nil))
    have h1:=clTaken_c (s:=taken) e0.lt (h_taken.mono ((((b3.t b4).t b1).t c4).t e1))
    obtain ⟨h2,e2⟩:∃ r,clTaken taken=r:=⟨_,rfl⟩
    rw [e2] at h1
    have h8r401:h2.length=taken.length:=by rw [← e2,clTaken_eq]
    refine k_op Z Z Z (ev_row e0 pf_193 Z h1) ?_
    rintro _ p3 ⟨k5,k6,k7,rfl,e3,h3⟩
    have k8:=row_len (e3.ok _ m0); unfold big at k8
    refine k_next (((e3.drop (.hd _)).drop (.hd _)).drop (.hd _)) h3 (k_y 8 (by kernel_rfl) Z Z Z (fun _ _=>(y_build ze_51 pl_51 (.cons Z Z Z Z (.here _ _ (.nil _)) (ble Z) (.cons Z Z Z Z (.next _ (.here _ _ (.here _ _ (.here _ _ (.nil _))))) (ble Z) (.cons Z Z Z Z (.next _ (.next _ (.next _ (.next _ (.here _ _ (.nil _)))))) (ble Z) (.cons Z Z Z Z (.next _ (.next _ (.next _ (.next _ (.next _ (.here _ _ (.nil _))))))) (ble Z) (.cons Z Z Z Z (.next _ (.next _ (.next _ (.next _ (.next _ (.next _ (.here _ _ (.nil _)))))))) (ble Z) (.cons Z Z Z Z (.next _ (.next _ (.next _ (.next _ (.next _ (.next _ (.next _ (.next _ (.here _ _ (.nil _)))))))))) (ble Z) (.nil _))))))))) (k_all (is:=[10]) (by kernel_rfl) (by simp) (.cons ?_ .nil)))
    refine k_op Z Z Z (ev_store e3 Z Z Z sz_51 Z (.here _ _ (.here _ _ (.here _ _ (.here _ _ (.here _ _ (.here _ _ (.here _ _ (.here _ _ (.here _ _ (.here _ _ (.nil _))))))))))) (.tl _ (.hd _))) ?_
    rintro _ p4 ⟨k9,l0⟩
    refine k_bar (b_done (by kernel_rfl) (x_draw ?_) (by kernel_rfl))
    have l1:=k9.front (.tl _ (.tl _ (.hd _)))
    have l2:=l1.front (.tl _ (.hd _))
    have l3:=l2.front (.tl _ (.tl _ (.hd _)))
    refine x_cut (d7,g4,g5,h2,k6,k7,k4,period,b.cash,b.taxable,b.social,tax,short,k5) (.cons Z (.cons Z (.cons Z (.cons Z (.cons Z (.cons Z (.nil _))))))) ⟨l3,((((b1.t c4).t e1).t h3).t l0),ET (BE d1) (ET (BE e2) (rfl))⟩
  ·refine k_op Z Z Z (ev_alloc d0 ze_51) ?_
   rintro _ p5 ⟨l4,rfl,e4,d2⟩
   refine k_next (e4.drop (.hd _)) d2 (k_all (is:=[5]) (by kernel_rfl) (by simp) (.cons ?_ .nil))
   have h4:=clShareR_c (s:=rw) e4.lt (h_rw.mono (((b3.t b4).t b1).t d2))
   obtain ⟨h5,e5⟩:∃ r,clShareR rw=r:=⟨_,rfl⟩
   rw [e5] at h4
   have h8r421:h5.length=rw.length:=by rw [← e5,clShareR_eq]
   refine k_op Z Z Z (ev_row e4 pf_125 Z h4) ?_
   rintro _ p6 ⟨p7,l5,l6,rfl,d3,e6⟩
   have l7:=row_len (d3.ok _ m0); unfold big at l7
   refine k_next ((d3.drop (.hd _)).drop (.hd _)) e6 (k_all (is:=[7]) (by kernel_rfl) (by simp) (.cons ?_ .nil))
   have h6:=clTaken_c (s:=taken) d3.lt (h_taken.mono ((((b3.t b4).t b1).t d2).t e6))
   obtain ⟨h7,e7⟩:∃ r,clTaken taken=r:=⟨_,rfl⟩
   rw [e7] at h6
   have h8r431:h7.length=taken.length:=by rw [← e7,clTaken_eq]
   refine k_op Z Z Z (ev_row d3 pf_193 Z h6) ?_
   rintro _ p8 ⟨l8,l9,m6,rfl,e8,h8⟩
   have m7:=row_len (e8.ok _ m0); unfold big at m7
   refine k_next (((e8.drop (.hd _)).drop (.hd _)).drop (.hd _)) h8 (k_y 8 (by kernel_rfl) Z Z Z (fun _ _=>(y_build ze_51 pl_51 (.cons Z Z Z Z (.here _ _ (.nil _)) (ble Z) (.cons Z Z Z Z (.next _ (.here _ _ (.here _ _ (.here _ _ (.nil _))))) (ble Z) (.cons Z Z Z Z (.next _ (.next _ (.next _ (.next _ (.here _ _ (.nil _)))))) (ble Z) (.cons Z Z Z Z (.next _ (.next _ (.next _ (.next _ (.next _ (.here _ _ (.nil _))))))) (ble Z) (.cons Z Z Z Z (.next _ (.next _ (.next _ (.next _ (.next _ (.next _ (.here _ _ (.nil _)))))))) (ble Z) (.cons Z Z Z Z (.next _ (.next _ (.next _ (.next _ (.next _ (.next _ (.next _ (.next _ (.here _ _ (.nil _)))))))))) (ble Z) (.nil _))))))))) (k_all (is:=[10]) (by kernel_rfl) (by simp) (.cons ?_ .nil)))
   refine k_op Z Z Z (ev_store e8 Z Z Z sz_51 Z (.here _ _ (.here _ _ (.here _ _ (.here _ _ (.here _ _ (.here _ _ (.here _ _ (.here _ _ (.here _ _ (.here _ _ (.nil _))))))))))) (.tl _ (.tl _ (.hd _)))) ?_
   rintro _ p9 ⟨m8,m9⟩
   refine k_bar (b_done (by kernel_rfl) (x_draw ?_) (by kernel_rfl))
   have n0:=m8.front (.tl _ (.hd _))
   have n1:=n0.front (.tl _ (.hd _))
   have n2:=n1.front (.tl _ (.tl _ (.hd _)))
   refine x_cut (h5,l5,l6,h7,l9,m6,l4,period,b.cash,b.taxable,b.social,tax,short,l8) (.cons Z (.cons Z (.cons Z (.cons Z (.cons Z (.cons Z (.nil _))))))) ⟨n2,((((b1.t d2).t e6).t h8).t m9),ET (BE e5) (ET (BE e7) (rfl))⟩
 ·rintro ⟨a0,b7,b8,a1,b9,c0,c8,a2,a3,a4,a5,a6,a7,c9⟩ d6 ⟨e9,h9,c5⟩
  refine csr ((GA Y (gnx ((c_seq (csr ((gfa fo_47_0 Z Z Z (gld sh_2 Z e9 m4 (i:=0) Z Z Z (GM Y (GM Y ?_)))))))))))
  have i0:=sNet_c (cash:=b.cash) (tax:=tax) (row:=rw) e9.lt (h_rw.mono ((b3.t b4).t h9))
  obtain ⟨a9,c1⟩:∃ r,sNet b.cash tax rw=r:=⟨_,rfl⟩
  rw [c1] at i0
  refine g_e (ev_pure e9 pf_194 Z i0) Z Z ?_
  rintro _ q0 ⟨q1,n3,n4,rfl⟩
  refine GM Y (g_y (y_extract Z Z) Z Z (g_y (y_extract Z Z) Z Z (gfa fo_51_5 Z Z Z (g_e (ev_store n3 Z Z Z sz_2 Z (.next _ (.next _ (.next _ (.next _ (.next _ (.next _ (.next _ (.here _ _ (.nil _))))))))) (.hd _)) Z Z ?_))))
  rintro _ q2 ⟨f0,n5⟩
  refine GA Y (gnx ((csr ((GM Y (g_y (y_neq Z Z) Z Z (gnx ((c_cond Z (fun a8=>?_) (fun a8=>?_))))))))))
  ·replace a8:=OT a8
   refine csr ((g_y (y_build ze_51 pl_51 (.nil _)) Z Z (GM Y (g_e (ev_store f0 Z Z Z sz_51 Z (.here _ _ (.here _ _ (.here _ _ (.here _ _ (.here _ _ (.here _ _ (.here _ _ (.here _ _ (.here _ _ (.here _ _ (.nil _))))))))))) (.tl _ (.tl _ (.tl _ (.hd _))))) Z Z ?_))))
   rintro _ q3 ⟨f1,q4⟩
   refine GA Y (gnx ((c_ret ?_)))
   have n6:sMake period b tax short rw taken=((⟨0,(⟨0,0,0⟩:Bases),0,0,([]:List Share),0,([]:List Taken),0⟩:Slip),a9.2):=ET (BE c5) (ET (BE c1) (ET (IP a8) (rfl)))
   refine x_thenR (x_ret ⟨_,_,_,rfl,rfl,blk_cells f1 m3,sh_51,⟨_,_,rfl,rfl,rfl⟩⟩ ?_)
   exact ⟨_,_,rfl,f1.fr,f1.grow,by rw [n6]; exact ⟨_,rfl,⟨_,_,rfl,(Sl.nil_ _ _ _ none 0),(Sl.nil_ _ _ _ none 0)⟩⟩⟩
  ·replace a8:=OF a8
   refine c_skip (x_next (csr ((GM Y ?_))))
   have i1:=aSum_c (list:=taken) f0.lt (h_taken.mono ((((b3.t b4).t h9).t n4).t n5))
   obtain ⟨f2,c7⟩:∃ r,aSum taken=r:=⟨_,rfl⟩
   rw [c7] at i1
   refine g_e (ev_pure f0 pf_115 Z i1) Z Z ?_
   rintro _ q5 ⟨q6,d4,q7,rfl⟩
   refine GM Y (g_y (y_extract Z Z) Z Z (g_y (y_extract Z Z) Z Z (GA Y (GA Y (gnx ((c_seq (csr ((GM Y (g_y (y_neq Z Z) Z Z (gnx (?_)))))))))))))
   refine c_cond Z (fun b0=>?_) (fun b0=>?_)
   ·replace b0:=OT b0
    refine csr ((g_y (y_build ze_51 pl_51 (.nil _)) Z Z (GM Y (g_e (ev_store d4 Z Z Z sz_51 Z (.here _ _ (.here _ _ (.here _ _ (.here _ _ (.here _ _ (.here _ _ (.here _ _ (.here _ _ (.here _ _ (.here _ _ (.nil _))))))))))) (.tl _ (.tl _ (.tl _ (.hd _))))) Z Z ?_))))
    rintro _ q8 ⟨f3,q9⟩
    refine GA Y (gnx ((c_ret ?_)))
    have n7:sMake period b tax short rw taken=((⟨0,(⟨0,0,0⟩:Bases),0,0,([]:List Share),0,([]:List Taken),0⟩:Slip),f2.2):=ET (BE c5) (ET (BE c1) (ET (IN a8) (ET (BE c7) (ET (IP b0) (rfl)))))
    refine x_thenR (x_ret ⟨_,_,_,rfl,rfl,blk_cells f3 m3,sh_51,⟨_,_,rfl,rfl,rfl⟩⟩ ?_)
    exact ⟨_,_,rfl,f3.fr,f3.grow,by rw [n7]; exact ⟨_,rfl,⟨_,_,rfl,(Sl.nil_ _ _ _ none 0),(Sl.nil_ _ _ _ none 0)⟩⟩⟩
   ·replace b0:=OF b0
    refine c_skip (x_next (c_seq (csr ((gfa fo_51_5 Z Z Z (gld sh_2 Z d4 m0 (i:=7) Z Z Z (GM Y ?_)))))))
    have i2:=mSub_c (a:=a9.1) (b:=f2.1) d4.lt
    obtain ⟨b5,d5⟩:∃ r,mSub a9.1 f2.1=r:=⟨_,rfl⟩
    rw [d5] at i2
    refine g_e (ev_pure d4 pf_127 Z i2) Z Z ?_
    rintro _ r0 ⟨r1,n8,r2,rfl⟩
    refine GM Y (g_y (y_extract Z Z) Z Z (g_y (y_extract Z Z) Z Z (gfa fo_51_7 Z Z Z (g_e (ev_store n8 Z Z Z sz_2 Z (.next _ (.next _ (.next _ (.next _ (.next _ (.next _ (.next _ (.next _ (.next _ (.here _ _ (.nil _))))))))))) (.hd _)) Z Z ?_))))
    rintro _ r3 ⟨f4,r4⟩
    refine GA Y (gnx ((csr ((GM Y (g_y (y_neq Z Z) Z Z (gnx ((c_cond Z (fun b2=>?_) (fun b2=>?_))))))))))
    ·replace b2:=OT b2
     refine csr ((g_y (y_build ze_51 pl_51 (.nil _)) Z Z (GM Y (g_e (ev_store f4 Z Z Z sz_51 Z (.here _ _ (.here _ _ (.here _ _ (.here _ _ (.here _ _ (.here _ _ (.here _ _ (.here _ _ (.here _ _ (.here _ _ (.nil _))))))))))) (.tl _ (.tl _ (.tl _ (.hd _))))) Z Z ?_))))
     rintro _ r5 ⟨f5,r6⟩
     refine GA Y (gnx ((c_ret ?_)))
     have n9:sMake period b tax short rw taken=((⟨0,(⟨0,0,0⟩:Bases),0,0,([]:List Share),0,([]:List Taken),0⟩:Slip),b5.2):=ET (BE c5) (ET (BE c1) (ET (IN a8) (ET (BE c7) (ET (IN b0) (ET (BE d5) (ET (IP b2) (rfl)))))))
     refine x_thenR (x_ret ⟨_,_,_,rfl,rfl,blk_cells f5 m3,sh_51,⟨_,_,rfl,rfl,rfl⟩⟩ ?_)
     exact ⟨_,_,rfl,f5.fr,f5.grow,by rw [n9]; exact ⟨_,rfl,⟨_,_,rfl,(Sl.nil_ _ _ _ none 0),(Sl.nil_ _ _ _ none 0)⟩⟩⟩
    ·replace b2:=OF b2
     refine c_skip (x_next (c_seq (csr ((g_y (y_loadA (cs:=[.int .i64 a2,.int .i64 a3,.int .i64 a4,.int .i64 a5,.int .i64 a6,.int .i64 a7,.slice b7 a0.length b8,.int .i64 a9.1,.slice b9 a1.length c0,.int .i64 b5.1]) sh_51 Z ((blk_cells f4 m0).part (f:=0) (.take _ (.take _ (.take _ (.take _ (.take _ (.take _ (.take _ (.take _ (.take _ (.take _ (.nil _))))))))))))) Z Z (GM Y (gln el_62 Z Z Z ?_)))))))
     obtain ⟨r7,o0,r8,i3⟩:=pub_row f4 (.tl _ (.tl _ (.hd _))) (by simp)
     obtain ⟨r9,i4,i5,i6⟩:=pub_row o0 (.tl _ (.hd _)) (by simp)
     have i7:=yCheck_c (s:=(⟨a2,(⟨a3,a4,a5⟩:Bases),a6,a7,a0,a9.1,a1,b5.1⟩:Slip)) (n:=(rw.length:Int)) i4.lt (show slipTy.rel _ _ (⟨a2,(⟨a3,a4,a5⟩:Bases),a6,a7,a0,a9.1,a1,b5.1⟩:Slip) _ from ⟨_,_,rfl,(i3.mono i5),i6⟩)
     obtain ⟨o1,f6⟩:∃ r,yCheck ((⟨a2,(⟨a3,a4,a5⟩:Bases),a6,a7,a0,a9.1,a1,b5.1⟩:Slip)) ((rw.length:Int))=r:=⟨_,rfl⟩
     rw [f6] at i7
     refine g_e (ev_pure i4 pf_73 Z i7) Z Z ?_
     rintro _ s0 ⟨s1,f7,i8,rfl⟩
     refine GA Y (gnx ((csr ((GM Y (g_y (y_neq Z Z) Z Z (gnx ((c_cond Z (fun b6=>?_) (fun b6=>?_))))))))))
     ·replace b6:=OT b6
      refine csr ((g_y (y_build ze_51 pl_51 (.nil _)) Z Z (GM Y (g_e (ev_store f7 Z Z Z sz_51 Z (.here _ _ (.here _ _ (.here _ _ (.here _ _ (.here _ _ (.here _ _ (.here _ _ (.here _ _ (.here _ _ (.here _ _ (.nil _))))))))))) (.tl _ (.hd _))) Z Z ?_))))
      rintro _ s2 ⟨f8,s3⟩
      refine GA Y (gnx ((c_ret ?_)))
      have o2:sMake period b tax short rw taken=((⟨0,(⟨0,0,0⟩:Bases),0,0,([]:List Share),0,([]:List Taken),0⟩:Slip),o1):=ET (BE c5) (ET (BE c1) (ET (IN a8) (ET (BE c7) (ET (IN b0) (ET (BE d5) (ET (IN b2) (ET (BE f6) (ET (IP b6) (rfl)))))))))
      refine x_thenR (x_ret ⟨_,_,_,rfl,rfl,blk_cells f8 m1,sh_51,⟨_,_,rfl,rfl,rfl⟩⟩ ?_)
      exact ⟨_,_,rfl,f8.fr,f8.grow,by rw [o2]; exact ⟨_,rfl,⟨_,_,rfl,(Sl.nil_ _ _ _ none 0),(Sl.nil_ _ _ _ none 0)⟩⟩⟩
     ·replace b6:=OF b6
      refine c_skip (x_next (csr ((g_y (y_loadA (cs:=[.int .i64 a2,.int .i64 a3,.int .i64 a4,.int .i64 a5,.int .i64 a6,.int .i64 a7,.slice b7 (a0).length b8,.int .i64 a9.1,.slice b9 (a1).length c0,.int .i64 b5.1]) sh_51 Z ((blk_cells f7 m0).part (f:=0) (.take _ (.take _ (.take _ (.take _ (.take _ (.take _ (.take _ (.take _ (.take _ (.take _ (.nil _))))))))))))) Z Z (g_e (ev_store f7 Z Z Z sz_51 Z (.here _ _ (.here _ _ (.here _ _ (.here _ _ (.here _ _ (.here _ _ (.here _ _ (.here _ _ (.here _ _ (.here _ _ (.nil _))))))))))) (.tl _ (.hd _))) Z Z ?_)))))
      rintro _ s4 ⟨f9,i9⟩
      refine GA Y (gnx ((c_ret ?_)))
      have o3:sMake period b tax short rw taken=((⟨a2,(⟨a3,a4,a5⟩:Bases),a6,a7,a0,a9.1,a1,b5.1⟩:Slip),0):=ET (BE c5) (ET (BE c1) (ET (IN a8) (ET (BE c7) (ET (IN b0) (ET (BE d5) (ET (IN b2) (ET (BE f6) (ET (IN b6) (rfl)))))))))
      refine x_ret ⟨_,_,_,rfl,rfl,blk_cells f9 m1,sh_51,⟨_,_,rfl,rfl,rfl⟩⟩ (⟨_,_,rfl,f9.fr,f9.grow,by rw [o3]; exact ⟨_,rfl,⟨_,_,rfl,(i3.mono ((i5.t i8).t i9)),(i6.mono (i8.t i9))⟩⟩⟩)
def yCopied (s:Slip):Slip:=
 (bnd (clShare s.shares) fun a0=>
 (bnd (clTaken s.taken) fun a1=>
 (⟨s.period,s.bases,s.tax,s.shortfall,a0,s.net,a1,s.pay⟩:Slip)))
theorem yCopied_c {s:Slip} {cs_s:List Value} {d:Dat} {w:World} (hd:∀ b,d b→b < w.heap.size) (h_s:slipTy.rel d w s cs_s):Ret Tryz.prog 122 [.agg cs_s.toArray] w [] d (fun u d' w'=>∃ (cs0:List Value),u=.agg cs0.toArray∧slipTy.rel d' w' (yCopied s) cs0):=by
 obtain ⟨v1,v2,rfl,hS3,hS4⟩:=h_s
 obtain ⟨A5,c6,rfl,hn7,hb8⟩:=hS3.fm
 obtain ⟨A9,d5,rfl,d6,d7⟩:=hS4.fm
 refine ret_enter (n:=12) Tryz.func122 Z Z (ble Z) ?_
 have hI0:=Inv.start hd
 refine csr ((g_e (ev_box hI0 Z) Z Z ?_))
 rintro _ d8 ⟨d9,rfl,b5,a8⟩
 refine g_e (ev_alloc b5 ze_51) Z Z ?_
 rintro _ b6 ⟨e0,rfl,b7,a9⟩
 refine gnx ((c_seq ?_))
 have a1:=b7.drew; have b0:=Le.drew d b6
 refine c_drawK 7 follows_mixed a1 (k_y 0 (by kernel_rfl) Z Z Z (fun _ _=>(y_fieldAddr fo_51_4 Z)) (k_y 1 (by kernel_rfl) Z Z Z (fun e1 ⟨e2,b8,e3⟩=>(y_load1 sh_48 Z ((blk_cells b8 m1).nth_ (i:=6) Z))) (k_y 3 (by kernel_rfl) Z Z Z (fun _ _=>(y_fieldAddr fo_51_6 Z)) (k_y 4 (by kernel_rfl) Z Z Z (fun e4 ⟨e5,b9,e6⟩=>(y_load1 sh_49 Z ((blk_cells b9 m1).nth_ (i:=8) Z))) (k_all (is:=[2]) (by kernel_rfl) (by simp) (.cons ?_ .nil))))))
 have b1:=clShare_c (s:=s.shares) a1.lt (hS3.mono ((a8.t a9).t b0))
 obtain ⟨a2,a3⟩:∃ r,clShare s.shares=r:=⟨_,rfl⟩
 rw [a3] at b1
 have h8r148:a2.length=s.shares.length:=by rw [← a3,clShare_eq]
 refine k_op Z Z Z (ev_row a1 pf_199 Z b1) ?_
 rintro _ e7 ⟨e8,c0,c1,rfl,a0,b2⟩
 have c2:=row_len (a0.ok _ m0); unfold big at c2
 refine k_next (a0.drop (.hd _)) b2 (k_y 6 (by kernel_rfl) Z Z Z (fun _ _=>(y_fieldAddr fo_51_4 Z)) (k_all (is:=[5]) (by kernel_rfl) (by simp) (.cons ?_ .nil)))
 have b3:=clTaken_c (s:=s.taken) a0.lt (hS4.mono (((a8.t a9).t b0).t b2))
 obtain ⟨a4,a5⟩:∃ r,clTaken s.taken=r:=⟨_,rfl⟩
 rw [a5] at b3
 have h8r158:a4.length=s.taken.length:=by rw [← a5,clTaken_eq]
 refine k_op Z Z Z (ev_row a0 pf_193 Z b3) ?_
 rintro _ e9 ⟨f0,c3,c4,rfl,a6,c5⟩
 have c7:=row_len (a6.ok _ m0); unfold big at c7
 refine k_next ((a6.drop (.hd _)).drop (.hd _)) c5 (k_all (is:=[7]) (by kernel_rfl) (by simp) (.cons ?_ .nil))
 refine k_op Z Z Z (ev_store a6 Z Z Z sz_48 Z (.next _ (.next _ (.next _ (.next _ (.next _ (.next _ (.here _ _ (.nil _)))))))) (.tl _ (.tl _ (.tl _ (.hd _))))) ?_
 rintro _ f1 ⟨c8,f2⟩
 refine k_bar (b_all (i:=8) (by kernel_rfl) (by kernel_rfl) (k_op Z Z Z (Ev.of_y2 (y_fieldAddr fo_51_6 Z)) ?_))
 rintro _ _ ⟨rfl,rfl⟩
 refine k_bar (b_all (i:=9) (by kernel_rfl) (by kernel_rfl) (k_op Z Z Z (ev_store c8 Z Z Z sz_49 Z (.next _ (.next _ (.next _ (.next _ (.next _ (.next _ (.next _ (.next _ (.here _ _ (.nil _)))))))))) (.tl _ (.tl _ (.tl _ (.hd _))))) ?_))
 rintro _ f3 ⟨b4,f4⟩
 refine k_bar (b_done (by kernel_rfl) (x_draw ?_) (by kernel_rfl))
 refine x_next (csr ((g_y (y_loadA (cs:=[.int .i64 s.period,.int .i64 s.bases.cash,.int .i64 s.bases.taxable,.int .i64 s.bases.social,.int .i64 s.tax,.int .i64 s.shortfall,.slice c0 a2.length c1,.int .i64 s.net,.slice c3 a4.length c4,.int .i64 s.pay]) sh_51 Z ((blk_cells b4 m3).part (f:=0) (.take _ (.take _ (.take _ (.take _ (.take _ (.take _ (.take _ (.take _ (.take _ (.take _ (.nil _))))))))))))) Z Z (g_e (ev_store b4 Z Z Z sz_51 Z (.here _ _ (.here _ _ (.here _ _ (.here _ _ (.here _ _ (.here _ _ (.here _ _ (.here _ _ (.here _ _ (.here _ _ (.nil _))))))))))) (.tl _ (.tl _ (.hd _)))) Z Z ?_))))
 rintro _ f5 ⟨c9,f6⟩
 refine gnx ((c_ret ?_))
 obtain ⟨f7,d0,f8,d1⟩:=pub_row c9 (.tl _ (.hd _)) (by simp)
 obtain ⟨f9,a7,d2,d3⟩:=pub_row d0 (.hd _) (by simp)
 have d4:yCopied s=(⟨s.period,s.bases,s.tax,s.shortfall,a2,s.net,a4,s.pay⟩:Slip):=ET (BE a3) (ET (BE a5) (rfl))
 refine x_ret ⟨_,_,_,rfl,rfl,blk_cells a7 m0,sh_51,rfl⟩ (⟨_,_,rfl,a7.fr,a7.grow,by rw [d4]; exact ⟨_,rfl,⟨_,_,rfl,(d1.mono d2),d3⟩⟩⟩)
def rCopied_l1:List Input→Nat→(List Input)→List Input
 | [],a1,a0=>a0
 | a2 :: tl1,a1,a0=>(bnd (clElem a2.elements) fun a3=>
 (rCopied_l1 tl1 (a1 + 1) ((a0 ++ [(⟨a2.code,a3⟩:Input)]))))
def rCopied (list:(List Input)):(List Input):=
 (bnd (rCopied_l1 list 0 (([]:List Input))) fun a0=>
 a0)
theorem rCopied_c {list:(List Input)} {v_list:Value} {d:Dat} {w:World} (hd:∀ b,d b→b < w.heap.size) (h_list:Sl inputTy d w v_list list):Ret Tryz.prog 128 [v_list] w [] d (fun u d' w'=>Fresh (row inputTy 112 u (rCopied list)) d' w w'):=by
 obtain ⟨A1,c2,rfl,hn3,hb4⟩:=h_list.fm
 refine ret_enter (n:=23) Tryz.func128 Z Z (ble Z) ?_
 have hI0:=Inv.start hd
 refine csr ((GA Y (gnx ((csr ((GA Y (gnx ((c_seq (csr ((GM Y ?_)))))))))))))
 refine gln el_79 Z Z Z (GM Y (gnx (?_)))
 have d4:=nil_row inputTy 112 hI0
 refine c_cut1 (ι:=List Input × Option Addr × Nat × Dat) (fun ⟨a3,a9,b0,b1⟩=>[(3,.slice a9 a3.length b0)]) (fun ⟨a3,a9,b0,b1⟩ b3=>Inv [] d w b1 [row inputTy 112 (.slice a9 a3.length b0) (a3)] b3∧Le d w b1 b3∧rCopied_l1 list 0 (([]:List Input))=a3∧a3.length≤list.length) ?_ ?_
 ·refine c_block (c_loop (ι:=List Input × Option Addr × Nat × Nat × Dat) (fun ⟨a2,a5,a6,a1,a4⟩=>[(3,.slice a5 a2.length a6),(6,.slice A1 (list).length c2),(7,.int .i64 (list.length:Int)),(8,.int .i64 (a1:Int))]) (fun ⟨a2,a5,a6,a1,a4⟩ b4=>Inv [] d w a4 [row inputTy 112 (.slice a5 a2.length a6) (a2)] b4∧Le d w a4 b4∧rCopied_l1 list 0 (([]:List Input))=rCopied_l1 (list.drop a1) a1 a2∧a1≤list.length∧a2.length≤a1) (fun ⟨a2,a5,a6,a1,a4⟩=>list.length - a1) (([]:List Input),none,0,0,d) (.cons Z (.cons Z (.cons Z (.cons Z (.nil _))))) ⟨d4,Le.refl _ _,rfl,Nat.zero_le _,by simp⟩ ?_)
  rintro ⟨a2,a5,a6,a1,a4⟩ b4 ⟨b5,b6,c0,g0,g1⟩
  have d5:=row_len (b5.ok _ m0); unfold big at d5
  refine csr ((g_y (y_lss Z Z) Z Z (gnx ((c_seq (c_cond Z (fun a7=>?_) (fun a7=>?_)))))))
  ·replace a7:=OT a7
   obtain ⟨a0,c1⟩:=has (xs:=list) (k:=a1) (by omega)
   refine c_skip (x_next (c_seq (c_block (csr (?_)))))
   obtain ⟨g2,g3,g4,d6,d7,d8,g5⟩:=Sl.at_ (h_list.mono b6) c1
   obtain ⟨g6,rfl,c3⟩:=d7
   obtain ⟨d9,e0,rfl,g7,g8⟩:=c3.fm
   refine g_y (y_indexAddr (i:=a1) el_79 Z d6 Z (rfl) (by omega)) Z Z (g_y (y_loadA (cs:=[.int .i64 a0.code.scheme,.int .i64 a0.code.kind,.int .i64 a0.code.amount,.int .i64 a0.code.flat,.bool a0.code.alone,.slice d9 (a0.elements).length e0]) sh_112 Z (d8.part (f:=0) (.take _ (.take _ (.take _ (.take _ (.take _ (.take _ (.nil _))))))))) Z Z (g_e (ev_alloc b5 ze_112) Z Z ?_))
   rintro _ g9 ⟨h0,rfl,e1,c4⟩
   refine g_e (ev_store e1 Z Z Z sz_112 Z (.here _ _ (.here _ _ (.here _ _ (.here _ _ (.here _ _ (.here _ _ (.nil _))))))) (.hd _)) Z Z ?_
   rintro _ e2 ⟨e3,c5⟩
   refine gnx (?_)
   have b7:=e3.drew; have c6:=Le.drew a4 e2
   refine c_drawK 9 follows_mixed (b7.drop (.tl _ (.hd _))) (k_y 0 (by kernel_rfl) Z Z Z (fun _ _=>(y_move Z)) (k_y 1 (by kernel_rfl) Z Z Z (fun _ _=>(y_fieldAddr fo_112_0 Z)) (k_y 2 (by kernel_rfl) Z Z Z (fun h1 ⟨h2,e4,h3⟩=>(y_loadA (cs:=[.int .i64 a0.code.scheme,.int .i64 a0.code.kind,.int .i64 a0.code.amount,.int .i64 a0.code.flat,.bool a0.code.alone]) sh_28 Z ((blk_cells e4 m0).part (f:=0) (.take _ (.take _ (.take _ (.take _ (.take _ (.nil _))))))))) (k_y 3 (by kernel_rfl) Z Z Z (fun _ _=>(y_fieldAddr fo_112_1 Z)) (k_y 4 (by kernel_rfl) Z Z Z (fun h4 ⟨h5,e5,h6⟩=>(y_load1 sh_43 Z ((blk_cells e5 m0).nth_ (i:=5) Z))) (k_all (is:=[5]) (by kernel_rfl) (by simp) (.cons ?_ .nil)))))))
   have c7:=clElem_c (s:=a0.elements) b7.lt (c3.mono ((c4.t c5).t c6))
   obtain ⟨a8,b8⟩:∃ r,clElem a0.elements=r:=⟨_,rfl⟩
   rw [b8] at c7
   have h8r896:a8.length=a0.elements.length:=by rw [← b8,clElem_eq]
   refine k_op Z Z Z (ev_row b7 pf_136 Z c7) ?_
   rintro _ h7 ⟨h8,e6,e7,rfl,b9,c8⟩
   have e8:=row_len (b9.ok _ m0); unfold big at e8
   refine k_next ((b9.drop (.hd _)).drop (.tl _ (.hd _))) c8 (k_y 6 (by kernel_rfl) Z Z Z (fun _ _=>(y_build ze_112 pl_112 (.cons Z Z Z Z (.here _ _ (.here _ _ (.here _ _ (.here _ _ (.here _ _ (.nil _)))))) (ble Z) (.cons Z Z Z Z (.next _ (.next _ (.next _ (.next _ (.next _ (.here _ _ (.nil _))))))) (ble Z) (.nil _))))) (k_all (is:=[7]) (by kernel_rfl) (by simp) (.cons ?_ .nil)))
   obtain ⟨h9,e9,c9,f0⟩:=pub_row b9 (.hd _) (by simp)
   refine k_op Z Z Z (ev_buildSl (T:=inputTy) (xs:=[(⟨a0.code,a8⟩:Input)]) e9 el_79 ze_112 Z Z (ble Z) (ble Z) (.cons Z Z Z Z (.here _ _ (.here _ _ (.here _ _ (.here _ _ (.here _ _ (.here _ _ (.nil _))))))) (ble Z) (.nil _)) (.cons (x:=(⟨a0.code,a8⟩:Input)) (cs:=[.int .i64 a0.code.scheme,.int .i64 a0.code.kind,.int .i64 a0.code.amount,.int .i64 a0.code.flat,.bool a0.code.alone,.slice e6 (a8).length e7]) ⟨_,rfl,f0⟩ .nil)) ?_
   rintro _ i0 ⟨f1,d0,d1,f2,i1,rfl⟩
   refine k_next (d0.drop (.tl _ (.hd _))) (c9.t d1) (k_all (is:=[8]) (by kernel_rfl) (by simp) (.cons ?_ .nil))
   refine k_op Z Z Z (ev_append d0 ei_79 Z Z m1 f2 (by simp only [LA,LC,LN,big] at *; omega) (by simp only [LA,LC,LN,big] at *; omega)) ?_
   rintro _ i2 ⟨f3,d2,f4,f5,rfl⟩
   have d3:=f3 _ (.tl _ (.hd _))
   refine k_next (d3.drop (.tl _ (.hd _))) d2 (k_all (is:=[9]) (by kernel_rfl) (by simp) (.cons ?_ .nil))
   refine k_op Z Z Z (Ev.of_y2 (y_assign Z)) ?_
   rintro _ _ ⟨rfl,rfl⟩
   refine k_bar (b_done (by kernel_rfl) (x_draw ?_) (by kernel_rfl))
   refine x_blockN (x_next ?_)
   refine c_region (g_y (y_add Z Z (by omega)) Z Z (GM Y (g_nil ?_)))
   have f6:=d3.drop (.hd _)
   refine x_round ((a2 ++ [(⟨a0.code,a8⟩:Input)]),f4,f5,a1 + 1,f1) (by dsimp only; omega) (.cons Z (.cons Z (.cons Z (.cons Z (.nil _))))) ⟨f6,(((((((b6.t c4).t c5).t c6).t c8).t c9).t d1).t d2),c0.trans (ET (congrArg (fun l=>rCopied_l1 l a1 a2) (drop_cons c1)) (ET (BE b8) (rfl))),by omega,by first | omega | (simp only [LA,LC,LN] at *; omega)⟩
  ·replace a7:=OF a7
   refine c_exit (x_thenE (x_rndE (x_blockE (x_cut (a2,a5,a6,a4) (.cons Z (.nil _)) ⟨b5,b6,c0.trans (ET (congrArg (fun l=>rCopied_l1 l a1 a2) (drop_nil (by omega))) (rfl)),by first | omega | (simp only [LA,LC,LN] at *; omega)⟩))))
 ·rintro ⟨a3,a9,b0,b1⟩ b3 ⟨b2,i3,f7,i4⟩
  have f8:=row_len (b2.ok _ m0); unfold big at f8
  refine x_next (csr ((GM Y (GA Y (gnx ((c_ret ?_)))))))
  have f9:rCopied list=a3:=ET (BE f7) (rfl)
  refine x_ret ⟨_,_,rfl,rfl,rfl⟩ (⟨_,_,rfl,b2.fr,b2.grow,by rw [f9]; exact b2.fresh m0⟩)
def reCopied_l1:List Input→Nat→(List Input)→List Input
 | [],a1,a0=>a0
 | a2 :: tl1,a1,a0=>(bnd (clElem a2.elements) fun a3=>
 (reCopied_l1 tl1 (a1 + 1) ((a0 ++ [(⟨a2.code,a3⟩:Input)]))))
def reCopied (list:(List Input)):(List Input):=
 (bnd (reCopied_l1 list 0 (([]:List Input))) fun a0=>
 a0)
theorem reCopied_c {list:(List Input)} {v_list:Value} {d:Dat} {w:World} (hd:∀ b,d b→b < w.heap.size) (h_list:(row inputTy 112 v_list list).ok d w):Ret Tryz.prog 135 [v_list] w [] d (fun u d' w'=>Fresh (row inputTy 112 u (reCopied list)) d' w w'):=by
 obtain ⟨A2,c3,rfl,hn4,hb5⟩:=row_form h_list; unfold big at hb5
 refine ret_enter (n:=23) Tryz.func135 Z Z (ble Z) ?_
 have hI0:=Inv.start hd
 refine csr ((GA Y (gnx ((csr ((GA Y (gnx ((c_seq (csr ((GM Y ?_)))))))))))))
 refine gln el_79 Z Z Z (GM Y (gnx (?_)))
 have d4:=nil_row inputTy 112 hI0
 refine c_cut1 (ι:=List Input × Option Addr × Nat × Dat) (fun ⟨a3,a9,b0,b1⟩=>[(3,.slice a9 a3.length b0)]) (fun ⟨a3,a9,b0,b1⟩ b4=>Inv [] d w b1 [row inputTy 112 (.slice a9 a3.length b0) (a3)] b4∧Le d w b1 b4∧reCopied_l1 list 0 (([]:List Input))=a3∧a3.length≤list.length) ?_ ?_
 ·refine c_block (c_loop (ι:=List Input × Option Addr × Nat × Nat × Dat) (fun ⟨a2,a5,a6,a1,a4⟩=>[(3,.slice a5 a2.length a6),(6,.slice A2 list.length c3),(7,.int .i64 (list.length:Int)),(8,.int .i64 (a1:Int))]) (fun ⟨a2,a5,a6,a1,a4⟩ b5=>Inv [] d w a4 [row inputTy 112 (.slice a5 a2.length a6) (a2)] b5∧Le d w a4 b5∧reCopied_l1 list 0 (([]:List Input))=reCopied_l1 (list.drop a1) a1 a2∧a1≤list.length∧a2.length≤a1) (fun ⟨a2,a5,a6,a1,a4⟩=>list.length - a1) (([]:List Input),none,0,0,d) (.cons Z (.cons Z (.cons Z (.cons Z (.nil _))))) ⟨d4,Le.refl _ _,rfl,Nat.zero_le _,by simp⟩ ?_)
  rintro ⟨a2,a5,a6,a1,a4⟩ b5 ⟨b2,b6,c0,g0,g1⟩
  have d5:=row_len (b2.ok _ m0); unfold big at d5
  refine csr ((g_y (y_lss Z Z) Z Z (gnx ((c_seq (c_cond Z (fun a7=>?_) (fun a7=>?_)))))))
  ·replace a7:=OT a7
   obtain ⟨a0,c1⟩:=has (xs:=list) (k:=a1) (by omega)
   refine c_skip (x_next (c_seq (c_block (csr (?_)))))
   obtain ⟨g2,g3,d6,d7,d8⟩:=row_at0 (Res.keepB _ h_list b6 b2 (by simp)) c1
   obtain ⟨g4,rfl,c2⟩:=d7
   obtain ⟨d9,e0,rfl,g5,g6⟩:=c2.fm
   refine g_y (y_indexAddr (i:=a1) el_79 Z d6 Z (rfl) (by omega)) Z Z (g_y (y_loadA (cs:=[.int .i64 a0.code.scheme,.int .i64 a0.code.kind,.int .i64 a0.code.amount,.int .i64 a0.code.flat,.bool a0.code.alone,.slice d9 (a0.elements).length e0]) sh_112 Z (d8.part (f:=0) (.take _ (.take _ (.take _ (.take _ (.take _ (.take _ (.nil _))))))))) Z Z (g_e (ev_alloc b2 ze_112) Z Z ?_))
   rintro _ g7 ⟨g8,rfl,e1,c4⟩
   refine g_e (ev_store e1 Z Z Z sz_112 Z (.here _ _ (.here _ _ (.here _ _ (.here _ _ (.here _ _ (.here _ _ (.nil _))))))) (.hd _)) Z Z ?_
   rintro _ e2 ⟨e3,c5⟩
   refine gnx (?_)
   have b7:=e3.drew; have c6:=Le.drew a4 e2
   refine c_drawK 9 follows_mixed (b7.drop (.tl _ (.hd _))) (k_y 0 (by kernel_rfl) Z Z Z (fun _ _=>(y_move Z)) (k_y 1 (by kernel_rfl) Z Z Z (fun _ _=>(y_fieldAddr fo_112_0 Z)) (k_y 2 (by kernel_rfl) Z Z Z (fun g9 ⟨h0,e4,h1⟩=>(y_loadA (cs:=[.int .i64 a0.code.scheme,.int .i64 a0.code.kind,.int .i64 a0.code.amount,.int .i64 a0.code.flat,.bool a0.code.alone]) sh_28 Z ((blk_cells e4 m0).part (f:=0) (.take _ (.take _ (.take _ (.take _ (.take _ (.nil _))))))))) (k_y 3 (by kernel_rfl) Z Z Z (fun _ _=>(y_fieldAddr fo_112_1 Z)) (k_y 4 (by kernel_rfl) Z Z Z (fun h2 ⟨h3,e5,h4⟩=>(y_load1 sh_43 Z ((blk_cells e5 m0).nth_ (i:=5) Z))) (k_all (is:=[5]) (by kernel_rfl) (by simp) (.cons ?_ .nil)))))))
   have c7:=clElem_c (s:=a0.elements) b7.lt (c2.mono ((c4.t c5).t c6))
   obtain ⟨a8,b8⟩:∃ r,clElem a0.elements=r:=⟨_,rfl⟩
   rw [b8] at c7
   have h8r881:a8.length=a0.elements.length:=by rw [← b8,clElem_eq]
   refine k_op Z Z Z (ev_row b7 pf_136 Z c7) ?_
   rintro _ h5 ⟨h6,e6,e7,rfl,b9,c8⟩
   have e8:=row_len (b9.ok _ m0); unfold big at e8
   refine k_next ((b9.drop (.hd _)).drop (.tl _ (.hd _))) c8 (k_y 6 (by kernel_rfl) Z Z Z (fun _ _=>(y_build ze_112 pl_112 (.cons Z Z Z Z (.here _ _ (.here _ _ (.here _ _ (.here _ _ (.here _ _ (.nil _)))))) (ble Z) (.cons Z Z Z Z (.next _ (.next _ (.next _ (.next _ (.next _ (.here _ _ (.nil _))))))) (ble Z) (.nil _))))) (k_all (is:=[7]) (by kernel_rfl) (by simp) (.cons ?_ .nil)))
   obtain ⟨h7,e9,c9,f0⟩:=pub_row b9 (.hd _) (by simp)
   refine k_op Z Z Z (ev_buildSl (T:=inputTy) (xs:=[(⟨a0.code,a8⟩:Input)]) e9 el_79 ze_112 Z Z (ble Z) (ble Z) (.cons Z Z Z Z (.here _ _ (.here _ _ (.here _ _ (.here _ _ (.here _ _ (.here _ _ (.nil _))))))) (ble Z) (.nil _)) (.cons (x:=(⟨a0.code,a8⟩:Input)) (cs:=[.int .i64 a0.code.scheme,.int .i64 a0.code.kind,.int .i64 a0.code.amount,.int .i64 a0.code.flat,.bool a0.code.alone,.slice e6 (a8).length e7]) ⟨_,rfl,f0⟩ .nil)) ?_
   rintro _ h8 ⟨f1,d0,d1,f2,h9,rfl⟩
   refine k_next (d0.drop (.tl _ (.hd _))) (c9.t d1) (k_all (is:=[8]) (by kernel_rfl) (by simp) (.cons ?_ .nil))
   refine k_op Z Z Z (ev_append d0 ei_79 Z Z m1 f2 (by simp only [LA,LC,LN,big] at *; omega) (by simp only [LA,LC,LN,big] at *; omega)) ?_
   rintro _ i0 ⟨f3,d2,f4,f5,rfl⟩
   have d3:=f3 _ (.tl _ (.hd _))
   refine k_next (d3.drop (.tl _ (.hd _))) d2 (k_all (is:=[9]) (by kernel_rfl) (by simp) (.cons ?_ .nil))
   refine k_op Z Z Z (Ev.of_y2 (y_assign Z)) ?_
   rintro _ _ ⟨rfl,rfl⟩
   refine k_bar (b_done (by kernel_rfl) (x_draw ?_) (by kernel_rfl))
   refine x_blockN (x_next ?_)
   refine c_region (g_y (y_add Z Z (by omega)) Z Z (GM Y (g_nil ?_)))
   have f6:=d3.drop (.hd _)
   refine x_round ((a2 ++ [(⟨a0.code,a8⟩:Input)]),f4,f5,a1 + 1,f1) (by dsimp only; omega) (.cons Z (.cons Z (.cons Z (.cons Z (.nil _))))) ⟨f6,(((((((b6.t c4).t c5).t c6).t c8).t c9).t d1).t d2),c0.trans (ET (congrArg (fun l=>reCopied_l1 l a1 a2) (drop_cons c1)) (ET (BE b8) (rfl))),by omega,by first | omega | (simp only [LA,LC,LN] at *; omega)⟩
  ·replace a7:=OF a7
   refine c_exit (x_thenE (x_rndE (x_blockE (x_cut (a2,a5,a6,a4) (.cons Z (.nil _)) ⟨b2,b6,c0.trans (ET (congrArg (fun l=>reCopied_l1 l a1 a2) (drop_nil (by omega))) (rfl)),by first | omega | (simp only [LA,LC,LN] at *; omega)⟩))))
 ·rintro ⟨a3,a9,b0,b1⟩ b4 ⟨b3,i1,f7,i2⟩
  have f8:=row_len (b3.ok _ m0); unfold big at f8
  refine x_next (csr ((GM Y (GA Y (gnx ((c_ret ?_)))))))
  have f9:reCopied list=a3:=ET (BE f7) (rfl)
  refine x_ret ⟨_,_,rfl,rfl,rfl⟩ (⟨_,_,rfl,b3.fr,b3.grow,by rw [f9]; exact b3.fresh m0⟩)
theorem rCopied_l1_eq:∀ (l:List Input) (k:Nat) (xs:List Input),rCopied_l1 l k xs=xs ++ l
 | [],_,xs=>by simp [rCopied_l1]
 | x :: l,k,xs=>by
  unfold rCopied_l1
  simp only [bnd,clElem_eq]
  rw [rCopied_l1_eq l]
  simp
theorem rCopied_eq {l:List Input}:rCopied l=l:=by
 unfold rCopied
 simp only [bnd]
 rw [rCopied_l1_eq]
 simp
theorem reCopied_l1_eq:∀ (l:List Input) (k:Nat) (xs:List Input),reCopied_l1 l k xs=xs ++ l
 | [],_,xs=>by simp [reCopied_l1]
 | x :: l,k,xs=>by
  unfold reCopied_l1
  simp only [bnd,clElem_eq]
  rw [reCopied_l1_eq l]
  simp
theorem reCopied_eq {l:List Input}:reCopied l=l:=by
 unfold reCopied
 simp only [bnd]
 rw [reCopied_l1_eq]
 simp
def shPost (posted:(List Share)) (now_:(List Share)):(List Share) × Int:=
 (if ((posted.length:Int)≠(now_.length:Int)) then (([]:List Share),3)
 else (bnd (sSum ((posted.length:Int)) ([posted,now_])) fun a0=>
 (a0.1,a0.2)))
theorem shPost_c {posted:(List Share)} {v_posted:Value} {now_:(List Share)} {v_now_:Value} {d:Dat} {w:World} (hd:∀ b,d b→b < w.heap.size) (h_posted:Sl shareTy d w v_posted posted) (h_now_:Sl shareTy d w v_now_ now_):Ret Tryz.prog 209 [v_posted,v_now_] w [] d (fun u d' w'=>∃ (v0:Value),u=.tuple #[v0,.int .i64 ((shPost posted now_).2)]∧Sl shareTy d' w' v0 (shPost posted now_).1):=by
 obtain ⟨A1,c2,rfl,hn3,hb4⟩:=h_posted.fm
 obtain ⟨A5,c6,rfl,hn7,hb8⟩:=h_now_.fm
 refine ret_enter (n:=19) Tryz.func209 Z Z (ble Z) ?_
 have hI0:=Inv.start hd
 refine csr ((GA Y (GA Y (gnx ((c_seq (csr ((GM Y (gln el_62 Z Z Z (GM Y (gln el_62 Z Z Z (g_y (y_neq Z Z) Z Z ?_)))))))))))))
 refine gnx ((c_cond Z (fun a0=>?_) (fun a0=>?_)))
 ·replace a0:=OT a0
  refine csr ((GA Y (GA Y (gnx ((c_ret ?_))))))
  have a7:shPost posted now_=(([]:List Share),3):=ET (IP a0) (rfl)
  refine x_thenR (x_ret ⟨_,_,rfl,rfl,⟨_,_,rfl,rfl,rfl⟩⟩ ?_)
  exact ⟨_,_,rfl,hI0.fr,hI0.grow,by rw [a7]; exact ⟨_,rfl,(Sl.nil_ _ _ _ none 0)⟩⟩
 ·replace a0:=OF a0
  refine c_skip (x_next (csr ((GM Y (gln el_62 Z Z Z (GM Y (GM Y (g_e (ev_buildSl (T:=(Ty.slice shareTy)) (xs:=[posted,now_]) hI0 el_332 ze_62 Z Z (ble Z) (ble Z) (.cons Z Z Z Z (.here _ _ (.nil _)) (ble Z) (.cons Z Z Z Z (.next _ (.here _ _ (.nil _))) (ble Z) (.nil _))) (.cons (x:=posted) (cs:=[.slice A1 (posted).length c2]) ⟨_,rfl,h_posted⟩ (.cons (x:=now_) (cs:=[.slice A5 (now_).length c6]) ⟨_,rfl,h_now_⟩ .nil))) Z Z ?_))))))))
  rintro _ b0 ⟨b1,a1,b2,a8,b3,rfl⟩
  have a2:=sSum_c (n:=(posted.length:Int)) (list:=[posted,now_]) a1.lt a8
  obtain ⟨a3,a4⟩:∃ r,sSum ((posted.length:Int)) ([posted,now_])=r:=⟨_,rfl⟩
  rw [a4] at a2
  refine g_e (ev_pure a1 pf_137 Z a2) Z Z ?_
  rintro _ b4 ⟨b5,a5,b6,⟨b7,rfl,a6⟩⟩
  obtain ⟨b8,b9,rfl,c0,c1⟩:=a6.fm
  refine g_y (y_extract Z Z) Z Z (g_y (y_extract Z Z) Z Z (GA Y (GA Y (gnx ((c_ret ?_))))))
  have a9:shPost posted now_=(a3.1,a3.2):=ET (IN a0) (ET (BE a4) (rfl))
  refine x_ret ⟨_,_,rfl,rfl,⟨_,_,rfl,rfl,rfl⟩⟩ (⟨_,_,rfl,a5.fr,a5.grow,by rw [a9]; exact ⟨_,rfl,a6⟩⟩)
def yAdd (t:Totals) (s:Slip):Totals × Int:=
 (bnd (baseAdd t.bases s.bases) fun a0=>
 (if (a0.2≠0) then (t,a0.2)
 else (bnd (aSum s.taken) fun a1=>
 (if (a1.2≠0) then (t,a1.2)
 else (bnd (mAdd t.tax s.tax) fun a2=>
 (if (a2.2≠0) then (t,a2.2)
 else (bnd (mAdd t.net s.net) fun a3=>
 (if (a3.2≠0) then (t,a3.2)
 else (bnd (mAdd t.taken a1.1) fun a4=>
 (if (a4.2≠0) then (t,a4.2)
 else (bnd (mAdd t.pay s.pay) fun a5=>
 (if (a5.2≠0) then (t,a5.2)
 else (bnd (shPost t.shares s.shares) fun a6=>
 (if (a6.2≠0) then (t,a6.2)
 else ((⟨a0.1,a2.1,s.shortfall,a6.1,a3.1,a4.1,a5.1⟩:Totals),0)))))))))))))))
theorem yAdd_c {t:Totals} {cs_t:List Value} {s:Slip} {cs_s:List Value} {d:Dat} {w:World} (hd:∀ b,d b→b < w.heap.size) (h_t:totalsTy.rel d w t cs_t) (h_s:slipTy.rel d w s cs_s):Ret Tryz.prog 138 [.agg cs_t.toArray,.agg cs_s.toArray] w [] d (fun u d' w'=>∃ (cs0:List Value),u=.tuple #[.agg cs0.toArray,.int .i64 ((yAdd t s).2)]∧totalsTy.rel d' w' (yAdd t s).1 cs0):=by
 obtain ⟨v1,rfl,hS2⟩:=h_t
 obtain ⟨A3,c4,rfl,hn5,hb6⟩:=hS2.fm
 obtain ⟨v7,v8,rfl,hS9,h1⟩:=h_s
 obtain ⟨o6,o7,rfl,o8,o9⟩:=hS9.fm
 obtain ⟨p0,p1,rfl,p2,p3⟩:=h1.fm
 refine ret_enter (n:=89) Tryz.func138 Z Z (ble Z) ?_
 have hI0:=Inv.start hd
 refine csr ((g_e (ev_box hI0 Z) Z Z ?_))
 rintro _ p4 ⟨p5,rfl,i7,a3⟩
 refine g_e (ev_box i7 Z) Z Z ?_
 rintro _ p6 ⟨p7,rfl,i8,a4⟩
 refine g_e (ev_alloc i8 ze_64) Z Z ?_
 rintro _ p8 ⟨p9,rfl,h2,a5⟩
 refine GA Y (gnx ((csr ((g_y (y_loadA (cs:=[.int .i64 t.bases.cash,.int .i64 t.bases.taxable,.int .i64 t.bases.social,.int .i64 t.tax,.int .i64 t.shortfall,.slice A3 (t.shares).length c4,.int .i64 t.net,.int .i64 t.taken,.int .i64 t.pay]) sh_64 Z ((blk_cells h2 m2).part (f:=0) (.take _ (.take _ (.take _ (.take _ (.take _ (.take _ (.take _ (.take _ (.take _ (.nil _)))))))))))) Z Z (g_e (ev_alloc h2 ze_64) Z Z ?_))))))
 rintro _ q0 ⟨e6,rfl,i9,a6⟩
 refine g_e (ev_store i9 Z Z Z sz_64 Z (.here _ _ (.here _ _ (.here _ _ (.here _ _ (.here _ _ (.here _ _ (.here _ _ (.here _ _ (.here _ _ (.nil _)))))))))) (.hd _)) Z Z ?_
 rintro _ q1 ⟨e7,a7⟩
 refine gnx ((csr ((GA Y (gnx ((c_seq (csr ((gfa fo_64_0 Z Z Z (g_y (y_loadA (cs:=[.int .i64 t.bases.cash,.int .i64 t.bases.taxable,.int .i64 t.bases.social]) sh_47 Z ((blk_cells e7 m3).part (f:=0) (.take _ (.take _ (.take _ (.nil _)))))) Z Z (gfa fo_51_1 Z Z Z (g_y (y_loadA (cs:=[.int .i64 s.bases.cash,.int .i64 s.bases.taxable,.int .i64 s.bases.social]) sh_47 Z ((blk_cells e7 m2).part (f:=1) (.skip _ (.take _ (.take _ (.take _ (.nil _))))))) Z Z ?_)))))))))))))
 have h3:=baseAdd_c (a:=t.bases) (b:=s.bases) e7.lt
 obtain ⟨d4,b1⟩:∃ r,baseAdd t.bases s.bases=r:=⟨_,rfl⟩
 rw [b1] at h3
 refine g_e (ev_pure e7 pf_206 Z h3) Z Z ?_
 rintro _ q2 ⟨q3,j0,a8,rfl⟩
 refine GM Y (g_y (y_extract Z Z) Z Z (g_y (y_extract Z Z) Z Z (gfa fo_64_0 Z Z Z (g_e (ev_store j0 Z Z Z sz_47 Z (.here _ _ (.here _ _ (.here _ _ (.nil _)))) (.hd _)) Z Z ?_))))
 rintro _ q4 ⟨d5,a9⟩
 refine GA Y (gnx ((csr ((GM Y (g_y (y_neq Z Z) Z Z (gnx ((c_cond Z (fun a0=>?_) (fun a0=>?_))))))))))
 ·replace a0:=OT a0
  refine csr ((g_y (y_loadA (cs:=[.int .i64 t.bases.cash,.int .i64 t.bases.taxable,.int .i64 t.bases.social,.int .i64 t.tax,.int .i64 t.shortfall,.slice A3 (t.shares).length c4,.int .i64 t.net,.int .i64 t.taken,.int .i64 t.pay]) sh_64 Z ((blk_cells d5 m3).part (f:=0) (.take _ (.take _ (.take _ (.take _ (.take _ (.take _ (.take _ (.take _ (.take _ (.nil _)))))))))))) Z Z (GM Y (g_e (ev_store d5 Z Z Z sz_64 Z (.here _ _ (.here _ _ (.here _ _ (.here _ _ (.here _ _ (.here _ _ (.here _ _ (.here _ _ (.here _ _ (.nil _)))))))))) (.tl _ (.hd _))) Z Z ?_))))
  rintro _ q5 ⟨f7,j1⟩
  refine GA Y (gnx ((c_ret ?_)))
  have j2:yAdd t s=(t,d4.2):=ET (BE b1) (ET (IP a0) (rfl))
  refine x_thenR (x_ret ⟨_,_,_,rfl,rfl,blk_cells f7 m1,sh_64,⟨_,_,rfl,rfl,rfl⟩⟩ ?_)
  exact ⟨_,_,rfl,f7.fr,f7.grow,by rw [j2]; exact ⟨_,rfl,⟨_,rfl,(hS2.mono (((((((a3.t a4).t a5).t a6).t a7).t a8).t a9).t j1))⟩⟩⟩
 ·replace a0:=OF a0
  refine c_skip (x_next (csr ((gfa fo_51_6 Z Z Z (gld sh_49 Z d5 m2 (i:=8) Z Z Z ?_)))))
  have h4:=aSum_c (list:=s.taken) d5.lt (h1.mono ((((((a3.t a4).t a5).t a6).t a7).t a8).t a9))
  obtain ⟨e8,b3⟩:∃ r,aSum s.taken=r:=⟨_,rfl⟩
  rw [b3] at h4
  refine g_e (ev_pure d5 pf_115 Z h4) Z Z ?_
  rintro _ q6 ⟨j3,c7,b4,rfl⟩
  refine GM Y (g_y (y_extract Z Z) Z Z (g_y (y_extract Z Z) Z Z (GA Y (GA Y (gnx ((c_seq (csr ((GM Y (g_y (y_neq Z Z) Z Z (gnx (?_)))))))))))))
  refine c_cond Z (fun a1=>?_) (fun a1=>?_)
  ·replace a1:=OT a1
   refine csr ((g_y (y_loadA (cs:=[.int .i64 t.bases.cash,.int .i64 t.bases.taxable,.int .i64 t.bases.social,.int .i64 t.tax,.int .i64 t.shortfall,.slice A3 (t.shares).length c4,.int .i64 t.net,.int .i64 t.taken,.int .i64 t.pay]) sh_64 Z ((blk_cells c7 m3).part (f:=0) (.take _ (.take _ (.take _ (.take _ (.take _ (.take _ (.take _ (.take _ (.take _ (.nil _)))))))))))) Z Z (GM Y (g_e (ev_store c7 Z Z Z sz_64 Z (.here _ _ (.here _ _ (.here _ _ (.here _ _ (.here _ _ (.here _ _ (.here _ _ (.here _ _ (.here _ _ (.nil _)))))))))) (.tl _ (.hd _))) Z Z ?_))))
   rintro _ q7 ⟨f8,j4⟩
   refine GA Y (gnx ((c_ret ?_)))
   have j5:yAdd t s=(t,e8.2):=ET (BE b1) (ET (IN a0) (ET (BE b3) (ET (IP a1) (rfl))))
   refine x_thenR (x_ret ⟨_,_,_,rfl,rfl,blk_cells f8 m1,sh_64,⟨_,_,rfl,rfl,rfl⟩⟩ ?_)
   exact ⟨_,_,rfl,f8.fr,f8.grow,by rw [j5]; exact ⟨_,rfl,⟨_,rfl,(hS2.mono ((((((((a3.t a4).t a5).t a6).t a7).t a8).t a9).t b4).t j4))⟩⟩⟩
  ·replace a1:=OF a1
   refine c_skip (x_next (c_seq (csr ((gfa fo_64_1 Z Z Z (gfa fo_51_2 Z Z Z (gld sh_2 Z c7 m2 (i:=4) Z Z Z (g_y (y_build ze_336 pl_336 (.cons Z Z Z Z (.here _ _ (.nil _)) (ble Z) (.cons Z Z Z Z (.next _ (.here _ _ (.nil _))) (ble Z) (.nil _)))) Z Z (gfa fo_64_4 Z Z Z (gfa fo_51_5 Z Z Z (gld sh_2 Z c7 m2 (i:=7) Z Z Z (g_y (y_build ze_336 pl_336 (.cons Z Z Z Z (.here _ _ (.nil _)) (ble Z) (.cons Z Z Z Z (.next _ (.here _ _ (.nil _))) (ble Z) (.nil _)))) Z Z (gfa fo_64_5 Z Z Z ?_)))))))))))))
   refine GM Y (g_y (y_build ze_336 pl_336 (.cons Z Z Z Z (.here _ _ (.nil _)) (ble Z) (.cons Z Z Z Z (.next _ (.here _ _ (.nil _))) (ble Z) (.nil _)))) Z Z (gfa fo_64_6 Z Z Z (gfa fo_51_7 Z Z Z (gld sh_2 Z c7 m2 (i:=9) Z Z Z (g_y (y_build ze_336 pl_336 (.cons Z Z Z Z (.here _ _ (.nil _)) (ble Z) (.cons Z Z Z Z (.next _ (.here _ _ (.nil _))) (ble Z) (.nil _)))) Z Z (g_y (y_buildA ze_337 ar_337 (.cons Z Z Z Z (.here _ _ (.here _ _ (.nil _))) (ble Z) (.cons Z Z Z Z (.next _ (.next _ (.here _ _ (.here _ _ (.nil _))))) (ble Z) (.cons Z Z Z Z (.next _ (.next _ (.next _ (.next _ (.here _ _ (.here _ _ (.nil _))))))) (ble Z) (.cons Z Z Z Z (.next _ (.next _ (.next _ (.next _ (.next _ (.next _ (.here _ _ (.here _ _ (.nil _))))))))) (ble Z) (.nil _)))))) Z Z (GM Y (gnx ((c_block (c_loop_n 4 (csr (?_)))))))))))))
   refine g_y (y_lss Z Z) Z Z (gnx ((c_seq (c_condT Z (c_skip (x_next (c_seq (c_block (csr ((g_y (y_indexA (i:=0) (out:=[.pointer (some ⟨e6,0 + 3,none⟩),.int .i64 s.tax]) ar_337 sh_336 Z Z Z (ble Z) (.take _ (.take _ (.nil _)))) Z Z (g_e (ev_alloc c7 ze_336) Z Z ?_))))))))))))
   rintro _ q8 ⟨q9,rfl,j6,b8⟩
   refine g_e (ev_store j6 Z Z Z sz_336 Z (.here _ _ (.here _ _ (.nil _))) (.hd _)) Z Z ?_
   rintro _ j7 ⟨j8,b9⟩
   refine gnx ((c_seq ?_))
   have d6:=j8.drew; have c0:=Le.drew j3 j7
   refine c_drawK 14 follows_mixed (d6.drop (.tl _ (.hd _))) (k_y 0 (by kernel_rfl) Z Z Z (fun _ _=>(y_fieldAddr fo_336_0 Z)) (k_y 1 (by kernel_rfl) Z Z Z (fun r0 ⟨r1,j9,r2⟩=>(y_load1 sh_335 Z ((blk_cells j9 m0).nth_ (i:=0) Z))) (k_y 2 (by kernel_rfl) Z Z Z (fun _ _=>(y_fieldAddr fo_336_0 Z)) (k_y 3 (by kernel_rfl) Z Z Z (fun r3 ⟨r4,k0,r5⟩=>(y_load1 sh_335 Z ((blk_cells k0 m0).nth_ (i:=0) Z))) (k_y 4 (by kernel_rfl) Z Z Z (fun _ _=>(y_nilCheck Z)) (k_y 6 (by kernel_rfl) Z Z Z (fun _ _=>(y_fieldAddr fo_336_1 Z)) (k_y 7 (by kernel_rfl) Z Z Z (fun r6 ⟨r7,k1,r8⟩=>(y_load1 sh_2 Z ((blk_cells k1 m0).nth_ (i:=1) Z))) (k_all (is:=[5]) (by kernel_rfl) (by simp) (.cons ?_ .nil)))))))))
   refine k_op Z Z Z (Ev.of_y2 (y_load1 sh_2 Z ((blk_cells d6 m1).nth_ (i:=3) Z))) ?_
   rintro _ _ ⟨rfl,rfl⟩
   refine k_next (d6.drop (.tl _ (.hd _))) (Le.refl _ _) (k_all (is:=[8]) (by kernel_rfl) (by simp) (.cons ?_ .nil))
   have h5:=mAdd_c (a:=t.tax) (b:=s.tax) d6.lt
   obtain ⟨f9,c1⟩:∃ r,mAdd t.tax s.tax=r:=⟨_,rfl⟩
   rw [c1] at h5
   refine k_op Z Z Z (ev_pure d6 pf_116 Z h5) ?_
   rintro _ r9 ⟨k2,h6,b5,rfl⟩
   refine k_next (h6.drop (.tl _ (.hd _))) b5 (k_y 9 (by kernel_rfl) Z Z Z (fun _ _=>(y_move Z)) (k_y 10 (by kernel_rfl) Z Z Z (fun _ _=>(y_extract Z Z)) (k_y 11 (by kernel_rfl) Z Z Z (fun _ _=>(y_extract Z Z)) (k_y 12 (by kernel_rfl) Z Z Z (fun _ _=>(y_nilCheck Z)) (k_all (is:=[13]) (by kernel_rfl) (by simp) (.cons ?_ .nil))))))
   refine k_op Z Z Z (ev_store h6 Z Z Z sz_2 Z (.next _ (.next _ (.next _ (.here _ _ (.nil _))))) (.tl _ (.hd _))) ?_
   rintro _ s0 ⟨e9,b6⟩
   refine k_next (e9.drop (.tl _ (.hd _))) b6 (k_all (is:=[14]) (by kernel_rfl) (by simp) (.cons ?_ .nil))
   refine k_op Z Z Z (Ev.of_y2 (y_assign Z)) ?_
   rintro _ _ ⟨rfl,rfl⟩
   refine k_bar (b_done (by kernel_rfl) (x_draw ?_) (by kernel_rfl))
   refine x_next (csr ((GM Y (g_y (y_neq Z Z) Z Z (gnx ((c_cond Z (fun a2=>?_) (fun a2=>?_))))))))
   ·replace a2:=OT a2
    refine csr ((g_y (y_loadA (cs:=[.int .i64 t.bases.cash,.int .i64 t.bases.taxable,.int .i64 t.bases.social,.int .i64 t.tax,.int .i64 t.shortfall,.slice A3 (t.shares).length c4,.int .i64 t.net,.int .i64 t.taken,.int .i64 t.pay]) sh_64 Z ((blk_cells e9 m4).part (f:=0) (.take _ (.take _ (.take _ (.take _ (.take _ (.take _ (.take _ (.take _ (.take _ (.nil _)))))))))))) Z Z (GM Y (g_e (ev_store e9 Z Z Z sz_64 Z (.here _ _ (.here _ _ (.here _ _ (.here _ _ (.here _ _ (.here _ _ (.here _ _ (.here _ _ (.here _ _ (.nil _)))))))))) (.tl _ (.tl _ (.hd _)))) Z Z ?_))))
    rintro _ s1 ⟨g0,k3⟩
    refine GA Y (gnx ((c_ret ?_)))
    have k4:yAdd t s=(t,f9.2):=ET (BE b1) (ET (IN a0) (ET (BE b3) (ET (IN a1) (ET (BE c1) (ET (IP a2) (rfl))))))
    refine x_blockR (x_thenR (x_thenR (x_blockR (x_thenR (x_ret ⟨_,_,_,rfl,rfl,blk_cells g0 m2,sh_64,⟨_,_,rfl,rfl,rfl⟩⟩ ?_)))))
    exact ⟨_,_,rfl,g0.fr,g0.grow,by rw [k4]; exact ⟨_,rfl,⟨_,rfl,(hS2.mono (((((((((((((a3.t a4).t a5).t a6).t a7).t a8).t a9).t b4).t b8).t b9).t c0).t b5).t b6).t k3))⟩⟩⟩
   ·replace a2:=OF a2
    refine c_skip (x_blockN (x_next ?_))
    refine c_region (g_y (y_add Z Z (by omega)) Z Z (GM Y (g_nil (x_again (csr ((g_y (y_lss Z Z) Z Z (gnx ((c_seq (c_condT Z (c_skip (x_next ?_)))))))))))))
    refine c_seq (c_block (csr ((g_y (y_indexA (i:=1) (out:=[.pointer (some ⟨e6,0 + 6,none⟩),.int .i64 s.net]) ar_337 sh_336 Z Z Z (ble Z) (.skip _ (.skip _ (.take _ (.take _ (.nil _)))))) Z Z (g_e (ev_alloc e9 ze_336) Z Z ?_)))))
    rintro _ s2 ⟨s3,rfl,k5,c8⟩
    refine g_e (ev_store k5 Z Z Z sz_336 Z (.here _ _ (.here _ _ (.nil _))) (.hd _)) Z Z ?_
    rintro _ k6 ⟨k7,c9⟩
    refine gnx ((c_seq ?_))
    have d7:=k7.drew; have d0:=Le.drew k2 k6
    refine c_drawK 14 follows_mixed (d7.drop (.tl _ (.tl _ (.hd _)))) (k_y 0 (by kernel_rfl) Z Z Z (fun _ _=>(y_fieldAddr fo_336_0 Z)) (k_y 1 (by kernel_rfl) Z Z Z (fun s4 ⟨s5,k8,s6⟩=>(y_load1 sh_335 Z ((blk_cells k8 m0).nth_ (i:=0) Z))) (k_y 2 (by kernel_rfl) Z Z Z (fun _ _=>(y_fieldAddr fo_336_0 Z)) (k_y 3 (by kernel_rfl) Z Z Z (fun s7 ⟨s8,k9,s9⟩=>(y_load1 sh_335 Z ((blk_cells k9 m0).nth_ (i:=0) Z))) (k_y 4 (by kernel_rfl) Z Z Z (fun _ _=>(y_nilCheck Z)) (k_y 6 (by kernel_rfl) Z Z Z (fun _ _=>(y_fieldAddr fo_336_1 Z)) (k_y 7 (by kernel_rfl) Z Z Z (fun t0 ⟨t1,l0,t2⟩=>(y_load1 sh_2 Z ((blk_cells l0 m0).nth_ (i:=1) Z))) (k_all (is:=[5]) (by kernel_rfl) (by simp) (.cons ?_ .nil)))))))))
    refine k_op Z Z Z (Ev.of_y2 (y_load1 sh_2 Z ((blk_cells d7 m2).nth_ (i:=6) Z))) ?_
    rintro _ _ ⟨rfl,rfl⟩
    refine k_next (d7.drop (.tl _ (.tl _ (.hd _)))) (Le.refl _ _) (k_all (is:=[8]) (by kernel_rfl) (by simp) (.cons ?_ .nil))
    have h7:=mAdd_c (a:=t.net) (b:=s.net) d7.lt
    obtain ⟨g1,d1⟩:∃ r,mAdd t.net s.net=r:=⟨_,rfl⟩
    rw [d1] at h7
    refine k_op Z Z Z (ev_pure d7 pf_116 Z h7) ?_
    rintro _ t3 ⟨l1,h8,c2,rfl⟩
    refine k_next (h8.drop (.tl _ (.tl _ (.hd _)))) c2 (k_y 9 (by kernel_rfl) Z Z Z (fun _ _=>(y_move Z)) (k_y 10 (by kernel_rfl) Z Z Z (fun _ _=>(y_extract Z Z)) (k_y 11 (by kernel_rfl) Z Z Z (fun _ _=>(y_extract Z Z)) (k_y 12 (by kernel_rfl) Z Z Z (fun _ _=>(y_nilCheck Z)) (k_all (is:=[13]) (by kernel_rfl) (by simp) (.cons ?_ .nil))))))
    refine k_op Z Z Z (ev_store h8 Z Z Z sz_2 Z (.next _ (.next _ (.next _ (.next _ (.next _ (.next _ (.here _ _ (.nil _)))))))) (.tl _ (.tl _ (.hd _)))) ?_
    rintro _ t4 ⟨f0,c3⟩
    refine k_next (f0.drop (.tl _ (.tl _ (.hd _)))) c3 (k_all (is:=[14]) (by kernel_rfl) (by simp) (.cons ?_ .nil))
    refine k_op Z Z Z (Ev.of_y2 (y_assign Z)) ?_
    rintro _ _ ⟨rfl,rfl⟩
    refine k_bar (b_done (by kernel_rfl) (x_draw ?_) (by kernel_rfl))
    refine x_next (csr ((GM Y (g_y (y_neq Z Z) Z Z (gnx ((c_cond Z (fun b0=>?_) (fun b0=>?_))))))))
    ·replace b0:=OT b0
     refine csr ((g_y (y_loadA (cs:=[.int .i64 t.bases.cash,.int .i64 t.bases.taxable,.int .i64 t.bases.social,.int .i64 t.tax,.int .i64 t.shortfall,.slice A3 (t.shares).length c4,.int .i64 t.net,.int .i64 t.taken,.int .i64 t.pay]) sh_64 Z ((blk_cells f0 m5).part (f:=0) (.take _ (.take _ (.take _ (.take _ (.take _ (.take _ (.take _ (.take _ (.take _ (.nil _)))))))))))) Z Z (GM Y (g_e (ev_store f0 Z Z Z sz_64 Z (.here _ _ (.here _ _ (.here _ _ (.here _ _ (.here _ _ (.here _ _ (.here _ _ (.here _ _ (.here _ _ (.nil _)))))))))) (.tl _ (.tl _ (.tl _ (.hd _))))) Z Z ?_))))
     rintro _ t5 ⟨g2,l2⟩
     refine GA Y (gnx ((c_ret ?_)))
     have l3:yAdd t s=(t,g1.2):=ET (BE b1) (ET (IN a0) (ET (BE b3) (ET (IN a1) (ET (BE c1) (ET (IN a2) (ET (BE d1) (ET (IP b0) (rfl))))))))
     refine x_blockR (x_thenR (x_thenR (x_blockR (x_thenR (x_ret ⟨_,_,_,rfl,rfl,blk_cells g2 m3,sh_64,⟨_,_,rfl,rfl,rfl⟩⟩ ?_)))))
     exact ⟨_,_,rfl,g2.fr,g2.grow,by rw [l3]; exact ⟨_,rfl,⟨_,rfl,(hS2.mono ((((((((((((((((((a3.t a4).t a5).t a6).t a7).t a8).t a9).t b4).t b8).t b9).t c0).t b5).t b6).t c8).t c9).t d0).t c2).t c3).t l2))⟩⟩⟩
    ·replace b0:=OF b0
     refine c_skip (x_blockN (x_next ?_))
     refine c_region (g_y (y_add Z Z (by omega)) Z Z (GM Y (g_nil (x_again (csr ((g_y (y_lss Z Z) Z Z (gnx ((c_seq (c_condT Z (c_skip (x_next ?_)))))))))))))
     refine c_seq (c_block (csr ((g_y (y_indexA (i:=2) (out:=[.pointer (some ⟨e6,0 + 7,none⟩),.int .i64 e8.1]) ar_337 sh_336 Z Z Z (ble Z) (.skip _ (.skip _ (.skip _ (.skip _ (.take _ (.take _ (.nil _)))))))) Z Z (g_e (ev_alloc f0 ze_336) Z Z ?_)))))
     rintro _ t6 ⟨t7,rfl,l4,d8⟩
     refine g_e (ev_store l4 Z Z Z sz_336 Z (.here _ _ (.here _ _ (.nil _))) (.hd _)) Z Z ?_
     rintro _ l5 ⟨l6,d9⟩
     refine gnx ((c_seq ?_))
     have e0:=l6.drew; have e1:=Le.drew l1 l5
     refine c_drawK 14 follows_mixed (e0.drop (.tl _ (.tl _ (.tl _ (.hd _))))) (k_y 0 (by kernel_rfl) Z Z Z (fun _ _=>(y_fieldAddr fo_336_0 Z)) (k_y 1 (by kernel_rfl) Z Z Z (fun t8 ⟨t9,l7,u0⟩=>(y_load1 sh_335 Z ((blk_cells l7 m0).nth_ (i:=0) Z))) (k_y 2 (by kernel_rfl) Z Z Z (fun _ _=>(y_fieldAddr fo_336_0 Z)) (k_y 3 (by kernel_rfl) Z Z Z (fun u1 ⟨u2,l8,u3⟩=>(y_load1 sh_335 Z ((blk_cells l8 m0).nth_ (i:=0) Z))) (k_y 4 (by kernel_rfl) Z Z Z (fun _ _=>(y_nilCheck Z)) (k_y 6 (by kernel_rfl) Z Z Z (fun _ _=>(y_fieldAddr fo_336_1 Z)) (k_y 7 (by kernel_rfl) Z Z Z (fun u4 ⟨u5,l9,u6⟩=>(y_load1 sh_2 Z ((blk_cells l9 m0).nth_ (i:=1) Z))) (k_all (is:=[5]) (by kernel_rfl) (by simp) (.cons ?_ .nil)))))))))
     refine k_op Z Z Z (Ev.of_y2 (y_load1 sh_2 Z ((blk_cells e0 m3).nth_ (i:=7) Z))) ?_
     rintro _ _ ⟨rfl,rfl⟩
     refine k_next (e0.drop (.tl _ (.tl _ (.tl _ (.hd _))))) (Le.refl _ _) (k_all (is:=[8]) (by kernel_rfl) (by simp) (.cons ?_ .nil))
     have h9:=mAdd_c (a:=t.taken) (b:=e8.1) e0.lt
     obtain ⟨g3,e2⟩:∃ r,mAdd t.taken e8.1=r:=⟨_,rfl⟩
     rw [e2] at h9
     refine k_op Z Z Z (ev_pure e0 pf_116 Z h9) ?_
     rintro _ u7 ⟨m6,i0,d2,rfl⟩
     refine k_next (i0.drop (.tl _ (.tl _ (.tl _ (.hd _))))) d2 (k_y 9 (by kernel_rfl) Z Z Z (fun _ _=>(y_move Z)) (k_y 10 (by kernel_rfl) Z Z Z (fun _ _=>(y_extract Z Z)) (k_y 11 (by kernel_rfl) Z Z Z (fun _ _=>(y_extract Z Z)) (k_y 12 (by kernel_rfl) Z Z Z (fun _ _=>(y_nilCheck Z)) (k_all (is:=[13]) (by kernel_rfl) (by simp) (.cons ?_ .nil))))))
     refine k_op Z Z Z (ev_store i0 Z Z Z sz_2 Z (.next _ (.next _ (.next _ (.next _ (.next _ (.next _ (.next _ (.here _ _ (.nil _))))))))) (.tl _ (.tl _ (.tl _ (.hd _))))) ?_
     rintro _ u8 ⟨f1,d3⟩
     refine k_next (f1.drop (.tl _ (.tl _ (.tl _ (.hd _))))) d3 (k_all (is:=[14]) (by kernel_rfl) (by simp) (.cons ?_ .nil))
     refine k_op Z Z Z (Ev.of_y2 (y_assign Z)) ?_
     rintro _ _ ⟨rfl,rfl⟩
     refine k_bar (b_done (by kernel_rfl) (x_draw ?_) (by kernel_rfl))
     refine x_next (csr ((GM Y (g_y (y_neq Z Z) Z Z (gnx ((c_cond Z (fun b2=>?_) (fun b2=>?_))))))))
     ·replace b2:=OT b2
      refine csr ((g_y (y_loadA (cs:=[.int .i64 t.bases.cash,.int .i64 t.bases.taxable,.int .i64 t.bases.social,.int .i64 t.tax,.int .i64 t.shortfall,.slice A3 (t.shares).length c4,.int .i64 t.net,.int .i64 t.taken,.int .i64 t.pay]) sh_64 Z ((blk_cells f1 (List.Mem.tail _ m5)).part (f:=0) (.take _ (.take _ (.take _ (.take _ (.take _ (.take _ (.take _ (.take _ (.take _ (.nil _)))))))))))) Z Z (GM Y (g_e (ev_store f1 Z Z Z sz_64 Z (.here _ _ (.here _ _ (.here _ _ (.here _ _ (.here _ _ (.here _ _ (.here _ _ (.here _ _ (.here _ _ (.nil _)))))))))) (.tl _ (.tl _ (.tl _ (.tl _ (.hd _)))))) Z Z ?_))))
      rintro _ u9 ⟨g4,m7⟩
      refine GA Y (gnx ((c_ret ?_)))
      have m8:yAdd t s=(t,g3.2):=ET (BE b1) (ET (IN a0) (ET (BE b3) (ET (IN a1) (ET (BE c1) (ET (IN a2) (ET (BE d1) (ET (IN b0) (ET (BE e2) (ET (IP b2) (rfl))))))))))
      refine x_blockR (x_thenR (x_thenR (x_blockR (x_thenR (x_ret ⟨_,_,_,rfl,rfl,blk_cells g4 m4,sh_64,⟨_,_,rfl,rfl,rfl⟩⟩ ?_)))))
      exact ⟨_,_,rfl,g4.fr,g4.grow,by rw [m8]; exact ⟨_,rfl,⟨_,rfl,(hS2.mono (((((((((((((((((((((((a3.t a4).t a5).t a6).t a7).t a8).t a9).t b4).t b8).t b9).t c0).t b5).t b6).t c8).t c9).t d0).t c2).t c3).t d8).t d9).t e1).t d2).t d3).t m7))⟩⟩⟩
     ·replace b2:=OF b2
      refine c_skip (x_blockN (x_next ?_))
      refine c_region (g_y (y_add Z Z (by omega)) Z Z (GM Y (g_nil (x_again (csr ((g_y (y_lss Z Z) Z Z (gnx ((c_seq (c_condT Z (c_skip (x_next ?_)))))))))))))
      refine c_seq (c_block (csr ((g_y (y_indexA (i:=3) (out:=[.pointer (some ⟨e6,0 + 8,none⟩),.int .i64 s.pay]) ar_337 sh_336 Z Z Z (ble Z) (.skip _ (.skip _ (.skip _ (.skip _ (.skip _ (.skip _ (.take _ (.take _ (.nil _)))))))))) Z Z (g_e (ev_alloc f1 ze_336) Z Z ?_)))))
      rintro _ v0 ⟨v2,rfl,m9,f2⟩
      refine g_e (ev_store m9 Z Z Z sz_336 Z (.here _ _ (.here _ _ (.nil _))) (.hd _)) Z Z ?_
      rintro _ n0 ⟨n1,f3⟩
      refine gnx ((c_seq ?_))
      have e3:=n1.drew; have f4:=Le.drew m6 n0
      refine c_drawK 14 follows_mixed (e3.drop (.tl _ (.tl _ (.tl _ (.tl _ (.hd _)))))) (k_y 0 (by kernel_rfl) Z Z Z (fun _ _=>(y_fieldAddr fo_336_0 Z)) (k_y 1 (by kernel_rfl) Z Z Z (fun v3 ⟨v4,n2,v5⟩=>(y_load1 sh_335 Z ((blk_cells n2 m0).nth_ (i:=0) Z))) (k_y 2 (by kernel_rfl) Z Z Z (fun _ _=>(y_fieldAddr fo_336_0 Z)) (k_y 3 (by kernel_rfl) Z Z Z (fun v6 ⟨v9,n3,w0⟩=>(y_load1 sh_335 Z ((blk_cells n3 m0).nth_ (i:=0) Z))) (k_y 4 (by kernel_rfl) Z Z Z (fun _ _=>(y_nilCheck Z)) (k_y 6 (by kernel_rfl) Z Z Z (fun _ _=>(y_fieldAddr fo_336_1 Z)) (k_y 7 (by kernel_rfl) Z Z Z (fun w1 ⟨w2,n4,w3⟩=>(y_load1 sh_2 Z ((blk_cells n4 m0).nth_ (i:=1) Z))) (k_all (is:=[5]) (by kernel_rfl) (by simp) (.cons ?_ .nil)))))))))
      refine k_op Z Z Z (Ev.of_y2 (y_load1 sh_2 Z ((blk_cells e3 m4).nth_ (i:=8) Z))) ?_
      rintro _ _ ⟨rfl,rfl⟩
      refine k_next (e3.drop (.tl _ (.tl _ (.tl _ (.tl _ (.hd _)))))) (Le.refl _ _) (k_all (is:=[8]) (by kernel_rfl) (by simp) (.cons ?_ .nil))
      have i1:=mAdd_c (a:=t.pay) (b:=s.pay) e3.lt
      obtain ⟨g5,f5⟩:∃ r,mAdd t.pay s.pay=r:=⟨_,rfl⟩
      rw [f5] at i1
      refine k_op Z Z Z (ev_pure e3 pf_116 Z i1) ?_
      rintro _ w4 ⟨w5,i2,e4,rfl⟩
      refine k_next (i2.drop (.tl _ (.tl _ (.tl _ (.tl _ (.hd _)))))) e4 (k_y 9 (by kernel_rfl) Z Z Z (fun _ _=>(y_move Z)) (k_y 10 (by kernel_rfl) Z Z Z (fun _ _=>(y_extract Z Z)) (k_y 11 (by kernel_rfl) Z Z Z (fun _ _=>(y_extract Z Z)) (k_y 12 (by kernel_rfl) Z Z Z (fun _ _=>(y_nilCheck Z)) (k_all (is:=[13]) (by kernel_rfl) (by simp) (.cons ?_ .nil))))))
      refine k_op Z Z Z (ev_store i2 Z Z Z sz_2 Z (.next _ (.next _ (.next _ (.next _ (.next _ (.next _ (.next _ (.next _ (.here _ _ (.nil _)))))))))) (.tl _ (.tl _ (.tl _ (.tl _ (.hd _)))))) ?_
      rintro _ w6 ⟨c5,e5⟩
      refine k_next (c5.drop (.tl _ (.tl _ (.tl _ (.tl _ (.hd _)))))) e5 (k_all (is:=[14]) (by kernel_rfl) (by simp) (.cons ?_ .nil))
      refine k_op Z Z Z (Ev.of_y2 (y_assign Z)) ?_
      rintro _ _ ⟨rfl,rfl⟩
      refine k_bar (b_done (by kernel_rfl) (x_draw ?_) (by kernel_rfl))
      refine x_next (csr ((GM Y (g_y (y_neq Z Z) Z Z (gnx ((c_cond Z (fun b7=>?_) (fun b7=>?_))))))))
      ·replace b7:=OT b7
       refine csr ((g_y (y_loadA (cs:=[.int .i64 t.bases.cash,.int .i64 t.bases.taxable,.int .i64 t.bases.social,.int .i64 t.tax,.int .i64 t.shortfall,.slice A3 (t.shares).length c4,.int .i64 t.net,.int .i64 t.taken,.int .i64 t.pay]) sh_64 Z ((blk_cells c5 (List.Mem.tail _ (List.Mem.tail _ m5))).part (f:=0) (.take _ (.take _ (.take _ (.take _ (.take _ (.take _ (.take _ (.take _ (.take _ (.nil _)))))))))))) Z Z (GM Y (g_e (ev_store c5 Z Z Z sz_64 Z (.here _ _ (.here _ _ (.here _ _ (.here _ _ (.here _ _ (.here _ _ (.here _ _ (.here _ _ (.here _ _ (.nil _)))))))))) (.tl _ (.tl _ (.tl _ (.tl _ (.tl _ (.hd _))))))) Z Z ?_))))
       rintro _ w7 ⟨g6,n5⟩
       refine GA Y (gnx ((c_ret ?_)))
       have n6:yAdd t s=(t,g5.2):=ET (BE b1) (ET (IN a0) (ET (BE b3) (ET (IN a1) (ET (BE c1) (ET (IN a2) (ET (BE d1) (ET (IN b0) (ET (BE e2) (ET (IN b2) (ET (BE f5) (ET (IP b7) (rfl))))))))))))
       refine x_blockR (x_thenR (x_thenR (x_blockR (x_thenR (x_ret ⟨_,_,_,rfl,rfl,blk_cells g6 m5,sh_64,⟨_,_,rfl,rfl,rfl⟩⟩ ?_)))))
       exact ⟨_,_,rfl,g6.fr,g6.grow,by rw [n6]; exact ⟨_,rfl,⟨_,rfl,(hS2.mono ((((((((((((((((((((((((((((a3.t a4).t a5).t a6).t a7).t a8).t a9).t b4).t b8).t b9).t c0).t b5).t b6).t c8).t c9).t d0).t c2).t c3).t d8).t d9).t e1).t d2).t d3).t f2).t f3).t f4).t e4).t e5).t n5))⟩⟩⟩
      ·replace b7:=OF b7
       refine c_skip (x_blockN (x_next ?_))
       refine c_region (g_y (y_add Z Z (by omega)) Z Z (GM Y (g_nil (x_again (csr ((g_y (y_lss Z Z) Z Z (gnx ((c_seq (c_condF Z (c_exit (x_thenE (x_thenE (x_blockE (x_next ?_))))))))))))))))
       refine c_seq (csr ((gfa fo_64_3 Z Z Z (g_y (y_load1 sh_62 Z ((blk_cells c5 (List.Mem.tail _ (List.Mem.tail _ m5))).nth_ (i:=5) Z)) Z Z (gfa fo_51_4 Z Z Z (g_y (y_load1 sh_48 Z ((blk_cells c5 (List.Mem.tail _ m5)).nth_ (i:=6) Z)) Z Z ?_))))))
       have i3:=shPost_c (posted:=t.shares) (now_:=s.shares) c5.lt (hS2.mono (((((((((((((((((((((((((((a3.t a4).t a5).t a6).t a7).t a8).t a9).t b4).t b8).t b9).t c0).t b5).t b6).t c8).t c9).t d0).t c2).t c3).t d8).t d9).t e1).t d2).t d3).t f2).t f3).t f4).t e4).t e5)) (hS9.mono (((((((((((((((((((((((((((a3.t a4).t a5).t a6).t a7).t a8).t a9).t b4).t b8).t b9).t c0).t b5).t b6).t c8).t c9).t d0).t c2).t c3).t d8).t d9).t e1).t d2).t d3).t f2).t f3).t f4).t e4).t e5))
       obtain ⟨g7,g8⟩:∃ r,shPost t.shares s.shares=r:=⟨_,rfl⟩
       rw [g8] at i3
       refine g_e (ev_pure c5 pf_209 Z i3) Z Z ?_
       rintro _ w8 ⟨w9,n7,n8,⟨x0,rfl,i4⟩⟩
       obtain ⟨n9,o0,rfl,x1,x2⟩:=i4.fm
       refine GM Y (g_y (y_extract Z Z) Z Z (g_y (y_extract Z Z) Z Z (gfa fo_64_3 Z Z Z (g_e (ev_store n7 Z Z Z sz_62 Z (.next _ (.next _ (.next _ (.next _ (.next _ (.here _ _ (.nil _))))))) (.tl _ (.tl _ (.tl _ (.tl _ (.hd _)))))) Z Z ?_))))
       rintro _ x3 ⟨f6,i5⟩
       refine GA Y (gnx ((csr ((GM Y (g_y (y_neq Z Z) Z Z (gnx ((c_cond Z (fun c6=>?_) (fun c6=>?_))))))))))
       ·replace c6:=OT c6
        refine csr ((g_y (y_loadA (cs:=[.int .i64 t.bases.cash,.int .i64 t.bases.taxable,.int .i64 t.bases.social,.int .i64 t.tax,.int .i64 t.shortfall,.slice A3 (t.shares).length c4,.int .i64 t.net,.int .i64 t.taken,.int .i64 t.pay]) sh_64 Z ((blk_cells f6 (List.Mem.tail _ (List.Mem.tail _ m5))).part (f:=0) (.take _ (.take _ (.take _ (.take _ (.take _ (.take _ (.take _ (.take _ (.take _ (.nil _)))))))))))) Z Z (GM Y (g_e (ev_store f6 Z Z Z sz_64 Z (.here _ _ (.here _ _ (.here _ _ (.here _ _ (.here _ _ (.here _ _ (.here _ _ (.here _ _ (.here _ _ (.nil _)))))))))) (.tl _ (.tl _ (.tl _ (.tl _ (.tl _ (.hd _))))))) Z Z ?_))))
        rintro _ x4 ⟨g9,o1⟩
        refine GA Y (gnx ((c_ret ?_)))
        have o2:yAdd t s=(t,g7.2):=ET (BE b1) (ET (IN a0) (ET (BE b3) (ET (IN a1) (ET (BE c1) (ET (IN a2) (ET (BE d1) (ET (IN b0) (ET (BE e2) (ET (IN b2) (ET (BE f5) (ET (IN b7) (ET (BE g8) (ET (IP c6) (rfl))))))))))))))
        refine x_thenR (x_ret ⟨_,_,_,rfl,rfl,blk_cells g9 m5,sh_64,⟨_,_,rfl,rfl,rfl⟩⟩ ?_)
        exact ⟨_,_,rfl,g9.fr,g9.grow,by rw [o2]; exact ⟨_,rfl,⟨_,rfl,(hS2.mono ((((((((((((((((((((((((((((((a3.t a4).t a5).t a6).t a7).t a8).t a9).t b4).t b8).t b9).t c0).t b5).t b6).t c8).t c9).t d0).t c2).t c3).t d8).t d9).t e1).t d2).t d3).t f2).t f3).t f4).t e4).t e5).t n8).t i5).t o1))⟩⟩⟩
       ·replace c6:=OF c6
        refine c_skip (x_next (csr ((gfa fo_51_3 Z Z Z (g_y (y_load1 sh_2 Z ((blk_cells f6 (List.Mem.tail _ m5)).nth_ (i:=5) Z)) Z Z (gfa fo_64_2 Z Z Z (g_e (ev_store f6 Z Z Z sz_2 Z (.next _ (.next _ (.next _ (.next _ (.here _ _ (.nil _)))))) (.tl _ (.tl _ (.tl _ (.tl _ (.hd _)))))) Z Z ?_)))))))
        rintro _ x5 ⟨i6,o3⟩
        refine gnx ((csr ((g_y (y_loadA (cs:=[.int .i64 d4.1.cash,.int .i64 d4.1.taxable,.int .i64 d4.1.social,.int .i64 f9.1,.int .i64 s.shortfall,.slice n9 (g7.1).length o0,.int .i64 g1.1,.int .i64 g3.1,.int .i64 g5.1]) sh_64 Z ((blk_cells i6 m4).part (f:=0) (.take _ (.take _ (.take _ (.take _ (.take _ (.take _ (.take _ (.take _ (.take _ (.nil _)))))))))))) Z Z (g_e (ev_store i6 Z Z Z sz_64 Z (.here _ _ (.here _ _ (.here _ _ (.here _ _ (.here _ _ (.here _ _ (.here _ _ (.here _ _ (.here _ _ (.nil _)))))))))) (.tl _ (.tl _ (.tl _ (.tl _ (.tl _ (.hd _))))))) Z Z ?_)))))
        rintro _ x6 ⟨h0,o4⟩
        refine GA Y (gnx ((c_ret ?_)))
        have o5:yAdd t s=((⟨d4.1,f9.1,s.shortfall,g7.1,g1.1,g3.1,g5.1⟩:Totals),0):=ET (BE b1) (ET (IN a0) (ET (BE b3) (ET (IN a1) (ET (BE c1) (ET (IN a2) (ET (BE d1) (ET (IN b0) (ET (BE e2) (ET (IN b2) (ET (BE f5) (ET (IN b7) (ET (BE g8) (ET (IN c6) (rfl))))))))))))))
        refine x_ret ⟨_,_,_,rfl,rfl,blk_cells h0 m5,sh_64,⟨_,_,rfl,rfl,rfl⟩⟩ (⟨_,_,rfl,h0.fr,h0.grow,by rw [o5]; exact ⟨_,rfl,⟨_,rfl,(i4.mono ((i5.t o3).t o4))⟩⟩⟩)
def clOf (t:Totals):Due × Int:=
 (bnd (mAdd t.tax t.shortfall) fun a0=>
 (if (a0.2≠0) then ((⟨(⟨0,0,0⟩:Bases),0,([]:List Share)⟩:Due),a0.2)
 else (bnd (clShareR t.shares) fun a1=>
 ((⟨t.bases,a0.1,a1⟩:Due),0))))
theorem clOf_c {t:Totals} {cs_t:List Value} {d:Dat} {w:World} (hd:∀ b,d b→b < w.heap.size) (h_t:totalsTy.rel d w t cs_t):Ret Tryz.prog 43 [.agg cs_t.toArray] w [] d (fun u d' w'=>∃ (cs0:List Value),u=.tuple #[.agg cs0.toArray,.int .i64 ((clOf t).2)]∧dueTy.rel d' w' (clOf t).1 cs0):=by
 obtain ⟨v1,rfl,hS2⟩:=h_t
 obtain ⟨A3,c4,rfl,hn5,hb6⟩:=hS2.fm
 refine ret_enter (n:=25) Tryz.func43 Z Z (ble Z) ?_
 have hI0:=Inv.start hd
 refine csr ((g_e (ev_box hI0 Z) Z Z ?_))
 rintro _ w7 ⟨c7,rfl,hI8,hle9⟩
 refine g_e (ev_alloc hI8 ze_84) Z Z ?_
 rintro _ c8 ⟨c9,rfl,a1,b3⟩
 refine GA Y (gnx ((csr ((gfa fo_64_1 Z Z Z (gld sh_2 Z a1 m1 (i:=3) Z Z Z (gfa fo_64_2 Z Z Z (gld sh_2 Z a1 m1 (i:=4) Z Z Z ?_))))))))
 have a8:=mAdd_c (a:=t.tax) (b:=t.shortfall) a1.lt
 obtain ⟨a9,a2⟩:∃ r,mAdd t.tax t.shortfall=r:=⟨_,rfl⟩
 rw [a2] at a8
 refine g_e (ev_pure a1 pf_116 Z a8) Z Z ?_
 rintro _ b4 ⟨b5,b0,b6,rfl⟩
 refine GM Y (g_y (y_extract Z Z) Z Z (g_y (y_extract Z Z) Z Z (GA Y (GA Y (gnx ((c_seq (csr ((GM Y (g_y (y_neq Z Z) Z Z (gnx (?_)))))))))))))
 refine c_cond Z (fun a0=>?_) (fun a0=>?_)
 ·replace a0:=OT a0
  refine csr ((g_y (y_build ze_84 pl_84 (.nil _)) Z Z (GM Y (g_e (ev_store b0 Z Z Z sz_84 Z (.here _ _ (.here _ _ (.here _ _ (.here _ _ (.here _ _ (.nil _)))))) (.hd _)) Z Z ?_))))
  rintro _ d0 ⟨a3,d1⟩
  refine GA Y (gnx ((c_ret ?_)))
  have b7:clOf t=((⟨(⟨0,0,0⟩:Bases),0,([]:List Share)⟩:Due),a9.2):=ET (BE a2) (ET (IP a0) (rfl))
  refine x_thenR (x_ret ⟨_,_,_,rfl,rfl,blk_cells a3 m0,sh_84,⟨_,_,rfl,rfl,rfl⟩⟩ ?_)
  exact ⟨_,_,rfl,a3.fr,a3.grow,by rw [b7]; exact ⟨_,rfl,⟨_,rfl,(Sl.nil_ _ _ _ none 0)⟩⟩⟩
 ·replace a0:=OF a0
  refine c_skip (x_next (c_seq ?_))
  have a4:=b0.drew; have b8:=Le.drew b5 b4
  refine c_drawK 7 follows_mixed a4 (k_y 0 (by kernel_rfl) Z Z Z (fun _ _=>(y_fieldAddr fo_64_0 Z)) (k_y 1 (by kernel_rfl) Z Z Z (fun d2 ⟨d3,b9,d4⟩=>(y_loadA (cs:=[.int .i64 t.bases.cash,.int .i64 t.bases.taxable,.int .i64 t.bases.social]) sh_47 Z ((blk_cells b9 m1).part (f:=0) (.take _ (.take _ (.take _ (.nil _))))))) (k_y 2 (by kernel_rfl) Z Z Z (fun _ _=>(y_move Z)) (k_y 3 (by kernel_rfl) Z Z Z (fun _ _=>(y_fieldAddr fo_64_3 Z)) (k_y 4 (by kernel_rfl) Z Z Z (fun d5 ⟨d6,c0,d7⟩=>(y_load1 sh_62 Z ((blk_cells c0 m1).nth_ (i:=5) Z))) (k_all (is:=[5]) (by kernel_rfl) (by simp) (.cons ?_ .nil)))))))
  have b1:=clShareR_c (s:=t.shares) a4.lt (hS2.mono (((hle9.t b3).t b6).t b8))
  obtain ⟨b2,a5⟩:∃ r,clShareR t.shares=r:=⟨_,rfl⟩
  rw [a5] at b1
  have h8r62:b2.length=t.shares.length:=by rw [← a5,clShareR_eq]
  refine k_op Z Z Z (ev_row a4 pf_125 Z b1) ?_
  rintro _ d8 ⟨d9,e0,e1,rfl,a6,c1⟩
  have c2:=row_len (a6.ok _ m0); unfold big at c2
  refine k_next (a6.drop (.hd _)) c1 (k_y 6 (by kernel_rfl) Z Z Z (fun _ _=>(y_build ze_84 pl_84 (.cons Z Z Z Z (.here _ _ (.here _ _ (.here _ _ (.nil _)))) (ble Z) (.cons Z Z Z Z (.next _ (.next _ (.next _ (.here _ _ (.nil _))))) (ble Z) (.cons Z Z Z Z (.next _ (.next _ (.next _ (.next _ (.here _ _ (.nil _)))))) (ble Z) (.nil _)))))) (k_all (is:=[7]) (by kernel_rfl) (by simp) (.cons ?_ .nil)))
  refine k_op Z Z Z (ev_store a6 Z Z Z sz_84 Z (.here _ _ (.here _ _ (.here _ _ (.here _ _ (.here _ _ (.nil _)))))) (.tl _ (.hd _))) ?_
  rintro _ e2 ⟨c3,e3⟩
  refine k_bar (b_all (i:=8) (by kernel_rfl) (by kernel_rfl) (k_op Z Z Z (Ev.of_y2 (y_assign Z)) ?_))
  rintro _ _ ⟨rfl,rfl⟩
  refine k_bar (b_done (by kernel_rfl) (x_draw ?_) (by kernel_rfl))
  refine x_next (c_ret ?_)
  obtain ⟨e4,a7,e5,c5⟩:=pub_row c3 (.hd _) (by simp)
  have c6:clOf t=((⟨t.bases,a9.1,b2⟩:Due),0):=ET (BE a2) (ET (IN a0) (ET (BE a5) (rfl)))
  refine x_ret ⟨_,_,_,rfl,rfl,blk_cells a7 m0,sh_84,⟨_,_,rfl,rfl,rfl⟩⟩ (⟨_,_,rfl,a7.fr,a7.grow,by rw [c6]; exact ⟨_,rfl,⟨_,rfl,c5⟩⟩⟩)
def eqShare_l1 (b:(List Share)):List Share→Nat→Out (Unit) (Bool)
 | [],a0=>(Out.next (()))
 | a1 :: tl1,a0=>(opt (b)[a0]? fun a2=>
 (if (a1≠a2) then (Out.ret false)
 else (eqShare_l1 b tl1 (a0 + 1) )))
def eqShare (a:(List Share)) (b:(List Share)):Bool:=
 (if ((a.length:Int)≠(b.length:Int)) then false
 else (out (eqShare_l1 b a 0 ) fun _=>
 true))
theorem eqShare_c {a:(List Share)} {v_a:Value} {b:(List Share)} {v_b:Value} {d:Dat} {w:World} (hd:∀ b,d b→b < w.heap.size) (h_a:Sl shareTy d w v_a a) (h_b:Sl shareTy d w v_b b):Ret Tryz.prog 123 [v_a,v_b] w [] d (fun u d' w'=>u=.bool ((eqShare a b))):=by
 obtain ⟨A1,c2,rfl,hn3,hb4⟩:=h_a.fm
 obtain ⟨A5,c6,rfl,hn7,hb8⟩:=h_b.fm
 refine ret_enter (n:=26) Tryz.func123 Z Z (ble Z) ?_
 have hI0:=Inv.start hd
 refine csr ((GA Y (gnx ((c_seq (csr ((GM Y (gln el_48 Z Z Z (GM Y (gln el_48 Z Z Z (g_y (y_neq Z Z) Z Z (g_nil ?_)))))))))))))
 refine x_next (c_cond Z (fun a1=>?_) (fun a1=>?_))
 ·replace a1:=OT a1
  refine csr ((GA Y (gnx ((c_ret ?_)))))
  have b8:eqShare a b=false:=ET (IP a1) (rfl)
  refine x_thenR (x_ret ⟨_,_,rfl,rfl,rfl⟩ ?_)
  exact ⟨_,_,rfl,hI0.fr,hI0.grow,by rw [b8]; exact rfl⟩
 ·replace a1:=OF a1
  refine c_skip (x_next (c_seq (csr ((GM Y (gln el_48 Z Z Z (GM Y (gnx ((c_cut1 (ι:=Dat) (fun a5=>[]) (fun a5 a9=>Inv [] d w a5 [] a9∧Le d w a5 a9∧eqShare_l1 b a 0 =Out.next (())) ?_ ?_))))))))))
  ·refine c_block (c_loop (ι:=Nat × Dat) (fun ⟨a0,a2⟩=>[(0,.slice A1 (a).length c2),(1,.slice A5 (b).length c6),(12,.int .i64 (a.length:Int)),(13,.int .i64 (a0:Int))]) (fun ⟨a0,a2⟩ a6=>Inv [] d w a2 [] a6∧Le d w a2 a6∧eqShare_l1 b a 0 =eqShare_l1 b (a.drop a0) a0 ∧a0≤a.length) (fun ⟨a0,a2⟩=>a.length - a0) (0,d) (.cons Z (.cons Z (.cons Z (.cons Z (.nil _))))) ⟨hI0,Le.refl _ _,rfl,Nat.zero_le _⟩ ?_)
   rintro ⟨a0,a2⟩ a6 ⟨b6,a7,b0,d5⟩
   refine csr ((g_y (y_lss Z Z) Z Z (gnx ((c_seq (c_cond Z (fun a4=>?_) (fun a4=>?_)))))))
   ·replace a4:=OT a4
    obtain ⟨b1,b2⟩:=has (xs:=a) (k:=a0) (by omega)
    refine c_skip (x_next (c_seq (c_block (csr ((GM Y (GA Y (gnx ((c_seq ?_))))))))))
    have a8:=b6.drew; have b3:=Le.drew a2 a6
    refine c_drawK 9 follows_mixed a8 (k_y 0 (by kernel_rfl) Z Z Z (fun _ _=>(y_move Z)) (k_y 1 (by kernel_rfl) Z Z Z (fun _ _=>(y_move Z)) ?_))
    obtain ⟨d6,d7,d8,b9,c0,c1,c3⟩:=Sl.at_ (h_a.mono (a7.t b3)) b2
    obtain rfl:=c0
    refine k_y 2 (by kernel_rfl) Z Z Z (fun _ _=>(y_indexAddr (i:=a0) el_48 Z b9 Z (rfl) (by omega))) (k_y 3 (by kernel_rfl) Z Z Z (fun d9 ⟨e0,e1,c4⟩=>(y_loadA (cs:=[.int .i64 b1.ee,.int .i64 b1.er]) sh_68 Z ((c1.keep ((c4).blk _ c3)).part (f:=0) (.take _ (.take _ (.nil _)))))) (k_y 4 (by kernel_rfl) Z Z Z (fun _ _=>(y_move Z)) (k_y 5 (by kernel_rfl) Z Z Z (fun _ _=>(y_move Z)) ?_)))
    obtain ⟨b4,b5⟩:=has (xs:=b) (k:=a0) (by omega)
    obtain ⟨e2,e3,e4,c5,c7,c8,c9⟩:=Sl.at_ (h_b.mono (a7.t b3)) b5
    obtain rfl:=c7
    refine k_y 6 (by kernel_rfl) Z Z Z (fun _ _=>(y_indexAddr (i:=a0) el_48 Z c5 Z (rfl) (by omega))) (k_y 7 (by kernel_rfl) Z Z Z (fun e5 ⟨e6,e7,d0⟩=>(y_loadA (cs:=[.int .i64 b4.ee,.int .i64 b4.er]) sh_68 Z ((c8.keep ((d0).blk _ c9)).part (f:=0) (.take _ (.take _ (.nil _)))))) (k_y 8 (by kernel_rfl) Z Z Z (fun _ _=>(y_stNe_Share (x:=b1) (y:=b4) Z Z)) (k_done (by kernel_rfl) (x_draw ?_))))
    refine x_next (c_cond Z (fun a3=>?_) (fun a3=>?_))
    ·replace a3:=OT a3
     refine csr ((GA Y (gnx ((c_ret ?_)))))
     have d1:eqShare_l1 b a 0 =(Out.ret false):=b0.trans (ET (congrArg (fun l=>eqShare_l1 b l a0 ) (drop_cons b2)) (ET (opt_some b5) (ET (IP a3) (rfl))))
     have d2:eqShare a b=false:=ET (IN a1) (ET (out_ret d1) (rfl))
     refine x_blockR (x_thenR (x_rndR (x_blockR (x_cutR (x_thenR (x_ret ⟨_,_,rfl,rfl,rfl⟩ ?_))))))
     exact ⟨_,_,rfl,a8.fr,a8.grow,by rw [d2]; exact rfl⟩
    ·replace a3:=OF a3
     refine c_skip (x_blockN (x_next ?_))
     refine c_region (g_y (y_add Z Z (by omega)) Z Z (GM Y (g_nil (x_round (a0 + 1,a2) (by dsimp only; omega) (.cons Z (.cons Z (.cons Z (.cons Z (.nil _))))) ⟨a8,(a7.t b3),b0.trans (ET (congrArg (fun l=>eqShare_l1 b l a0 ) (drop_cons b2)) (ET (opt_some b5) (ET (IN a3) (rfl)))),by omega⟩))))
   ·replace a4:=OF a4
    refine c_exit (x_thenE (x_rndE (x_blockE (x_cut (a2) (.nil _) ⟨b6,a7,b0.trans (ET (congrArg (fun l=>eqShare_l1 b l a0 ) (drop_nil (by omega))) (rfl))⟩))))
  ·rintro a5 a9 ⟨b7,e8,d3⟩
   refine x_next (csr ((GA Y (gnx ((c_ret ?_))))))
   have d4:eqShare a b=true:=ET (IN a1) (ET (out_next d3) (rfl))
   refine x_ret ⟨_,_,rfl,rfl,rfl⟩ (⟨_,_,rfl,b7.fr,b7.grow,by rw [d4]; exact rfl⟩)
def dueSame (a:Due) (b:Due):Bool:=
 (if (a.bases=b.bases) then (if (a.tax=b.tax) then (bnd (eqShare a.shares b.shares) fun a0=>
 a0)
 else false)
 else false)
theorem dueSame_c {a:Due} {cs_a:List Value} {b:Due} {cs_b:List Value} {d:Dat} {w:World} (hd:∀ b,d b→b < w.heap.size) (h_a:dueTy.rel d w a cs_a) (h_b:dueTy.rel d w b cs_b):Ret Tryz.prog 99 [.agg cs_a.toArray,.agg cs_b.toArray] w [] d (fun u d' w'=>u=.bool ((dueSame a b))):=by
 obtain ⟨v1,rfl,hS2⟩:=h_a
 obtain ⟨A3,c4,rfl,hn5,hb6⟩:=hS2.fm
 obtain ⟨v7,rfl,hS8⟩:=h_b
 obtain ⟨A9,b3,rfl,b4,b5⟩:=hS8.fm
 refine ret_enter (n:=24) Tryz.func99 Z Z (ble Z) ?_
 have hI0:=Inv.start hd
 refine csr ((g_e (ev_box hI0 Z) Z Z ?_))
 rintro _ b6 ⟨b7,rfl,a8,a3⟩
 refine g_e (ev_box a8 Z) Z Z ?_
 rintro _ b8 ⟨b9,rfl,a0,a4⟩
 refine GA Y (gnx ((csr ((gfa fo_84_0 Z Z Z (g_y (y_loadA (cs:=[.int .i64 a.bases.cash,.int .i64 a.bases.taxable,.int .i64 a.bases.social]) sh_47 Z ((blk_cells a0 m1).part (f:=0) (.take _ (.take _ (.take _ (.nil _)))))) Z Z (gfa fo_84_0 Z Z Z (g_y (y_loadA (cs:=[.int .i64 b.bases.cash,.int .i64 b.bases.taxable,.int .i64 b.bases.social]) sh_47 Z ((blk_cells a0 m0).part (f:=0) (.take _ (.take _ (.take _ (.nil _)))))) Z Z (g_y (y_stEq_Bases (x:=a.bases) (y:=b.bases) Z Z) Z Z (GM Y (g_split (t:=10) Z (fun a1=>?_) (fun a1=>?_))))))))))))
 ·replace a1:=OT a1
  refine gfa fo_84_1 Z Z Z (gld sh_2 Z a0 m1 (i:=3) Z Z Z (gfa fo_84_1 Z Z Z (gld sh_2 Z a0 m0 (i:=3) Z Z Z (g_y (y_eql Z Z) Z Z (g_y (y_pickT Z Z) Z Z (GM Y (g_split (t:=17) Z (fun a2=>?_) (fun a2=>?_))))))))
  ·replace a2:=OT a2
   refine gfa fo_84_2 Z Z Z (gld sh_48 Z a0 m1 (i:=4) Z Z Z (gfa fo_84_2 Z Z Z (gld sh_48 Z a0 m0 (i:=4) Z Z Z ?_)))
   have a5:=eqShare_c (a:=a.shares) (b:=b.shares) a0.lt (hS2.mono (a3.t a4)) (hS8.mono (a3.t a4))
   obtain ⟨a9,a6⟩:∃ r,eqShare a.shares b.shares=r:=⟨_,rfl⟩
   rw [a6] at a5
   refine g_e (ev_pure a0 pf_123 Z a5) Z Z ?_
   rintro _ c0 ⟨c1,a7,c2,rfl⟩
   refine g_y (y_pickT Z Z) Z Z (GA Y (gnx ((c_ret ?_))))
   have b0:dueSame a b=a9:=ET (IP a1) (ET (IP a2) (ET (BE a6) (rfl)))
   refine x_ret ⟨_,_,rfl,rfl,rfl⟩ (⟨_,_,rfl,a7.fr,a7.grow,by rw [b0]; exact rfl⟩)
  ·replace a2:=OF a2
   refine gsk Z Z (gsk Z Z (gsk Z Z (gsk Z Z (gsk Z Z (g_y (y_pickF Z Z) Z Z (GA Y (gnx ((c_ret ?_)))))))))
   have b1:dueSame a b=false:=ET (IP a1) (ET (IN a2) (rfl))
   refine x_ret ⟨_,_,rfl,rfl,rfl⟩ (⟨_,_,rfl,a0.fr,a0.grow,by rw [b1]; exact rfl⟩)
 ·replace a1:=OF a1
  refine gsk Z Z (gsk Z Z (gsk Z Z (gsk Z Z (gsk Z Z (g_y (y_pickF Z Z) Z Z (GM Y (gsk Z Z (gsk Z Z (gsk Z Z (gsk Z Z (gsk Z Z (g_y (y_pickF Z Z) Z Z (GA Y ?_)))))))))))))
  refine gnx ((c_ret ?_))
  have b2:dueSame a b=false:=ET (IN a1) (rfl)
  refine x_ret ⟨_,_,rfl,rfl,rfl⟩ (⟨_,_,rfl,a0.fr,a0.grow,by rw [b2]; exact rfl⟩)
end Go.Proofs.YtclblpmjamcknaaGreat
