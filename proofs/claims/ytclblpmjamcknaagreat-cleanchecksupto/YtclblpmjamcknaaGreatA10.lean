import Derived.Test.YtclblpmjamcknaaGreatA9
import Derived.Test.YtclblpmjamcknaaGreatCore16
set_option linter.unusedVariables false
set_option linter.unusedSimpArgs false
set_option maxRecDepth 8000
set_option maxHeartbeats 1000000
namespace Go.Proofs.YtclblpmjamcknaaGreat
open Go.Sx
def months24:PYear:=
 (bnd (pNew1) fun r2=>
 r2.1)
theorem months24_c  {d:Dat} {w:World} (hd:∀ b,d b→b < w.heap.size):Ret Tryz.prog 41 [] w [] d (fun u d' w'=>∃ (v0:Value),u=v0∧PtrD pYearTy d' w' v0 months24):=by
 refine ret_enter (n:=9) Tryz.func41 Z Z (ble Z) ?_
 have hI0:=Inv.start hd
 refine csr ((GA Y (gnx ((csr ((g_y (y_build ze_242 pl_242 (.cons Z Z Z Z (.here _ _ (.nil _)) (ble Z) (.cons Z Z Z Z (.next _ (.here _ _ (.nil _))) (ble Z) (.cons Z Z Z Z (.next _ (.next _ (.here _ _ (.nil _)))) (ble Z) (.nil _))))) Z Z ?_)))))))
 have hq1:=pNew1_c hI0.lt
 obtain ⟨r2,hr3⟩:∃ r,pNew1=r:=⟨_,rfl⟩
 rw [hr3] at hq1
 refine g_e (ev_pure hI0 pf_129 Z hq1) Z Z ?_
 rintro _ w5 ⟨d4,hI6,hle7,⟨v8,rfl,hS9⟩⟩
 obtain ⟨a3,a4,rfl,a0,a1⟩:=hS9
 obtain rfl:=a1
 refine GM Y (g_y (y_extract Z Z) Z Z (g_y (y_extract Z Z) Z Z (GA Y (GA Y (gnx ((csr ((GM Y (GA Y (gnx ((c_ret ?_)))))))))))))
 have a2:months24=r2.1:=ET (BE hr3) (rfl)
 refine x_ret ⟨_,_,rfl,rfl,rfl⟩ (⟨_,_,rfl,hI6.fr,hI6.grow,by rw [a2]; exact ⟨_,rfl,⟨_,_,rfl,a0,rfl⟩⟩⟩)
def plain24:Table:=
 (⟨[[(⟨0,2000,0⟩:Band)]],([]:List Contrib),[(⟨(⟨#[115,97,108,97,114,121]⟩:ByteArray),1,1,1⟩:Kind)],1000,1⟩:Table)
theorem plain24_c  {d:Dat} {w:World} (hd:∀ b,d b→b < w.heap.size):Ret Tryz.prog 126 [] w [] d (fun u d' w'=>∃ (cs0:List Value),u=.agg cs0.toArray∧tableTy.rel d' w' plain24 cs0):=by
 refine ret_enter (n:=7) Tryz.func126 Z Z (ble Z) ?_
 have hI0:=Inv.start hd
 refine csr ((g_e (ev_alloc hI0 ze_26) Z Z ?_))
 rintro _ w1 ⟨b4,rfl,hI2,hle3⟩
 refine gnx ((csr ((g_y (y_build ze_33 pl_33 (.cons Z Z Z Z (.next _ (.here _ _ (.nil _))) (ble Z) (.nil _))) Z Z (g_e (ev_buildSl (T:=bandTy) (xs:=[(⟨0,2000,0⟩:Band)]) hI2 el_34 ze_33 Z Z (ble Z) (ble Z) (.cons Z Z Z Z (.here _ _ (.here _ _ (.here _ _ (.nil _)))) (ble Z) (.nil _)) (.cons (x:=(⟨0,2000,0⟩:Band)) (cs:=[.int .i64 0,.int .i64 2000,.int .i64 0]) Z .nil)) Z Z ?_)))))
 rintro _ w6 ⟨d5,hI7,hle8,hS9,a2,rfl⟩
 refine g_e (ev_buildSl (T:=(Ty.slice bandTy)) (xs:=[[(⟨0,2000,0⟩:Band)]]) hI7 el_22 ze_34 Z Z (ble Z) (ble Z) (.cons Z Z Z Z (.here _ _ (.nil _)) (ble Z) (.nil _)) (.cons (x:=[(⟨0,2000,0⟩:Band)]) (cs:=[.slice (some ⟨a2,0,none⟩) 1 1]) ⟨_,rfl,hS9⟩ .nil)) Z Z ?_
 rintro _ a9 ⟨b0,a3,b1,a4,b2,rfl⟩
 refine g_y (y_build ze_36 pl_36 (.cons Z Z Z Z (.here _ _ (.nil _)) (ble Z) (.cons Z Z Z Z (.next _ (.here _ _ (.nil _))) (ble Z) (.cons Z Z Z Z (.next _ (.next _ (.here _ _ (.nil _)))) (ble Z) (.cons Z Z Z Z (.next _ (.next _ (.next _ (.here _ _ (.nil _))))) (ble Z) (.nil _)))))) Z Z (g_e (ev_buildSl (T:=kindTy) (xs:=[(⟨(⟨#[115,97,108,97,114,121]⟩:ByteArray),1,1,1⟩:Kind)]) a3 el_24 ze_36 Z Z (ble Z) (ble Z) (.cons Z Z Z Z (.here _ _ (.here _ _ (.here _ _ (.here _ _ (.nil _))))) (ble Z) (.nil _)) (.cons (x:=(⟨(⟨#[115,97,108,97,114,121]⟩:ByteArray),1,1,1⟩:Kind)) (cs:=[.string ⟨#[115,97,108,97,114,121]⟩,.int .i64 1,.int .i64 1,.int .i64 1]) Z .nil)) Z Z ?_)
 rintro _ b3 ⟨b5,a5,a6,a7,b6,rfl⟩
 refine g_y (y_build ze_26 pl_26 (.cons Z Z Z Z (.next _ (.next _ (.next _ (.here _ _ (.nil _))))) (ble Z) (.cons Z Z Z Z (.next _ (.next _ (.next _ (.next _ (.here _ _ (.nil _)))))) (ble Z) (.cons Z Z Z Z (.here _ _ (.nil _)) (ble Z) (.cons Z Z Z Z (.next _ (.next _ (.here _ _ (.nil _)))) (ble Z) (.nil _)))))) Z Z (g_e (ev_store a5 Z Z Z sz_26 Z (.here _ _ (.here _ _ (.here _ _ (.here _ _ (.here _ _ (.nil _)))))) (.hd _)) Z Z ?_)
 rintro _ b7 ⟨a0,a1⟩
 refine gnx ((c_ret ?_))
 have a8:plain24=(⟨[[(⟨0,2000,0⟩:Band)]],([]:List Contrib),[(⟨(⟨#[115,97,108,97,114,121]⟩:ByteArray),1,1,1⟩:Kind)],1000,1⟩:Table):=rfl
 refine x_ret ⟨_,_,_,rfl,rfl,blk_cells a0 m0,sh_26,rfl⟩ (⟨_,_,rfl,a0.fr,a0.grow,by rw [a8]; exact ⟨_,rfl,⟨_,_,_,rfl,(a4.mono (a6.t a1)),(Sl.nil_ _ _ _ none 0),(a7.mono a1)⟩⟩⟩)
def clPay_m1 (list:(List Input)):Int × Int × Int × Int × Bool:=
 (if (0 < (list.length:Int)) then (opt (list)[0]? fun a0=>
 (a0.code.scheme,a0.code.kind,a0.code.amount,a0.code.flat,a0.code.alone))
 else (0,4,0,0,false))
def clPay_l1:List Input→Nat→EmpS→Out (EmpS) ((Option EmpS) × Int)
 | [],a4,a0=>(Out.next a0)
 | a5 :: tl2,a4,a0=>(bnd (eCode a0 a5.code) fun a1=>
 (if (a1.2≠0) then (Out.ret ((none,a1.2)))
 else (bnd (ePay a1.1 a5.elements) fun a2=>
 (if (a2.2≠0) then (Out.ret ((none,a2.2)))
 else (bnd (eRun a2.1) fun a3=>
 (if (a3.2.2≠0) then (Out.ret ((none,a3.2.2)))
 else (clPay_l1 tl2 (a4 + 1) a3.1)))))))
def clPay (t:Table) (y:PYear) (list:(List Input)):(Option EmpS) × Int:=
 (bnd (clPay_m1 list) fun ⟨a1,a2,a3,a4,a5⟩=>
 (bnd (rNew t y ((⟨a1,a2,a3,a4,a5⟩:Code))) fun a0=>
 (ocase a0.1 ((none,a0.2))
 fun a6=>
 (out (clPay_l1 list 0 a6) fun a7=>
 ((some a7),0)))))
theorem clPay_c {t:Table} {cs_t:List Value} {y:PYear} {v_y:Value} {list:(List Input)} {v_list:Value} {d:Dat} {w:World} (hd:∀ b,d b→b < w.heap.size) (h_t:tableTy.rel d w t cs_t) (h_y:PtrD pYearTy d w v_y y) (h_list:Sl inputTy d w v_list list) (hel:∀ i ∈ list,i.elements.length≤32):Ret Tryz.prog 40 [.agg cs_t.toArray,v_y,v_list] w [] d (fun u d' w'=>((clPay t y list).1=none→u=.tuple #[.pointer none,.int .i64 ((clPay t y list).2)])∧(∀ x,(clPay t y list).1=some x→∃ (b:Nat) (g_posted:Nat) (g_orders:Nat),u=.tuple #[.pointer (some ⟨b,0,none⟩),.int .i64 ((clPay t y list).2)]∧Fresh (empR b g_posted g_orders x) d' w w')):=by
 obtain ⟨v1,v2,v3,rfl,hS4,hS5,hS6⟩:=h_t
 obtain ⟨A7,c8,rfl,hn9,n7⟩:=hS4.fm
 obtain ⟨d8,d9,rfl,n8,n9⟩:=hS5.fm
 obtain ⟨e0,e1,rfl,o0,o1⟩:=hS6.fm
 obtain ⟨h8,o2,rfl,h9,i0⟩:=h_y
 obtain rfl:=i0
 obtain ⟨f7,f8,rfl,o3,o4⟩:=h_list.fm
 refine ret_enter (n:=65) Tryz.func40 Z Z (ble Z) ?_
 have hI0:=Inv.start hd
 refine csr ((g_e (ev_box hI0 Z) Z Z ?_))
 rintro _ o5 ⟨e2,rfl,i1,b9⟩
 refine GA Y (GA Y (gnx ((csr ((g_y (y_build ze_28 pl_28 (.cons Z Z Z Z (.next _ (.here _ _ (.nil _))) (ble Z) (.nil _))) Z Z (g_e (ev_alloc i1 ze_28) Z Z ?_)))))))
 rintro _ o6 ⟨e3,rfl,i2,c0⟩
 refine g_e (ev_store i2 Z Z Z sz_28 Z (.here _ _ (.here _ _ (.here _ _ (.here _ _ (.here _ _ (.nil _)))))) (.hd _)) Z Z ?_
 rintro _ i3 ⟨f9,c1⟩
 refine gnx ((c_cut (ι:=Int × Int × Int × Int × Bool × Dat) (fun ⟨a5,a6,a7,a8,a9,e4⟩=>[(1,.pointer (some ⟨h8,0,none⟩)),(2,.slice f7 (list).length f8),(3,.pointer (some ⟨e2,0,none⟩)),(8,.pointer (some ⟨e3,0,none⟩))]) (fun ⟨a5,a6,a7,a8,a9,e4⟩ e7=>Inv [] d w e4 [blk e3 28 [.int .i64 a5,.int .i64 a6,.int .i64 a7,.int .i64 a8,.bool a9],blk e2 26 [.slice A7 (t.schemes).length c8,.slice d8 (t.contribs).length d9,.slice e0 (t.kinds).length e1,.int .i64 t.limit,.int .i64 t.round]] e7∧Le d i3 e4 e7∧clPay_m1 list=(a5,a6,a7,a8,a9)) ?_ ?_))
 ·refine csr ((GM Y (gln el_79 Z Z Z (g_y (y_gtr Z Z) Z Z (gnx ((c_cond Z (fun b5=>?_) (fun b5=>?_))))))))
  ·replace b5:=OT b5
   refine c_region (GM Y ?_)
   obtain ⟨a3,e8⟩:=has (xs:=list) (k:=0) (by omega)
   have o7:=hel _ (List.mem_of_getElem? e8)
   obtain ⟨o8,o9,p0,i4,i5,i6,p1⟩:=Sl.at_ (h_list.mono ((b9.t c0).t c1)) e8
   obtain ⟨p2,rfl,i7⟩:=i5
   obtain ⟨p3,p4,rfl,p5,p6⟩:=i7.fm
   refine g_y (y_indexAddr (i:=0) el_79 Z i4 Z (rfl) (by omega)) Z Z (gfa fo_112_0 Z Z Z (g_y (y_loadA (cs:=[.int .i64 a3.code.scheme,.int .i64 a3.code.kind,.int .i64 a3.code.amount,.int .i64 a3.code.flat,.bool a3.code.alone]) sh_28 Z (i6.part (f:=0) (.take _ (.take _ (.take _ (.take _ (.take _ (.nil _)))))))) Z Z (g_e (ev_store f9 Z Z Z sz_28 Z (.here _ _ (.here _ _ (.here _ _ (.here _ _ (.here _ _ (.nil _)))))) (.hd _)) Z Z ?_)))
   rintro _ p7 ⟨i8,i9⟩
   refine g_nil (x_cut (a3.code.scheme,a3.code.kind,a3.code.amount,a3.code.flat,a3.code.alone,d) (.cons Z (.cons Z (.cons Z (.cons Z (.nil _))))) ⟨i8,i9,ET (IP b5) (ET (opt_some e8) (rfl))⟩)
  ·replace b5:=OF b5
   refine c_skip (x_cut (0,4,0,0,false,d) (.cons Z (.cons Z (.cons Z (.cons Z (.nil _))))) ⟨f9,(Le.refl _ _),ET (IN b5) (rfl)⟩)
 ·rintro ⟨a5,a6,a7,a8,a9,e4⟩ e7 ⟨c6,c7,c9⟩
  refine csr ((g_y (y_loadA (cs:=[.slice A7 (t.schemes).length c8,.slice d8 (t.contribs).length d9,.slice e0 (t.kinds).length e1,.int .i64 t.limit,.int .i64 t.round]) sh_26 Z ((blk_cells c6 m1).part (f:=0) (.take _ (.take _ (.take _ (.take _ (.take _ (.nil _)))))))) Z Z (GM Y (g_y (y_loadA (cs:=[.int .i64 a5,.int .i64 a6,.int .i64 a7,.int .i64 a8,.bool a9]) sh_28 Z ((blk_cells c6 m0).part (f:=0) (.take _ (.take _ (.take _ (.take _ (.take _ (.nil _)))))))) Z Z ?_))))
  have g0:=rNew_c (t:=t) (y:=y) (c:=(⟨a5,a6,a7,a8,a9⟩:Code)) c6.lt (show tableTy.rel _ _ t _ from ⟨_,_,_,rfl,(hS4.mono (((b9.t c0).t c1).t c7)),(hS5.mono (((b9.t c0).t c1).t c7)),(hS6.mono (((b9.t c0).t c1).t c7))⟩) (show PtrD pYearTy _ _ _ y from ⟨_,_,rfl,(h9.mono (((b9.t c0).t c1).t c7)),rfl⟩)
  obtain ⟨g1,a4⟩:∃ r,rNew t y ((⟨a5,a6,a7,a8,a9⟩:Code))=r:=⟨_,rfl⟩
  rw [a4] at g0
  refine g_e (ev_call pf_56 Z g0) Z Z ?_
  rintro _ g2 ⟨e9,g3,g4,j0,j1⟩
  rcases b0:g1.1 with _ | c2
  ·have g5:=rNew_opt.1 (by rw [a4]; exact b0)
   rw [a4] at g5
   obtain rfl:=j0 b0
   obtain ⟨g6,p8⟩:=c6.pure g3 g4
   refine GM Y (g_y (y_extract Z Z) Z Z (g_y (y_extract Z Z) Z Z (GA Y (GA Y (gnx ((c_seq (csr ((GM Y (g_y (y_neq Z Z) Z Z (gnx (?_)))))))))))))
   refine c_condT (bt (decide_eq_true g5)) (csr ((GM Y (GA Y (GA Y (gnx ((c_ret ?_))))))))
   have j2:clPay t y list=(none,g1.2):=ET (BE c9) (ET (BE a4) (ET (ocase_none b0) (rfl)))
   refine x_thenR (x_ret ⟨_,_,rfl,rfl,⟨_,_,rfl,rfl,rfl⟩⟩ ?_)
   exact ⟨_,_,rfl,g6.fr,g6.grow,by rw [j2]; exact ⟨(fun _=>rfl),(fun x h=>by cases h)⟩⟩
  ·have g7:=rNew_opt.2 _ (by rw [a4]; exact b0)
   rw [a4] at g7
   obtain ⟨b6,d0,j3,rfl,j4⟩:=j1 _ b0
   obtain ⟨g8,j5⟩:=c6.take g3 g4 j4
   obtain ⟨p9,q0,q1,q2⟩:=empR_inv (g8.ok _ m0)
   refine GM Y (g_y (y_extract Z Z) Z Z (g_y (y_extract Z Z) Z Z (GA Y (GA Y (gnx ((c_seq (csr ((GM Y (g_y (y_neq Z Z) Z Z (gnx (?_)))))))))))))
   refine c_condF (bf (decide_eq_false (not_not_intro g7))) (c_skip (x_next (c_seq (csr ((GM Y (gln el_79 Z Z Z (GM Y (gnx ((c_cut1 (ι:=EmpS × Nat × Dat) (fun ⟨d1,f0,e5⟩=>[(9,.pointer (some ⟨b6,0,none⟩))]) (fun ⟨d1,f0,e5⟩ f1=>Inv [] d w e5 [empR b6 d0 f0 d1,blk e3 28 [.int .i64 a5,.int .i64 a6,.int .i64 a7,.int .i64 a8,.bool a9],blk e2 26 [.slice A7 (t.schemes).length c8,.slice d8 (t.contribs).length d9,.slice e0 (t.kinds).length e1,.int .i64 t.limit,.int .i64 t.round]] f1∧Le e9 g2 e5 f1∧clPay_l1 list 0 c2=Out.next d1) ?_ ?_)))))))))))
   ·refine c_block (c_loop (ι:=EmpS × Nat × Nat × Dat) (fun ⟨a2,b2,a1,c3⟩=>[(9,.pointer (some ⟨b6,0,none⟩)),(35,.slice f7 (list).length f8),(36,.int .i64 (list.length:Int)),(37,.int .i64 (a1:Int))]) (fun ⟨a2,b2,a1,c3⟩ f2=>Inv [] d w c3 [empR b6 d0 b2 a2,blk e3 28 [.int .i64 a5,.int .i64 a6,.int .i64 a7,.int .i64 a8,.bool a9],blk e2 26 [.slice A7 (t.schemes).length c8,.slice d8 (t.contribs).length d9,.slice e0 (t.kinds).length e1,.int .i64 t.limit,.int .i64 t.round]] f2∧Le e9 g2 c3 f2∧clPay_l1 list 0 c2=clPay_l1 (list.drop a1) a1 a2∧a1≤list.length) (fun ⟨a2,b2,a1,c3⟩=>list.length - a1) (c2,j3,0,e9) (.cons Z (.cons Z (.cons Z (.cons Z (.nil _))))) ⟨g8,Le.refl _ _,rfl,Nat.zero_le _⟩ ?_)
    rintro ⟨a2,b2,a1,c3⟩ f2 ⟨g9,f3,d2,q3⟩
    refine csr ((g_y (y_lss Z Z) Z Z (gnx ((c_seq (c_cond Z (fun d3=>?_) (fun d3=>?_)))))))
    ·replace d3:=OT d3
     obtain ⟨a0,c4⟩:=has (xs:=list) (k:=a1) (by omega)
     have q4:=hel _ (List.mem_of_getElem? c4)
     refine c_skip (x_next (c_seq (c_block (csr (?_)))))
     obtain ⟨q5,q6,q7,j6,j7,j8,q8⟩:=Sl.at_ (h_list.mono (((((b9.t c0).t c1).t c7).t j5).t f3)) c4
     obtain ⟨q9,rfl,h0⟩:=j7
     obtain ⟨j9,k0,rfl,r0,r1⟩:=h0.fm
     refine g_y (y_indexAddr (i:=a1) el_79 Z j6 Z (rfl) (by omega)) Z Z (g_y (y_loadA (cs:=[.int .i64 a0.code.scheme,.int .i64 a0.code.kind,.int .i64 a0.code.amount,.int .i64 a0.code.flat,.bool a0.code.alone,.slice j9 (a0.elements).length k0]) sh_112 Z (j8.part (f:=0) (.take _ (.take _ (.take _ (.take _ (.take _ (.take _ (.nil _))))))))) Z Z (g_e (ev_alloc g9 ze_112) Z Z ?_))
     rintro _ r2 ⟨r3,rfl,k1,h1⟩
     refine g_e (ev_store k1 Z Z Z sz_112 Z (.here _ _ (.here _ _ (.here _ _ (.here _ _ (.here _ _ (.here _ _ (.nil _))))))) (.hd _)) Z Z ?_
     rintro _ r4 ⟨d4,h2⟩
     refine gnx ((c_seq (csr ((GM Y (gfa fo_112_0 Z Z Z (g_y (y_loadA (cs:=[.int .i64 a0.code.scheme,.int .i64 a0.code.kind,.int .i64 a0.code.amount,.int .i64 a0.code.flat,.bool a0.code.alone]) sh_28 Z ((blk_cells d4 m0).part (f:=0) (.take _ (.take _ (.take _ (.take _ (.take _ (.nil _)))))))) Z Z ?_)))))))
     have h3:=eCode_c (p:=a2) (p_r:=b6) (p_posted:=d0) (p_orders:=b2) (c:=a0.code) d4.lt (d4.ok _ m1) (d4.nod _ m1)
     obtain ⟨d5,c5⟩:∃ r,eCode a2 a0.code=r:=⟨_,rfl⟩
     rw [c5] at h3
     have h8r766:=congrArg List.length (eCode_inputs (p:=a2) (c:=a0.code)); rw [c5] at h8r766
     refine g_e (ev_call pf_69 Z h3) Z Z ?_
     rintro _ r5 ⟨r6,k2,k3,rfl,k4⟩
     obtain ⟨b3,h4⟩:=d4.turn (.tl _ (.hd _)) k2 k3 k4
     obtain ⟨r7,r8,r9,s0⟩:=empR_inv (b3.ok _ m1)
     refine GA Y (gnx ((csr ((GM Y (g_y (y_neq Z Z) Z Z (gnx ((c_cond Z (fun b1=>?_) (fun b1=>?_))))))))))
     ·replace b1:=OT b1
      refine csr ((GM Y (GA Y (GA Y (gnx ((c_ret ?_)))))))
      have k5:clPay_l1 list 0 c2=(Out.ret ((none,d5.2))):=d2.trans (ET (congrArg (fun l=>clPay_l1 l a1 a2) (drop_cons c4)) (ET (BE c5) (ET (IP b1) (rfl))))
      have k6:clPay t y list=(none,d5.2):=ET (BE c9) (ET (BE a4) (ET (ocase_some b0) (ET (out_ret k5) (rfl))))
      refine x_thenR (x_blockR (x_thenR (x_rndR (x_blockR (x_cutR (x_thenR (x_ret ⟨_,_,rfl,rfl,⟨_,_,rfl,rfl,rfl⟩⟩ ?_)))))))
      exact ⟨_,_,rfl,b3.fr,b3.grow,by rw [k6]; exact ⟨(fun _=>rfl),(fun x h=>by cases h)⟩⟩
     ·replace b1:=OF b1
      refine c_skip (x_next (c_seq (csr ((GM Y (gfa fo_112_1 Z Z Z (gld sh_43 Z b3 m0 (i:=5) Z Z Z ?_)))))))
      have h5:=ePay_c (p:=d5.1) (p_r:=b6) (p_posted:=d0) (p_orders:=b2) (list:=a0.elements) b3.lt (b3.ok _ m1) (b3.nod _ m1) (h0.mono ((h1.t h2).t h4)) (by first | omega | (simp only [LA,LC,LN]; omega))
      obtain ⟨d6,d7⟩:∃ r,ePay d5.1 a0.elements=r:=⟨_,rfl⟩
      rw [d7] at h5
      have h8r798:=congrArg List.length (ePay_inputs (p:=d5.1) (l:=a0.elements)); rw [d7] at h8r798
      refine g_e (ev_call pf_23 Z h5) Z Z ?_
      rintro _ s1 ⟨s2,k7,k8,rfl,k9⟩
      obtain ⟨b7,l0⟩:=b3.turn (.tl _ (.hd _)) k7 k8 k9
      obtain ⟨s3,s4,s5,s6⟩:=empR_inv (b7.ok _ m1)
      refine GA Y (gnx ((csr ((GM Y (g_y (y_neq Z Z) Z Z (gnx ((c_cond Z (fun b4=>?_) (fun b4=>?_))))))))))
      ·replace b4:=OT b4
       refine csr ((GM Y (GA Y (GA Y (gnx ((c_ret ?_)))))))
       have l1:clPay_l1 list 0 c2=(Out.ret ((none,d6.2))):=d2.trans (ET (congrArg (fun l=>clPay_l1 l a1 a2) (drop_cons c4)) (ET (BE c5) (ET (IN b1) (ET (BE d7) (ET (IP b4) (rfl))))))
       have l2:clPay t y list=(none,d6.2):=ET (BE c9) (ET (BE a4) (ET (ocase_some b0) (ET (out_ret l1) (rfl))))
       refine x_thenR (x_blockR (x_thenR (x_rndR (x_blockR (x_cutR (x_thenR (x_ret ⟨_,_,rfl,rfl,⟨_,_,rfl,rfl,rfl⟩⟩ ?_)))))))
       exact ⟨_,_,rfl,b7.fr,b7.grow,by rw [l2]; exact ⟨(fun _=>rfl),(fun x h=>by cases h)⟩⟩
      ·replace b4:=OF b4
       refine c_skip (x_next (csr ((GM Y ?_))))
       have h6:=eRun_c (p:=d6.1) (p_r:=b6) (p_posted:=d0) (p_orders:=b2) b7.lt (b7.ok _ m1) (b7.nod _ m1)
       obtain ⟨f4,e6⟩:∃ r,eRun d6.1=r:=⟨_,rfl⟩
       rw [e6] at h6
       have h8r815:=eRun_len (p:=d6.1); rw [e6] at h8r815
       refine g_e (ev_call pf_24 Z h6) Z Z ?_
       rintro _ s7 ⟨l3,l4,l5,l6,s8,rfl,l7,l8⟩
       obtain ⟨h7,l9⟩:=b7.turn (.tl _ (.hd _)) l4 l5 l7
       obtain ⟨s9,t0,t1,t2⟩:=empR_inv (h7.ok _ m1)
       obtain ⟨t3,t4,rfl,m6,m7⟩:=l8
       obtain ⟨t5,t6,rfl,t7,t8⟩:=m6.fm
       obtain ⟨t9,u0,rfl,u1,u2⟩:=m7.fm
       refine GM Y (g_y (y_extract Z Z) Z Z (g_y (y_extract Z Z) Z Z (g_e (ev_alloc h7 ze_51) Z Z ?_)))
       rintro _ u3 ⟨u4,rfl,m8,m9⟩
       refine g_e (ev_store m8 Z Z Z sz_51 Z (.here _ _ (.here _ _ (.here _ _ (.here _ _ (.here _ _ (.here _ _ (.here _ _ (.here _ _ (.here _ _ (.here _ _ (.nil _))))))))))) (.hd _)) Z Z ?_
       rintro _ u5 ⟨f5,n0⟩
       refine GA Y (gnx ((csr ((GM Y (g_y (y_neq Z Z) Z Z (gnx ((c_cond Z (fun b8=>?_) (fun b8=>?_))))))))))
       ·replace b8:=OT b8
        refine csr ((GM Y (GA Y (GA Y (gnx ((c_ret ?_)))))))
        have n1:clPay_l1 list 0 c2=(Out.ret ((none,f4.2.2))):=d2.trans (ET (congrArg (fun l=>clPay_l1 l a1 a2) (drop_cons c4)) (ET (BE c5) (ET (IN b1) (ET (BE d7) (ET (IN b4) (ET (BE e6) (ET (IP b8) (rfl))))))))
        have n2:clPay t y list=(none,f4.2.2):=ET (BE c9) (ET (BE a4) (ET (ocase_some b0) (ET (out_ret n1) (rfl))))
        refine x_blockR (x_thenR (x_rndR (x_blockR (x_cutR (x_thenR (x_ret ⟨_,_,rfl,rfl,⟨_,_,rfl,rfl,rfl⟩⟩ ?_))))))
        exact ⟨_,_,rfl,f5.fr,f5.grow,by rw [n2]; exact ⟨(fun _=>rfl),(fun x h=>by cases h)⟩⟩
       ·replace b8:=OF b8
        refine c_skip (x_blockN (x_next ?_))
        refine c_region (g_y (y_add Z Z (by omega)) Z Z (GM Y (g_nil ?_)))
        have n3:=f5.drop (.hd _)
        have n4:=n3.drop (.hd _)
        refine x_round (f4.1,l6,a1 + 1,l3) (by dsimp only; omega) (.cons Z (.cons Z (.cons Z (.cons Z (.nil _))))) ⟨n4,(((((((f3.t h1).t h2).t h4).t l0).t l9).t m9).t n0),d2.trans (ET (congrArg (fun l=>clPay_l1 l a1 a2) (drop_cons c4)) (ET (BE c5) (ET (IN b1) (ET (BE d7) (ET (IN b4) (ET (BE e6) (ET (IN b8) (rfl)))))))),by omega⟩
    ·replace d3:=OF d3
     refine c_exit (x_thenE (x_rndE (x_blockE (x_cut (a2,b2,c3) (.cons Z (.nil _)) ⟨g9,f3,d2.trans (ET (congrArg (fun l=>clPay_l1 l a1 a2) (drop_nil (by omega))) (rfl))⟩))))
   ·rintro ⟨d1,f0,e5⟩ f1 ⟨f6,u6,n5⟩
    refine x_next (csr ((GM Y (GA Y (GA Y (gnx ((c_ret ?_))))))))
    have n6:clPay t y list=((some d1),0):=ET (BE c9) (ET (BE a4) (ET (ocase_some b0) (ET (out_next n5) (rfl))))
    refine x_ret ⟨_,_,rfl,rfl,⟨_,_,rfl,rfl,rfl⟩⟩ (⟨_,_,rfl,f6.fr,f6.grow,by rw [n6]; exact ⟨(fun h=>by cases h),(fun x h=>by cases h; exact ⟨_,_,_,rfl,f6.fresh m0⟩)⟩⟩)
theorem clPay_l1_ret:∀ (l:List Input) (k:Nat) (p:EmpS) (r:Option EmpS × Int),clPay_l1 l k p=.ret r→r.1=none∧r.2≠0
 | [],_,_,_,h=>by cases h
 | x :: l,k,p,r,h=>by
  unfold clPay_l1 at h
  simp only [bnd] at h
  by_cases h1:(eCode p x.code).2≠0
  ·rw [IP h1] at h; cases h; exact ⟨rfl,h1⟩
  rw [IN h1] at h
  by_cases h2:(ePay (eCode p x.code).1 x.elements).2≠0
  ·rw [IP h2] at h; cases h; exact ⟨rfl,h2⟩
  rw [IN h2] at h
  by_cases h3:(eRun (ePay (eCode p x.code).1 x.elements).1).2.2≠0
  ·rw [IP h3] at h; cases h; exact ⟨rfl,h3⟩
  rw [IN h3] at h
  exact clPay_l1_ret l _ _ r h
theorem clPay_opt {t:Table} {y:PYear} {list:List Input}:((clPay t y list).1=none→(clPay t y list).2≠0)∧(∀ x,(clPay t y list).1=some x→(clPay t y list).2=0):=by
 unfold clPay
 simp only [bnd]
 cases h:(rNew t y _).1 with
 | none=>exact ⟨(fun _=>rNew_opt.1 h),(fun x h=>by cases h)⟩
 | some e=>
  simp only [ocase]
  cases h2:clPay_l1 list 0 e with
  | next p=>exact ⟨(fun h=>by cases h),(fun x h=>rfl)⟩
  | ret r=>
   obtain ⟨h3,h4⟩:=clPay_l1_ret list 0 e r h2
   exact ⟨(fun _=>h4),(fun x h=>by rw [show (out (Out.ret r) _:Option EmpS × Int)=r from rfl,h3] at h; cases h)⟩
def clUpto (dk:DeskS) (k:Int):Due × Int:=
 (bnd (ePosted dk.emp) fun a2=>
 (bnd (yUpto a2 k) fun a0=>
 (if (a0.2≠0) then ((⟨(⟨0,0,0⟩:Bases),0,([]:List Share)⟩:Due),a0.2)
 else (bnd (clOf a0.1) fun a1=>
 (a1.1,a1.2)))))
theorem clUpto_c {dk:DeskS} {dk_r:Nat} {dk_emp:Nat} {dk_emp_posted:Nat} {dk_emp_orders:Nat} {dk_fixesA:Option Addr} {dk_fixesc:Nat} {dk_firstA:Option Addr} {dk_firstc:Nat} {k:Int} {d:Dat} {w:World} (hd:∀ b,d b→b < w.heap.size) (h_dk:(deskR dk_r dk_emp dk_emp_posted dk_emp_orders dk_fixesA dk_fixesc dk_firstA dk_firstc dk).ok d w):Ret Tryz.prog 36 [.pointer (some ⟨dk_r,0,none⟩),.int .i64 k] w [] d (fun u d' w'=>∃ (cs0:List Value),u=.tuple #[.agg cs0.toArray,.int .i64 ((clUpto dk k).2)]∧dueTy.rel d' w' (clUpto dk k).1 cs0):=by
 refine ret_enter (n:=26) Tryz.func36 Z Z (ble Z) ?_
 have hI0:=Inv.start hd
 refine csr ((g_e (ev_alloc hI0 ze_84) Z Z ?_))
 rintro _ w1 ⟨b4,rfl,hI2,hle3⟩
 refine GA Y (gnx ((csr ((GM Y (g_y (y_nilCheck Z) Z Z (gfa fo_81_0 Z Z Z ?_)))))))
 obtain ⟨cs5,hk6,hr7⟩:=obj_kp (M:=[]) (star_ok1 h_dk) (by simp)
 have hB8:(empR dk_emp dk_emp_posted dk_emp_orders dk.emp).ok d w:=(star_ok1 (star_ok2 h_dk))
 have hB9:(row fixTy 156 (.slice dk_fixesA dk.fixes.length dk_fixesc) dk.fixes).ok d w:=(star_ok1 (star_ok2 (star_ok2 h_dk)))
 have b7:=row_len hB9; unfold big at b7
 have b8:(row inputTy 112 (.slice dk_firstA dk.first.length dk_firstc) dk.first).ok d w:=(star_ok2 (star_ok2 (star_ok2 h_dk)))
 have b9:=row_len b8; unfold big at b9
 obtain ⟨rfl,d6,d7,d8,d9,e0,e1⟩:=hr7
 refine g_y (y_load1 sh_30 Z ((hk6.at_ hI2).nth_ (i:=0) Z)) Z Z ?_
 have a8:=ePosted_c (p:=dk.emp) (p_r:=dk_emp) (p_posted:=dk_emp_posted) (p_orders:=dk_emp_orders) hI2.lt (Res.keepB _ hB8 hle3 hI2 (by simp))
 obtain ⟨a9,a4⟩:∃ r,ePosted dk.emp=r:=⟨_,rfl⟩
 rw [a4] at a8
 refine g_e (ev_call pf_27 Z a8) Z Z ?_
 rintro _ e2 ⟨e3,c0,c1,c2,rfl,c3⟩
 obtain ⟨a2,e4⟩:=hI2.take c0 c1 c3
 have e5:=yearR_inv (a2.ok _ m0)
 refine GM Y ?_
 have b0:=yUpto_c (y:=a9) (y_r:=c2) (k:=k) a2.lt (a2.ok _ m0)
 obtain ⟨a0,a5⟩:∃ r,yUpto a9 k=r:=⟨_,rfl⟩
 rw [a5] at b0
 refine g_e (ev_pure a2 pf_47 Z b0) Z Z ?_
 rintro _ e6 ⟨e7,c4,e8,⟨e9,rfl,c5⟩⟩
 obtain ⟨f0,rfl,b1⟩:=c5
 obtain ⟨c6,c7,rfl,f1,f2⟩:=b1.fm
 refine GM Y (g_y (y_extract Z Z) Z Z (g_y (y_extract Z Z) Z Z (g_e (ev_alloc c4 ze_64) Z Z ?_)))
 rintro _ f3 ⟨f4,rfl,c8,c9⟩
 refine g_e (ev_store c8 Z Z Z sz_64 Z (.here _ _ (.here _ _ (.here _ _ (.here _ _ (.here _ _ (.here _ _ (.here _ _ (.here _ _ (.here _ _ (.nil _)))))))))) (.hd _)) Z Z ?_
 rintro _ f5 ⟨a3,d0⟩
 refine GA Y (gnx ((c_seq (csr ((GM Y (g_y (y_neq Z Z) Z Z (gnx ((c_cond Z (fun a1=>?_) (fun a1=>?_)))))))))))
 ·replace a1:=OT a1
  refine csr ((g_y (y_build ze_84 pl_84 (.nil _)) Z Z (GM Y (g_e (ev_store a3 Z Z Z sz_84 Z (.here _ _ (.here _ _ (.here _ _ (.here _ _ (.here _ _ (.nil _)))))) (.tl _ (.tl _ (.hd _)))) Z Z ?_))))
  rintro _ f6 ⟨a6,f7⟩
  refine GA Y (gnx ((c_ret ?_)))
  have d1:clUpto dk k=((⟨(⟨0,0,0⟩:Bases),0,([]:List Share)⟩:Due),a0.2):=ET (BE a4) (ET (BE a5) (ET (IP a1) (rfl)))
  refine x_thenR (x_ret ⟨_,_,_,rfl,rfl,blk_cells a6 m2,sh_84,⟨_,_,rfl,rfl,rfl⟩⟩ ?_)
  exact ⟨_,_,rfl,a6.fr,a6.grow,by rw [d1]; exact ⟨_,rfl,⟨_,rfl,(Sl.nil_ _ _ _ none 0)⟩⟩⟩
 ·replace a1:=OF a1
  refine c_skip (x_next (csr ((g_y (y_loadA (cs:=[.int .i64 a0.1.bases.cash,.int .i64 a0.1.bases.taxable,.int .i64 a0.1.bases.social,.int .i64 a0.1.tax,.int .i64 a0.1.shortfall,.slice c6 (a0.1.shares).length c7,.int .i64 a0.1.net,.int .i64 a0.1.taken,.int .i64 a0.1.pay]) sh_64 Z ((blk_cells a3 m0).part (f:=0) (.take _ (.take _ (.take _ (.take _ (.take _ (.take _ (.take _ (.take _ (.take _ (.nil _)))))))))))) Z Z ?_))))
  have b2:=clOf_c (t:=a0.1) a3.lt (show totalsTy.rel _ _ a0.1 _ from ⟨_,rfl,(b1.mono (c9.t d0))⟩)
  obtain ⟨b3,b5⟩:∃ r,clOf a0.1=r:=⟨_,rfl⟩
  rw [b5] at b2
  refine g_e (ev_pure a3 pf_43 Z b2) Z Z ?_
  rintro _ f8 ⟨f9,d2,g0,⟨g1,rfl,d3⟩⟩
  obtain ⟨g2,rfl,b6⟩:=d3
  obtain ⟨g3,g4,rfl,g5,g6⟩:=b6.fm
  refine g_y (y_extract Z Z) Z Z (g_y (y_extract Z Z) Z Z (g_e (ev_store d2 Z Z Z sz_84 Z (.here _ _ (.here _ _ (.here _ _ (.here _ _ (.here _ _ (.nil _)))))) (.tl _ (.tl _ (.hd _)))) Z Z ?_))
  rintro _ g7 ⟨a7,d4⟩
  refine GA Y (gnx ((c_ret ?_)))
  have d5:clUpto dk k=(b3.1,b3.2):=ET (BE a4) (ET (BE a5) (ET (IN a1) (ET (BE b5) (rfl))))
  refine x_ret ⟨_,_,_,rfl,rfl,blk_cells a7 m2,sh_84,⟨_,_,rfl,rfl,rfl⟩⟩ (⟨_,_,rfl,a7.fr,a7.grow,by rw [d5]; exact ⟨_,rfl,⟨_,rfl,(b6.mono d4)⟩⟩⟩)
def clFrom_m1 (dk:DeskS) (r6:(List Input) × Int):Int × List Bases × Int × Int × Int × Int × List Share:=
 (bnd (eTable dk.emp) fun a1=>
 (bnd (eYear dk.emp) fun a2=>
 (bnd (rReckon a1 a2 0 r6.1) fun a0=>
 (a0.2,a0.1.periods,a0.1.sum.cash,a0.1.sum.taxable,a0.1.sum.social,a0.1.tax,a0.1.shares))))
def clFrom (dk:DeskS) (k:Int):Due × Int:=
 (bnd (dAs dk k) fun r6=>
 (if (r6.2≠0) then ((⟨(⟨0,0,0⟩:Bases),0,([]:List Share)⟩:Due),r6.2)
 else (bnd (clFrom_m1 dk r6) fun ⟨a0,a6,a1,a2,a3,a4,a5⟩=>
 (if (a0≠0) then ((⟨(⟨0,0,0⟩:Bases),0,([]:List Share)⟩:Due),a0)
 else ((⟨(⟨a1,a2,a3⟩:Bases),a4,a5⟩:Due),0)))))
theorem clFrom_c {dk:DeskS} {dk_r:Nat} {dk_emp:Nat} {dk_emp_posted:Nat} {dk_emp_orders:Nat} {dk_fixesA:Option Addr} {dk_fixesc:Nat} {dk_firstA:Option Addr} {dk_firstc:Nat} {k:Int} {d:Dat} {w:World} (hd:∀ b,d b→b < w.heap.size) (h_dk:(deskR dk_r dk_emp dk_emp_posted dk_emp_orders dk_fixesA dk_fixesc dk_firstA dk_firstc dk).ok d w):Ret Tryz.prog 37 [.pointer (some ⟨dk_r,0,none⟩),.int .i64 k] w [] d (fun u d' w'=>∃ (cs0:List Value),u=.tuple #[.agg cs0.toArray,.int .i64 ((clFrom dk k).2)]∧dueTy.rel d' w' (clFrom dk k).1 cs0):=by
 refine ret_enter (n:=45) Tryz.func37 Z Z (ble Z) ?_
 have hI0:=Inv.start hd
 refine csr ((g_e (ev_alloc hI0 ze_84) Z Z ?_))
 rintro _ w1 ⟨b4,rfl,hI2,hle3⟩
 refine GA Y (gnx ((csr ((GM Y (GM Y ?_))))))
 have hq5:=dAs_c (dk:=dk) (dk_r:=dk_r) (dk_emp:=dk_emp) (dk_emp_posted:=dk_emp_posted) (dk_emp_orders:=dk_emp_orders) (dk_fixesA:=dk_fixesA) (dk_fixesc:=dk_fixesc) (dk_firstA:=dk_firstA) (dk_firstc:=dk_firstc) (p:=k) hI2.lt (Res.keepB _ h_dk hle3 hI2 (by simp))
 obtain ⟨r6,hr7⟩:∃ r,dAs dk k=r:=⟨_,rfl⟩
 rw [hr7] at hq5
 refine g_e (ev_pure hI2 pf_46 Z hq5) Z Z ?_
 rintro _ w9 ⟨d8,g2,c2,⟨q9,rfl,c3⟩⟩
 obtain ⟨r0,r1,rfl,r2,r3⟩:=c3.fm
 refine GM Y (g_y (y_extract Z Z) Z Z (g_y (y_extract Z Z) Z Z (GA Y (GA Y (gnx ((c_seq (csr ((GM Y (g_y (y_neq Z Z) Z Z (gnx (?_)))))))))))))
 refine c_cond Z (fun a4=>?_) (fun a4=>?_)
 ·replace a4:=OT a4
  refine csr ((g_y (y_build ze_84 pl_84 (.nil _)) Z Z (GM Y (g_e (ev_store g2 Z Z Z sz_84 Z (.here _ _ (.here _ _ (.here _ _ (.here _ _ (.here _ _ (.nil _)))))) (.hd _)) Z Z ?_))))
  rintro _ r4 ⟨f2,r5⟩
  refine GA Y (gnx ((c_ret ?_)))
  have k7:clFrom dk k=((⟨(⟨0,0,0⟩:Bases),0,([]:List Share)⟩:Due),r6.2):=ET (BE hr7) (ET (IP a4) (rfl))
  refine x_thenR (x_ret ⟨_,_,_,rfl,rfl,blk_cells f2 m0,sh_84,⟨_,_,rfl,rfl,rfl⟩⟩ ?_)
  exact ⟨_,_,rfl,f2.fr,f2.grow,by rw [k7]; exact ⟨_,rfl,⟨_,rfl,(Sl.nil_ _ _ _ none 0)⟩⟩⟩
 ·replace a4:=OF a4
  refine c_skip (x_next (c_cut (ι:=Int × Nat × List Bases × Option Addr × Nat × Int × Int × Int × Int × List Share × Option Addr × Nat × Dat) (fun ⟨c4,d2,b3,d3,d4,b5,b6,b7,c5,a5,d5,d6,b8⟩=>[(4,.pointer (some ⟨b4,0,none⟩)),(7,.int .i64 c4),(8,.pointer (some ⟨d2,0,none⟩))]) (fun ⟨c4,d2,b3,d3,d4,b5,b6,b7,c5,a5,d5,d6,b8⟩ c6=>Inv [] d w b8 [blk d2 97 [.slice d3 (b3).length d4,.int .i64 b5,.int .i64 b6,.int .i64 b7,.int .i64 c5,.slice d5 (a5).length d6],blk b4 84 [.int .i64 0,.int .i64 0,.int .i64 0,.int .i64 0,.slice none 0 0]] c6∧Le d8 w9 b8 c6∧clFrom_m1 dk r6=(c4,b3,b5,b6,b7,c5,a5)∧Sl basesTy b8 c6 (.slice d3 b3.length d4) b3∧Sl shareTy b8 c6 (.slice d5 a5.length d6) a5) ?_ ?_))
  ·have c7:=g2.drew; have a0:=Le.drew d8 w9
   refine c_drawK 17 follows_mixed c7 (k_y 0 (by kernel_rfl) Z Z Z (fun _ _=>(y_move Z)) (k_y 1 (by kernel_rfl) Z Z Z (fun _ _=>(y_nilCheck Z)) (k_y 2 (by kernel_rfl) Z Z Z (fun _ _=>(y_fieldAddr fo_81_0 Z)) ?_)))
   obtain ⟨r7,g3,k8⟩:=obj_kp (M:=[]) (star_ok1 h_dk) (by simp)
   have c8:(empR dk_emp dk_emp_posted dk_emp_orders dk.emp).ok d w:=(star_ok1 (star_ok2 h_dk))
   have k9:(row fixTy 156 (.slice dk_fixesA dk.fixes.length dk_fixesc) dk.fixes).ok d w:=(star_ok1 (star_ok2 (star_ok2 h_dk)))
   have l0:=row_len k9; unfold big at l0
   have l1:(row inputTy 112 (.slice dk_firstA dk.first.length dk_firstc) dk.first).ok d w:=(star_ok2 (star_ok2 (star_ok2 h_dk)))
   have l2:=row_len l1; unfold big at l2
   obtain ⟨rfl,r8,r9,s0,s1,s2,s3⟩:=k8
   refine k_y 3 (by kernel_rfl) Z Z Z (fun s4 ⟨s5,l3,s6⟩=>(y_load1 sh_30 Z ((g3.at_ l3).nth_ (i:=0) Z))) (k_y 5 (by kernel_rfl) Z Z Z (fun _ _=>(y_move Z)) (k_y 6 (by kernel_rfl) Z Z Z (fun _ _=>(y_nilCheck Z)) (k_y 7 (by kernel_rfl) Z Z Z (fun _ _=>(y_fieldAddr fo_81_0 Z)) (k_y 8 (by kernel_rfl) Z Z Z (fun s7 ⟨s8,l4,s9⟩=>(y_load1 sh_30 Z ((g3.at_ l4).nth_ (i:=0) Z))) (k_y 10 (by kernel_rfl) Z Z Z (fun _ _=>(y_move Z)) (k_all (is:=[4,15]) (by kernel_rfl) (by simp) (.cons ?_ (.cons ?_ .nil))))))))
   ·have g4:=eTable_c (p:=dk.emp) (p_r:=dk_emp) (p_posted:=dk_emp_posted) (p_orders:=dk_emp_orders) c7.lt (Res.keepB _ c8 ((hle3.t c2).t a0) c7 (by simp))
    obtain ⟨a2,d7⟩:∃ r,eTable dk.emp=r:=⟨_,rfl⟩
    rw [d7] at g4
    refine k_op Z Z Z (ev_pure c7 pf_64 Z g4) ?_
    rintro _ t0 ⟨t1,c9,a3,⟨t2,rfl,l5⟩⟩
    obtain ⟨t3,t4,t5,rfl,d9,e0,e1⟩:=l5
    obtain ⟨t6,t7,rfl,t8,t9⟩:=d9.fm
    obtain ⟨u0,u1,rfl,u2,u3⟩:=e0.fm
    obtain ⟨u4,u5,rfl,u6,u7⟩:=e1.fm
    refine k_next c9 a3 (k_all (is:=[9,15]) (by kernel_rfl) (by simp) (.cons ?_ (.cons ?_ .nil)))
    ·have g5:=eYear_c (p:=dk.emp) (p_r:=dk_emp) (p_posted:=dk_emp_posted) (p_orders:=dk_emp_orders) c9.lt (Res.keepB _ c8 (((hle3.t c2).t a0).t a3) c9 (by simp))
     obtain ⟨b9,f3⟩:∃ r,eYear dk.emp=r:=⟨_,rfl⟩
     rw [f3] at g5
     refine k_op Z Z Z (ev_pure c9 pf_65 Z g5) ?_
     rintro _ u8 ⟨u9,e2,a1,⟨v0,rfl,l6⟩⟩
     obtain ⟨v1,v2,rfl,g6,l7⟩:=l6
     obtain rfl:=l7
     refine k_next e2 a1 (k_all (is:=[11,15]) (by kernel_rfl) (by simp) (.cons ?_ (.cons ?_ .nil)))
     ·have g7:=rReckon_c (t:=a2) (y:=b9) (gross:=0) (list:=r6.1) e2.lt (show tableTy.rel _ _ a2 _ from ⟨_,_,_,rfl,(d9.mono a1),(e0.mono a1),(e1.mono a1)⟩) (show PtrD pYearTy _ _ _ b9 from ⟨_,_,rfl,g6,rfl⟩) (c3.mono ((a0.t a3).t a1))
      obtain ⟨a6,g8⟩:∃ r,rReckon a2 b9 0 r6.1=r:=⟨_,rfl⟩
      rw [g8] at g7
      refine k_op Z Z Z (ev_pure e2 pf_42 Z g7) ?_
      rintro _ v3 ⟨l8,g9,h0,⟨v4,rfl,l9⟩⟩
      obtain ⟨v5,v6,rfl,h1,h2⟩:=l9
      obtain ⟨m6,m7,rfl,v7,v8⟩:=h1.fm
      obtain ⟨m8,m9,rfl,v9,w0⟩:=h2.fm
      refine k_next g9 h0 (k_y 12 (by kernel_rfl) Z Z Z (fun _ _=>(y_move Z)) (k_y 13 (by kernel_rfl) Z Z Z (fun _ _=>(y_extract Z Z)) (k_y 14 (by kernel_rfl) Z Z Z (fun _ _=>(y_extract Z Z)) (k_all (is:=[15]) (by kernel_rfl) (by simp) (.cons ?_ .nil)))))
      refine k_op Z Z Z (ev_alloc g9 ze_97) ?_
      rintro _ w2 ⟨n0,rfl,h3,e3⟩
      refine k_next (h3.drop (.hd _)) e3 (k_all (is:=[16]) (by kernel_rfl) (by simp) (.cons ?_ .nil))
      refine k_op Z Z Z (ev_store h3 Z Z Z sz_97 Z (.here _ _ (.here _ _ (.here _ _ (.here _ _ (.here _ _ (.here _ _ (.nil _))))))) (.hd _)) ?_
      rintro _ w3 ⟨h4,e4⟩
      refine k_next (h4.drop (.hd _)) e4 (k_all (is:=[17]) (by kernel_rfl) (by simp) (.cons ?_ .nil))
      refine k_op Z Z Z (Ev.of_y2 (y_assign Z)) ?_
      rintro _ _ ⟨rfl,rfl⟩
      refine k_bar (b_done (by kernel_rfl) (x_draw ?_) (by kernel_rfl))
      have n1:=h4.front (.hd _)
      refine x_cut (a6.2,n0,a6.1.periods,m6,m7,a6.1.sum.cash,a6.1.sum.taxable,a6.1.sum.social,a6.1.tax,a6.1.shares,m8,m9,l8) (.cons Z (.cons Z (.cons Z (.nil _)))) ⟨n1,(((((a0.t a3).t a1).t h0).t e3).t e4),ET (BE d7) (ET (BE f3) (ET (BE g8) (rfl))),(h1.mono (e3.t e4)),(h2.mono (e3.t e4))⟩
     ·refine k_op Z Z Z (ev_alloc e2 ze_97) ?_
      rintro _ w4 ⟨n2,rfl,f4,a7⟩
      refine k_next (f4.drop (.hd _)) a7 (k_all (is:=[11]) (by kernel_rfl) (by simp) (.cons ?_ .nil))
      have h5:=rReckon_c (t:=a2) (y:=b9) (gross:=0) (list:=r6.1) f4.lt (show tableTy.rel _ _ a2 _ from ⟨_,_,_,rfl,(d9.mono (a1.t a7)),(e0.mono (a1.t a7)),(e1.mono (a1.t a7))⟩) (show PtrD pYearTy _ _ _ b9 from ⟨_,_,rfl,(g6.mono a7),rfl⟩) (c3.mono (((a0.t a3).t a1).t a7))
      obtain ⟨a8,h6⟩:∃ r,rReckon a2 b9 0 r6.1=r:=⟨_,rfl⟩
      rw [h6] at h5
      refine k_op Z Z Z (ev_pure f4 pf_42 Z h5) ?_
      rintro _ w5 ⟨n3,h7,h8,⟨w6,rfl,n4⟩⟩
      obtain ⟨w7,w8,rfl,h9,i0⟩:=n4
      obtain ⟨n5,n6,rfl,x0,x1⟩:=h9.fm
      obtain ⟨n7,n8,rfl,x2,x3⟩:=i0.fm
      refine k_next (h7.drop (.hd _)) h8 (k_y 12 (by kernel_rfl) Z Z Z (fun _ _=>(y_move Z)) (k_y 13 (by kernel_rfl) Z Z Z (fun _ _=>(y_extract Z Z)) (k_y 14 (by kernel_rfl) Z Z Z (fun _ _=>(y_extract Z Z)) (k_all (is:=[16]) (by kernel_rfl) (by simp) (.cons ?_ .nil)))))
      refine k_op Z Z Z (ev_store h7 Z Z Z sz_97 Z (.here _ _ (.here _ _ (.here _ _ (.here _ _ (.here _ _ (.here _ _ (.nil _))))))) (.hd _)) ?_
      rintro _ x4 ⟨i1,e5⟩
      refine k_next (i1.drop (.hd _)) e5 (k_all (is:=[17]) (by kernel_rfl) (by simp) (.cons ?_ .nil))
      refine k_op Z Z Z (Ev.of_y2 (y_assign Z)) ?_
      rintro _ _ ⟨rfl,rfl⟩
      refine k_bar (b_done (by kernel_rfl) (x_draw ?_) (by kernel_rfl))
      have n9:=i1.front (.hd _)
      refine x_cut (a8.2,n2,a8.1.periods,n5,n6,a8.1.sum.cash,a8.1.sum.taxable,a8.1.sum.social,a8.1.tax,a8.1.shares,n7,n8,n3) (.cons Z (.cons Z (.cons Z (.nil _)))) ⟨n9,(((((a0.t a3).t a1).t a7).t h8).t e5),ET (BE d7) (ET (BE f3) (ET (BE h6) (rfl))),(h9.mono e5),(i0.mono e5)⟩
    ·refine k_op Z Z Z (ev_alloc c9 ze_97) ?_
     rintro _ x5 ⟨o0,rfl,e6,a9⟩
     refine k_next (e6.drop (.hd _)) a9 (k_all (is:=[9]) (by kernel_rfl) (by simp) (.cons ?_ .nil))
     have i2:=eYear_c (p:=dk.emp) (p_r:=dk_emp) (p_posted:=dk_emp_posted) (p_orders:=dk_emp_orders) e6.lt (Res.keepB _ c8 ((((hle3.t c2).t a0).t a3).t a9) e6 (by simp))
     obtain ⟨f5,i3⟩:∃ r,eYear dk.emp=r:=⟨_,rfl⟩
     rw [i3] at i2
     refine k_op Z Z Z (ev_pure e6 pf_65 Z i2) ?_
     rintro _ x6 ⟨x7,f6,c0,⟨x8,rfl,o1⟩⟩
     obtain ⟨x9,y0,rfl,o2,o3⟩:=o1
     obtain rfl:=o3
     refine k_next (f6.drop (.hd _)) c0 (k_all (is:=[11]) (by kernel_rfl) (by simp) (.cons ?_ .nil))
     have i4:=rReckon_c (t:=a2) (y:=f5) (gross:=0) (list:=r6.1) f6.lt (show tableTy.rel _ _ a2 _ from ⟨_,_,_,rfl,(d9.mono (a9.t c0)),(e0.mono (a9.t c0)),(e1.mono (a9.t c0))⟩) (show PtrD pYearTy _ _ _ f5 from ⟨_,_,rfl,o2,rfl⟩) (c3.mono (((a0.t a3).t a9).t c0))
     obtain ⟨b0,i5⟩:∃ r,rReckon a2 f5 0 r6.1=r:=⟨_,rfl⟩
     rw [i5] at i4
     refine k_op Z Z Z (ev_pure f6 pf_42 Z i4) ?_
     rintro _ y1 ⟨o4,i6,i7,⟨y2,rfl,o5⟩⟩
     obtain ⟨y3,y4,rfl,i8,i9⟩:=o5
     obtain ⟨o6,o7,rfl,y5,y6⟩:=i8.fm
     obtain ⟨o8,o9,rfl,y7,y8⟩:=i9.fm
     refine k_next (i6.drop (.hd _)) i7 (k_y 12 (by kernel_rfl) Z Z Z (fun _ _=>(y_move Z)) (k_y 13 (by kernel_rfl) Z Z Z (fun _ _=>(y_extract Z Z)) (k_y 14 (by kernel_rfl) Z Z Z (fun _ _=>(y_extract Z Z)) (k_all (is:=[16]) (by kernel_rfl) (by simp) (.cons ?_ .nil)))))
     refine k_op Z Z Z (ev_store i6 Z Z Z sz_97 Z (.here _ _ (.here _ _ (.here _ _ (.here _ _ (.here _ _ (.here _ _ (.nil _))))))) (.hd _)) ?_
     rintro _ y9 ⟨j0,e7⟩
     refine k_next (j0.drop (.hd _)) e7 (k_all (is:=[17]) (by kernel_rfl) (by simp) (.cons ?_ .nil))
     refine k_op Z Z Z (Ev.of_y2 (y_assign Z)) ?_
     rintro _ _ ⟨rfl,rfl⟩
     refine k_bar (b_done (by kernel_rfl) (x_draw ?_) (by kernel_rfl))
     have p0:=j0.front (.hd _)
     refine x_cut (b0.2,o0,b0.1.periods,o6,o7,b0.1.sum.cash,b0.1.sum.taxable,b0.1.sum.social,b0.1.tax,b0.1.shares,o8,o9,o4) (.cons Z (.cons Z (.cons Z (.nil _)))) ⟨p0,(((((a0.t a3).t a9).t c0).t i7).t e7),ET (BE d7) (ET (BE i3) (ET (BE i5) (rfl))),(i8.mono e7),(i9.mono e7)⟩
   ·refine k_op Z Z Z (ev_alloc c7 ze_97) ?_
    rintro _ z0 ⟨p1,rfl,e8,d0⟩
    refine k_next (e8.drop (.hd _)) d0 (k_all (is:=[4]) (by kernel_rfl) (by simp) (.cons ?_ .nil))
    have j1:=eTable_c (p:=dk.emp) (p_r:=dk_emp) (p_posted:=dk_emp_posted) (p_orders:=dk_emp_orders) e8.lt (Res.keepB _ c8 (((hle3.t c2).t a0).t d0) e8 (by simp))
    obtain ⟨f7,j2⟩:∃ r,eTable dk.emp=r:=⟨_,rfl⟩
    rw [j2] at j1
    refine k_op Z Z Z (ev_pure e8 pf_64 Z j1) ?_
    rintro _ z1 ⟨z2,e9,f0,⟨z3,rfl,p2⟩⟩
    obtain ⟨z4,z5,z6,rfl,j3,j4,j5⟩:=p2
    obtain ⟨z7,z8,rfl,z9,a00⟩:=j3.fm
    obtain ⟨a01,a02,rfl,a03,a04⟩:=j4.fm
    obtain ⟨a05,a06,rfl,a07,a08⟩:=j5.fm
    refine k_next (e9.drop (.hd _)) f0 (k_all (is:=[9]) (by kernel_rfl) (by simp) (.cons ?_ .nil))
    have j6:=eYear_c (p:=dk.emp) (p_r:=dk_emp) (p_posted:=dk_emp_posted) (p_orders:=dk_emp_orders) e9.lt (Res.keepB _ c8 ((((hle3.t c2).t a0).t d0).t f0) e9 (by simp))
    obtain ⟨f8,j7⟩:∃ r,eYear dk.emp=r:=⟨_,rfl⟩
    rw [j7] at j6
    refine k_op Z Z Z (ev_pure e9 pf_65 Z j6) ?_
    rintro _ a09 ⟨a0a,f9,c1,⟨a0b,rfl,p3⟩⟩
    obtain ⟨a0c,a0d,rfl,p4,p5⟩:=p3
    obtain rfl:=p5
    refine k_next (f9.drop (.hd _)) c1 (k_all (is:=[11]) (by kernel_rfl) (by simp) (.cons ?_ .nil))
    have j8:=rReckon_c (t:=f7) (y:=f8) (gross:=0) (list:=r6.1) f9.lt (show tableTy.rel _ _ f7 _ from ⟨_,_,_,rfl,(j3.mono c1),(j4.mono c1),(j5.mono c1)⟩) (show PtrD pYearTy _ _ _ f8 from ⟨_,_,rfl,p4,rfl⟩) (c3.mono (((a0.t d0).t f0).t c1))
    obtain ⟨b1,j9⟩:∃ r,rReckon f7 f8 0 r6.1=r:=⟨_,rfl⟩
    rw [j9] at j8
    refine k_op Z Z Z (ev_pure f9 pf_42 Z j8) ?_
    rintro _ a0e ⟨p6,k0,k1,⟨a0f,rfl,p7⟩⟩
    obtain ⟨a0g,a0h,rfl,k2,k3⟩:=p7
    obtain ⟨p8,p9,rfl,a0i,a0j⟩:=k2.fm
    obtain ⟨q0,q1,rfl,a0k,a0l⟩:=k3.fm
    refine k_next (k0.drop (.hd _)) k1 (k_y 12 (by kernel_rfl) Z Z Z (fun _ _=>(y_move Z)) (k_y 13 (by kernel_rfl) Z Z Z (fun _ _=>(y_extract Z Z)) (k_y 14 (by kernel_rfl) Z Z Z (fun _ _=>(y_extract Z Z)) (k_all (is:=[16]) (by kernel_rfl) (by simp) (.cons ?_ .nil)))))
    refine k_op Z Z Z (ev_store k0 Z Z Z sz_97 Z (.here _ _ (.here _ _ (.here _ _ (.here _ _ (.here _ _ (.here _ _ (.nil _))))))) (.hd _)) ?_
    rintro _ a0m ⟨k4,f1⟩
    refine k_next (k4.drop (.hd _)) f1 (k_all (is:=[17]) (by kernel_rfl) (by simp) (.cons ?_ .nil))
    refine k_op Z Z Z (Ev.of_y2 (y_assign Z)) ?_
    rintro _ _ ⟨rfl,rfl⟩
    refine k_bar (b_done (by kernel_rfl) (x_draw ?_) (by kernel_rfl))
    have q2:=k4.front (.hd _)
    refine x_cut (b1.2,p1,b1.1.periods,p8,p9,b1.1.sum.cash,b1.1.sum.taxable,b1.1.sum.social,b1.1.tax,b1.1.shares,q0,q1,p6) (.cons Z (.cons Z (.cons Z (.nil _)))) ⟨q2,(((((a0.t d0).t f0).t c1).t k1).t f1),ET (BE j2) (ET (BE j7) (ET (BE j9) (rfl))),(k2.mono f1),(k3.mono f1)⟩
  ·rintro ⟨c4,d2,b3,d3,d4,b5,b6,b7,c5,a5,d5,d6,b8⟩ c6 ⟨d1,a0n,k5,q3,k6⟩
   have q4:=q3.len.2.2; unfold big at q4
   have q5:=k6.len.2.2; unfold big at q5
   refine c_seq (csr ((GM Y (g_y (y_neq Z Z) Z Z (gnx ((c_cond Z (fun b2=>?_) (fun b2=>?_))))))))
   ·replace b2:=OT b2
    refine csr ((g_y (y_build ze_84 pl_84 (.nil _)) Z Z (GM Y (g_e (ev_store d1 Z Z Z sz_84 Z (.here _ _ (.here _ _ (.here _ _ (.here _ _ (.here _ _ (.nil _)))))) (.tl _ (.hd _))) Z Z ?_))))
    rintro _ a0o ⟨g0,a0p⟩
    refine GA Y (gnx ((c_ret ?_)))
    have q6:clFrom dk k=((⟨(⟨0,0,0⟩:Bases),0,([]:List Share)⟩:Due),c4):=ET (BE hr7) (ET (IN a4) (ET (BE k5) (ET (IP b2) (rfl))))
    refine x_thenR (x_ret ⟨_,_,_,rfl,rfl,blk_cells g0 m1,sh_84,⟨_,_,rfl,rfl,rfl⟩⟩ ?_)
    exact ⟨_,_,rfl,g0.fr,g0.grow,by rw [q6]; exact ⟨_,rfl,⟨_,rfl,(Sl.nil_ _ _ _ none 0)⟩⟩⟩
   ·replace b2:=OF b2
    refine c_skip (x_next (csr ((gfa fo_97_1 Z Z Z (g_y (y_loadA (cs:=[.int .i64 b5,.int .i64 b6,.int .i64 b7]) sh_47 Z ((blk_cells d1 m0).part (f:=1) (.skip _ (.take _ (.take _ (.take _ (.nil _))))))) Z Z (gfa fo_97_2 Z Z Z (gld sh_2 Z d1 m0 (i:=4) Z Z Z (gfa fo_97_3 Z Z Z (gld sh_62 Z d1 m0 (i:=5) Z Z Z (g_y (y_build ze_84 pl_84 (.cons Z Z Z Z (.here _ _ (.here _ _ (.here _ _ (.nil _)))) (ble Z) (.cons Z Z Z Z (.next _ (.next _ (.next _ (.here _ _ (.nil _))))) (ble Z) (.cons Z Z Z Z (.next _ (.next _ (.next _ (.next _ (.here _ _ (.nil _)))))) (ble Z) (.nil _))))) Z Z (g_e (ev_store d1 Z Z Z sz_84 Z (.here _ _ (.here _ _ (.here _ _ (.here _ _ (.here _ _ (.nil _)))))) (.tl _ (.hd _))) Z Z ?_)))))))))))
    rintro _ a0q ⟨g1,q7⟩
    refine GA Y (gnx ((c_ret ?_)))
    have q8:clFrom dk k=((⟨(⟨b5,b6,b7⟩:Bases),c5,a5⟩:Due),0):=ET (BE hr7) (ET (IN a4) (ET (BE k5) (ET (IN b2) (rfl))))
    refine x_ret ⟨_,_,_,rfl,rfl,blk_cells g1 m1,sh_84,⟨_,_,rfl,rfl,rfl⟩⟩ (⟨_,_,rfl,g1.fr,g1.grow,by rw [q8]; exact ⟨_,rfl,⟨_,rfl,(k6.mono q7)⟩⟩⟩)
def clCheck_l1 (dk:DeskS):Nat→Nat→Out (Unit) (Int × Int)
 | 0,_=>default
 | a3 + 1,a0=>(bnd (ePosted dk.emp) fun a4=>
 (bnd (yCount a4) fun a5=>
 (if ((a0:Int)≤a5) then (bnd (clUpto dk ((a0:Int))) fun a1=>
 (if (a1.2≠0) then (Out.ret (((a0:Int),a1.2)))
 else (bnd (clFrom dk ((a0:Int))) fun a2=>
 (if (a2.2≠0) then (Out.ret (((a0:Int),a2.2)))
 else (bnd (dueSame a1.1 a2.1) fun a6=>
 (cond a6 ((clCheck_l1 dk a3 (a0 + 1)))
 ((Out.ret (((a0:Int),0))))))))))
 else (Out.next (())))))
def clCheck (dk:DeskS):Int × Int:=
 (out (clCheck_l1 dk 54 1) fun _=>
 (0,0))
theorem clCheck_c {dk:DeskS} {dk_r:Nat} {dk_emp:Nat} {dk_emp_posted:Nat} {dk_emp_orders:Nat} {dk_fixesA:Option Addr} {dk_fixesc:Nat} {dk_firstA:Option Addr} {dk_firstc:Nat} {d:Dat} {w:World} (hd:∀ b,d b→b < w.heap.size) (h_dk:(deskR dk_r dk_emp dk_emp_posted dk_emp_orders dk_fixesA dk_fixesc dk_firstA dk_firstc dk).ok d w):Ret Tryz.prog 34 [.pointer (some ⟨dk_r,0,none⟩)] w [] d (fun u d' w'=>u=.tuple #[.int .i64 ((clCheck dk).1),.int .i64 ((clCheck dk).2)]):=by
 refine ret_enter (n:=43) Tryz.func34 Z Z (ble Z) ?_
 have hI0:=Inv.start hd
 refine csr ((GA Y (GA Y (gnx ((c_seq (csr ((GA Y (gnx ((c_cut1 (ι:=Dat) (fun b6=>[]) (fun b6 c3=>Inv [] d w b6 [] c3∧Le d w b6 c3∧clCheck_l1 dk 54 1=Out.next (())) ?_ ?_))))))))))))
 ·refine c_block (c_loop (ι:=Nat × Nat × Dat) (fun ⟨a4,a0,b1⟩=>[(0,.pointer (some ⟨dk_r,0,none⟩)),(4,.int .i64 (a0:Int))]) (fun ⟨a4,a0,b1⟩ c4=>Inv [] d w b1 [] c4∧Le d w b1 c4∧clCheck_l1 dk 54 1=clCheck_l1 dk a4 a0∧(a0 + a4=55∧1≤a4)) (fun ⟨a4,a0,b1⟩=>a4) (54,1,d) (.cons Z (.cons Z (.nil _))) ⟨hI0,Le.refl _ _,rfl,by omega⟩ ?_)
  rintro ⟨a4,a0,b1⟩ c4 ⟨b7,b2,b3,i0⟩
  obtain ⟨e2,rfl⟩:∃ z,a4=z + 1:=⟨a4 - 1,by omega⟩
  refine c_seq (csr ((GM Y (GM Y (g_y (y_nilCheck Z) Z Z (gfa fo_81_0 Z Z Z ?_))))))
  obtain ⟨i1,e3,e4⟩:=obj_kp (M:=[]) (star_ok1 h_dk) (by simp)
  have e5:(empR dk_emp dk_emp_posted dk_emp_orders dk.emp).ok d w:=(star_ok1 (star_ok2 h_dk))
  have e6:(row fixTy 156 (.slice dk_fixesA dk.fixes.length dk_fixesc) dk.fixes).ok d w:=(star_ok1 (star_ok2 (star_ok2 h_dk)))
  have e7:=row_len e6; unfold big at e7
  have e8:(row inputTy 112 (.slice dk_firstA dk.first.length dk_firstc) dk.first).ok d w:=(star_ok2 (star_ok2 (star_ok2 h_dk)))
  have e9:=row_len e8; unfold big at e9
  obtain ⟨rfl,i2,i3,i4,i5,i6,i7⟩:=e4
  refine g_y (y_load1 sh_30 Z ((e3.at_ b7).nth_ (i:=0) Z)) Z Z ?_
  have d2:=ePosted_c (p:=dk.emp) (p_r:=dk_emp) (p_posted:=dk_emp_posted) (p_orders:=dk_emp_orders) b7.lt (Res.keepB _ e5 b2 b7 (by simp))
  obtain ⟨c5,a9⟩:∃ r,ePosted dk.emp=r:=⟨_,rfl⟩
  rw [a9] at d2
  refine g_e (ev_call pf_27 Z d2) Z Z ?_
  rintro _ i8 ⟨i9,f0,f1,f2,rfl,f3⟩
  obtain ⟨b8,b9⟩:=b7.take f0 f1 f3
  have j0:=yearR_inv (b8.ok _ m0)
  have d3:=yCount_c (y:=c5) (y_r:=f2) b8.lt (b8.ok _ m0)
  obtain ⟨f4,a7⟩:∃ r,yCount c5=r:=⟨_,rfl⟩
  rw [a7] at d3
  have h8r438:f4=(c5.slips.length:Int):=by rw [← a7]; rfl
  refine g_e (ev_pure b8 pf_35 Z d3) Z Z ?_
  rintro _ j1 ⟨f5,c0,c1,rfl⟩
  refine g_y (y_leq Z Z) Z Z (gnx ((c_cond Z (fun a1=>?_) (fun a1=>?_))))
  ·replace a1:=OT a1
   refine c_skip (x_next (c_seq (c_block (csr ((GM Y (GM Y ?_)))))))
   have d4:=clUpto_c (dk:=dk) (dk_r:=dk_r) (dk_emp:=dk_emp) (dk_emp_posted:=dk_emp_posted) (dk_emp_orders:=dk_emp_orders) (dk_fixesA:=dk_fixesA) (dk_fixesc:=dk_fixesc) (dk_firstA:=dk_firstA) (dk_firstc:=dk_firstc) (k:=(a0:Int)) c0.lt (Res.keepB _ h_dk ((b2.t b9).t c1) c0 (by simp))
   obtain ⟨a2,b4⟩:∃ r,clUpto dk ((a0:Int))=r:=⟨_,rfl⟩
   rw [b4] at d4
   refine g_e (ev_pure c0 pf_36 Z d4) Z Z ?_
   rintro _ j2 ⟨j3,f6,d5,⟨j4,rfl,f7⟩⟩
   obtain ⟨j5,rfl,d6⟩:=f7
   obtain ⟨f8,f9,rfl,j6,j7⟩:=d6.fm
   refine GM Y (g_y (y_extract Z Z) Z Z (g_y (y_extract Z Z) Z Z (g_e (ev_alloc f6 ze_84) Z Z ?_)))
   rintro _ j8 ⟨j9,rfl,g0,c6⟩
   refine g_e (ev_store g0 Z Z Z sz_84 Z (.here _ _ (.here _ _ (.here _ _ (.here _ _ (.here _ _ (.nil _)))))) (.hd _)) Z Z ?_
   rintro _ k0 ⟨b5,c7⟩
   refine GA Y (gnx ((c_seq (csr ((GM Y (g_y (y_neq Z Z) Z Z (gnx ((c_cond Z (fun a5=>?_) (fun a5=>?_)))))))))))
   ·replace a5:=OT a5
    refine csr ((GM Y (GM Y (GA Y (GA Y (gnx ((c_ret ?_))))))))
    have g1:clCheck_l1 dk 54 1=(Out.ret (((a0:Int),a2.2))):=b3.trans (ET (BE a9) (ET (BE a7) (ET (IP a1) (ET (BE b4) (ET (IP a5) (rfl))))))
    have g2:clCheck dk=((a0:Int),a2.2):=ET (out_ret g1) (rfl)
    refine x_thenR (x_blockR (x_thenR (x_rndR (x_blockR (x_cutR (x_thenR (x_ret ⟨_,_,rfl,rfl,⟨_,_,rfl,rfl,rfl⟩⟩ ?_)))))))
    exact ⟨_,_,rfl,b5.fr,b5.grow,by rw [g2]; exact rfl⟩
   ·replace a5:=OF a5
    refine c_skip (x_next (csr ((GM Y (GM Y ?_)))))
    have d7:=clFrom_c (dk:=dk) (dk_r:=dk_r) (dk_emp:=dk_emp) (dk_emp_posted:=dk_emp_posted) (dk_emp_orders:=dk_emp_orders) (dk_fixesA:=dk_fixesA) (dk_fixesc:=dk_fixesc) (dk_firstA:=dk_firstA) (dk_firstc:=dk_firstc) (k:=(a0:Int)) b5.lt (Res.keepB _ h_dk (((((b2.t b9).t c1).t d5).t c6).t c7) b5 (by simp))
    obtain ⟨a3,c2⟩:∃ r,clFrom dk ((a0:Int))=r:=⟨_,rfl⟩
    rw [c2] at d7
    refine g_e (ev_pure b5 pf_37 Z d7) Z Z ?_
    rintro _ k1 ⟨k2,g3,d8,⟨k3,rfl,g4⟩⟩
    obtain ⟨k4,rfl,d9⟩:=g4
    obtain ⟨g5,g6,rfl,k5,k6⟩:=d9.fm
    refine GM Y (g_y (y_extract Z Z) Z Z (g_y (y_extract Z Z) Z Z (g_e (ev_alloc g3 ze_84) Z Z ?_)))
    rintro _ k7 ⟨k8,rfl,g7,c8⟩
    refine g_e (ev_store g7 Z Z Z sz_84 Z (.here _ _ (.here _ _ (.here _ _ (.here _ _ (.here _ _ (.nil _)))))) (.hd _)) Z Z ?_
    rintro _ k9 ⟨b0,c9⟩
    refine GA Y (gnx ((c_seq (csr ((GM Y (g_y (y_neq Z Z) Z Z (gnx ((c_cond Z (fun a6=>?_) (fun a6=>?_)))))))))))
    ·replace a6:=OT a6
     refine csr ((GM Y (GM Y (GA Y (GA Y (gnx ((c_ret ?_))))))))
     have g8:clCheck_l1 dk 54 1=(Out.ret (((a0:Int),a3.2))):=b3.trans (ET (BE a9) (ET (BE a7) (ET (IP a1) (ET (BE b4) (ET (IN a5) (ET (BE c2) (ET (IP a6) (rfl))))))))
     have g9:clCheck dk=((a0:Int),a3.2):=ET (out_ret g8) (rfl)
     refine x_thenR (x_blockR (x_thenR (x_rndR (x_blockR (x_cutR (x_thenR (x_ret ⟨_,_,rfl,rfl,⟨_,_,rfl,rfl,rfl⟩⟩ ?_)))))))
     exact ⟨_,_,rfl,b0.fr,b0.grow,by rw [g9]; exact rfl⟩
    ·replace a6:=OF a6
     refine c_skip (x_next (csr ((g_y (y_loadA (cs:=[.int .i64 a2.1.bases.cash,.int .i64 a2.1.bases.taxable,.int .i64 a2.1.bases.social,.int .i64 a2.1.tax,.slice f8 (a2.1.shares).length f9]) sh_84 Z ((blk_cells b0 m1).part (f:=0) (.take _ (.take _ (.take _ (.take _ (.take _ (.nil _)))))))) Z Z (g_y (y_loadA (cs:=[.int .i64 a3.1.bases.cash,.int .i64 a3.1.bases.taxable,.int .i64 a3.1.bases.social,.int .i64 a3.1.tax,.slice g5 (a3.1.shares).length g6]) sh_84 Z ((blk_cells b0 m0).part (f:=0) (.take _ (.take _ (.take _ (.take _ (.take _ (.nil _)))))))) Z Z ?_)))))
     have e0:=dueSame_c (a:=a2.1) (b:=a3.1) b0.lt (show dueTy.rel _ _ a2.1 _ from ⟨_,rfl,(d6.mono ((((c6.t c7).t d8).t c8).t c9))⟩) (show dueTy.rel _ _ a3.1 _ from ⟨_,rfl,(d9.mono (c8.t c9))⟩)
     obtain ⟨l0,d0⟩:∃ r,dueSame a2.1 a3.1=r:=⟨_,rfl⟩
     rw [d0] at e0
     refine g_e (ev_pure b0 pf_99 Z e0) Z Z ?_
     rintro _ l1 ⟨h0,d1,h1,rfl⟩
     refine g_y (y_not Z) Z Z (gnx ((c_cond Z (fun a8=>?_) (fun a8=>?_))))
     ·replace a8:=not_t a8
      refine csr ((GM Y (GA Y (GA Y (gnx ((c_ret ?_)))))))
      have h2:clCheck_l1 dk 54 1=(Out.ret (((a0:Int),0))):=b3.trans (ET (BE a9) (ET (BE a7) (ET (IP a1) (ET (BE b4) (ET (IN a5) (ET (BE c2) (ET (IN a6) (ET (BE d0) (ET (cond_f a8) (rfl))))))))))
      have h3:clCheck dk=((a0:Int),0):=ET (out_ret h2) (rfl)
      refine x_blockR (x_thenR (x_rndR (x_blockR (x_cutR (x_thenR (x_ret ⟨_,_,rfl,rfl,⟨_,_,rfl,rfl,rfl⟩⟩ ?_))))))
      exact ⟨_,_,rfl,d1.fr,d1.grow,by rw [h3]; exact rfl⟩
     ·replace a8:=not_f a8
      refine c_skip (x_blockN (x_next ?_))
      refine c_region (GM Y (g_y (y_add Z Z (by omega)) Z Z (GA Y (g_nil ?_))))
      have h4:=d1.drop (.hd _)
      have h5:=h4.drop (.hd _)
      have h6:=h5.drop (.hd _)
      refine x_round (e2,a0 + 1,h0) (by dsimp only; omega) (.cons Z (.cons Z (.nil _))) ⟨h6,(((((((((b2.t b9).t c1).t d5).t c6).t c7).t d8).t c8).t c9).t h1),b3.trans (ET (BE a9) (ET (BE a7) (ET (IP a1) (ET (BE b4) (ET (IN a5) (ET (BE c2) (ET (IN a6) (ET (BE d0) (ET (cond_t a8) (rfl)))))))))),by omega⟩
  ·replace a1:=OF a1
   refine c_exit ?_
   have h7:=c0.drop (.hd _)
   refine x_thenE (x_rndE (x_blockE (x_cut (f5) (.nil _) ⟨h7,((b2.t b9).t c1),b3.trans (ET (BE a9) (ET (BE a7) (ET (IN a1) (rfl))))⟩)))
 ·rintro b6 c3 ⟨e1,l2,h8⟩
  refine x_next (csr ((GA Y (GA Y (gnx ((c_ret ?_)))))))
  have h9:clCheck dk=(0,0):=ET (out_next h8) (rfl)
  refine x_ret ⟨_,_,rfl,rfl,⟨_,_,rfl,rfl,rfl⟩⟩ (⟨_,_,rfl,e1.fr,e1.grow,by rw [h9]; exact rfl⟩)
def clLate (dk:DeskS) (k:Int):Int × Int:=
 (bnd (ePosted dk.emp) fun a4=>
 (bnd (yUpto a4 k) fun a0=>
 (if (a0.2≠0) then (0,a0.2)
 else (bnd (dAs dk k) fun a1=>
 (if (a1.2≠0) then (0,a1.2)
 else (bnd (eTable dk.emp) fun a5=>
 (bnd (eYear dk.emp) fun a6=>
 (bnd (clPay a5 a6 a1.1) fun a2=>
 (ocase a2.1 ((0,a2.2))
 fun a7=>
 (bnd (ePosted a7) fun a8=>
 (bnd (yTotals a8) fun a9=>
 (bnd (mSub a9.tax a0.1.tax) fun a3=>
 (a3.1,a3.2)))))))))))))
theorem clLate_c {dk:DeskS} {dk_r:Nat} {dk_emp:Nat} {dk_emp_posted:Nat} {dk_emp_orders:Nat} {dk_fixesA:Option Addr} {dk_fixesc:Nat} {dk_firstA:Option Addr} {dk_firstc:Nat} {k:Int} {d:Dat} {w:World} (hd:∀ b,d b→b < w.heap.size) (h_dk:(deskR dk_r dk_emp dk_emp_posted dk_emp_orders dk_fixesA dk_fixesc dk_firstA dk_firstc dk).ok d w):Ret Tryz.prog 38 [.pointer (some ⟨dk_r,0,none⟩),.int .i64 k] w [] d (fun u d' w'=>u=.tuple #[.int .i64 ((clLate dk k).1),.int .i64 ((clLate dk k).2)]):=by
 refine ret_enter (n:=59) Tryz.func38 Z Z (ble Z) ?_
 have hI0:=Inv.start hd
 refine csr ((GA Y (GA Y (gnx ((csr ((GM Y (g_y (y_nilCheck Z) Z Z (gfa fo_81_0 Z Z Z ?_))))))))))
 obtain ⟨cs1,hk2,hr3⟩:=obj_kp (M:=[]) (star_ok1 h_dk) (by simp)
 have hB4:(empR dk_emp dk_emp_posted dk_emp_orders dk.emp).ok d w:=(star_ok1 (star_ok2 h_dk))
 have hB5:(row fixTy 156 (.slice dk_fixesA dk.fixes.length dk_fixesc) dk.fixes).ok d w:=(star_ok1 (star_ok2 (star_ok2 h_dk)))
 have hb6:=row_len hB5; unfold big at hb6
 have hB7:(row inputTy 112 (.slice dk_firstA dk.first.length dk_firstc) dk.first).ok d w:=(star_ok2 (star_ok2 (star_ok2 h_dk)))
 have hb8:=row_len hB7; unfold big at hb8
 obtain ⟨rfl,hi9,k0,k1,k2,k3,k4⟩:=hr3
 refine g_y (y_load1 sh_30 Z ((hk2.at_ hI0).nth_ (i:=0) Z)) Z Z ?_
 have d2:=ePosted_c (p:=dk.emp) (p_r:=dk_emp) (p_posted:=dk_emp_posted) (p_orders:=dk_emp_orders) hI0.lt hB4
 obtain ⟨d3,a4⟩:∃ r,ePosted dk.emp=r:=⟨_,rfl⟩
 rw [a4] at d2
 refine g_e (ev_call pf_27 Z d2) Z Z ?_
 rintro _ k5 ⟨k6,f9,g0,g1,rfl,g2⟩
 obtain ⟨b0,b5⟩:=hI0.take f9 g0 g2
 have k7:=yearR_inv (b0.ok _ m0)
 refine GM Y ?_
 have d4:=yUpto_c (y:=d3) (y_r:=g1) (k:=k) b0.lt (b0.ok _ m0)
 obtain ⟨b6,a5⟩:∃ r,yUpto d3 k=r:=⟨_,rfl⟩
 rw [a5] at d4
 refine g_e (ev_pure b0 pf_47 Z d4) Z Z ?_
 rintro _ k8 ⟨k9,g3,b7,⟨l0,rfl,g4⟩⟩
 obtain ⟨l1,rfl,g5⟩:=g4
 obtain ⟨l2,l3,rfl,l4,l5⟩:=g5.fm
 refine GM Y (g_y (y_extract Z Z) Z Z (g_y (y_extract Z Z) Z Z (g_e (ev_alloc g3 ze_64) Z Z ?_)))
 rintro _ l6 ⟨l7,rfl,g6,b8⟩
 refine g_e (ev_store g6 Z Z Z sz_64 Z (.here _ _ (.here _ _ (.here _ _ (.here _ _ (.here _ _ (.here _ _ (.here _ _ (.here _ _ (.here _ _ (.nil _)))))))))) (.hd _)) Z Z ?_
 rintro _ l8 ⟨a6,b9⟩
 refine GA Y (gnx ((c_seq (csr ((GM Y (g_y (y_neq Z Z) Z Z (gnx ((c_cond Z (fun a0=>?_) (fun a0=>?_)))))))))))
 ·replace a0:=OT a0
  refine csr ((GM Y (GA Y (GA Y (gnx ((c_ret ?_)))))))
  have g7:clLate dk k=(0,b6.2):=ET (BE a4) (ET (BE a5) (ET (IP a0) (rfl)))
  refine x_thenR (x_ret ⟨_,_,rfl,rfl,⟨_,_,rfl,rfl,rfl⟩⟩ ?_)
  exact ⟨_,_,rfl,a6.fr,a6.grow,by rw [g7]; exact rfl⟩
 ·replace a0:=OF a0
  refine c_skip (x_next (csr ((GM Y (GM Y ?_)))))
  have d5:=dAs_c (dk:=dk) (dk_r:=dk_r) (dk_emp:=dk_emp) (dk_emp_posted:=dk_emp_posted) (dk_emp_orders:=dk_emp_orders) (dk_fixesA:=dk_fixesA) (dk_fixesc:=dk_fixesc) (dk_firstA:=dk_firstA) (dk_firstc:=dk_firstc) (p:=k) a6.lt (Res.keepB _ h_dk (((b5.t b7).t b8).t b9) a6 (by simp))
  obtain ⟨c0,a7⟩:∃ r,dAs dk k=r:=⟨_,rfl⟩
  rw [a7] at d5
  refine g_e (ev_pure a6 pf_46 Z d5) Z Z ?_
  rintro _ g8 ⟨g9,c1,d6,⟨l9,rfl,d7⟩⟩
  obtain ⟨m6,m7,rfl,m8,m9⟩:=d7.fm
  refine GM Y (g_y (y_extract Z Z) Z Z (g_y (y_extract Z Z) Z Z (GA Y (GA Y (gnx ((c_seq (csr ((GM Y (g_y (y_neq Z Z) Z Z (gnx (?_)))))))))))))
  refine c_cond Z (fun a1=>?_) (fun a1=>?_)
  ·replace a1:=OT a1
   refine csr ((GM Y (GA Y (GA Y (gnx ((c_ret ?_)))))))
   have h0:clLate dk k=(0,c0.2):=ET (BE a4) (ET (BE a5) (ET (IN a0) (ET (BE a7) (ET (IP a1) (rfl)))))
   refine x_thenR (x_ret ⟨_,_,rfl,rfl,⟨_,_,rfl,rfl,rfl⟩⟩ ?_)
   exact ⟨_,_,rfl,c1.fr,c1.grow,by rw [h0]; exact rfl⟩
  ·replace a1:=OF a1
   refine c_skip (x_next (c_seq ?_))
   have b1:=c1.drew; have c2:=Le.drew g9 g8
   refine c_drawK 16 follows_mixed b1 (k_y 0 (by kernel_rfl) Z Z Z (fun _ _=>(y_move Z)) (k_y 1 (by kernel_rfl) Z Z Z (fun _ _=>(y_nilCheck Z)) (k_y 2 (by kernel_rfl) Z Z Z (fun _ _=>(y_fieldAddr fo_81_0 Z)) (k_y 3 (by kernel_rfl) Z Z Z (fun n0 ⟨n1,h1,n2⟩=>(y_load1 sh_30 Z ((hk2.at_ h1).nth_ (i:=0) Z))) (k_y 5 (by kernel_rfl) Z Z Z (fun _ _=>(y_move Z)) (k_y 6 (by kernel_rfl) Z Z Z (fun _ _=>(y_nilCheck Z)) (k_y 7 (by kernel_rfl) Z Z Z (fun _ _=>(y_fieldAddr fo_81_0 Z)) (k_y 8 (by kernel_rfl) Z Z Z (fun n3 ⟨n4,h2,n5⟩=>(y_load1 sh_30 Z ((hk2.at_ h2).nth_ (i:=0) Z))) (k_y 10 (by kernel_rfl) Z Z Z (fun _ _=>(y_move Z)) (k_all (is:=[4]) (by kernel_rfl) (by simp) (.cons ?_ .nil)))))))))))
   have d8:=eTable_c (p:=dk.emp) (p_r:=dk_emp) (p_posted:=dk_emp_posted) (p_orders:=dk_emp_orders) b1.lt (Res.keepB _ hB4 (((((b5.t b7).t b8).t b9).t d6).t c2) b1 (by simp))
   obtain ⟨c3,c4⟩:∃ r,eTable dk.emp=r:=⟨_,rfl⟩
   rw [c4] at d8
   refine k_op Z Z Z (ev_pure b1 pf_64 Z d8) ?_
   rintro _ n6 ⟨n7,b2,c5,⟨n8,rfl,h3⟩⟩
   obtain ⟨n9,o0,o1,rfl,d9,e0,e1⟩:=h3
   obtain ⟨o2,o3,rfl,o4,o5⟩:=d9.fm
   obtain ⟨o6,o7,rfl,o8,o9⟩:=e0.fm
   obtain ⟨p0,p1,rfl,p2,p3⟩:=e1.fm
   refine k_next b2 c5 (k_all (is:=[9]) (by kernel_rfl) (by simp) (.cons ?_ .nil))
   have e2:=eYear_c (p:=dk.emp) (p_r:=dk_emp) (p_posted:=dk_emp_posted) (p_orders:=dk_emp_orders) b2.lt (Res.keepB _ hB4 ((((((b5.t b7).t b8).t b9).t d6).t c2).t c5) b2 (by simp))
   obtain ⟨c6,c7⟩:∃ r,eYear dk.emp=r:=⟨_,rfl⟩
   rw [c7] at e2
   refine k_op Z Z Z (ev_pure b2 pf_65 Z e2) ?_
   rintro _ p4 ⟨p5,b3,a8,⟨p6,rfl,h4⟩⟩
   obtain ⟨p7,p8,rfl,h5,h6⟩:=h4
   obtain rfl:=h6
   refine k_next b3 a8 (k_all (is:=[11]) (by kernel_rfl) (by simp) (.cons ?_ .nil))
   have e3:=clPay_c (t:=c3) (y:=c6) (list:=c0.1) b3.lt (show tableTy.rel _ _ c3 _ from ⟨_,_,_,rfl,(d9.mono a8),(e0.mono a8),(e1.mono a8)⟩) (show PtrD pYearTy _ _ _ c6 from ⟨_,_,rfl,h5,rfl⟩) (d7.mono ((c2.t c5).t a8)) (by have h9:=dAs_el (dk:=dk) (p:=k) ‹∀ f ∈ DeskS.fixes dk,List.length (Fix.elements f)≤32› ‹∀ i ∈ DeskS.first dk,List.length (Input.elements i)≤32›; rw [a7] at h9; exact h9)
   obtain ⟨e4,a2⟩:∃ r,clPay c3 c6 c0.1=r:=⟨_,rfl⟩
   rw [a2] at e3
   refine k_op Z Z Z (ev_call pf_40 Z e3) ?_
   rintro _ h7 ⟨h8,e5,e6,i0,i1⟩
   rcases a3:e4.1 with _ | e7
   ·have e8:=clPay_opt.1 (by rw [a2]; exact a3)
    rw [a2] at e8
    obtain rfl:=i0 a3
    obtain ⟨c8,i2⟩:=b3.pure e5 e6
    refine k_next c8 i2 (k_y 12 (by kernel_rfl) Z Z Z (fun _ _=>(y_move Z)) (k_y 13 (by kernel_rfl) Z Z Z (fun _ _=>(y_extract Z Z)) (k_y 14 (by kernel_rfl) Z Z Z (fun _ _=>(y_extract Z Z)) (k_y 15 (by kernel_rfl) Z Z Z (fun _ _=>(y_assign Z)) (k_all (is:=[16]) (by kernel_rfl) (by simp) (.cons ?_ .nil))))))
    refine k_op Z Z Z (Ev.of_y2 (y_assign Z)) ?_
    rintro _ _ ⟨rfl,rfl⟩
    refine k_bar (b_done (by kernel_rfl) (x_draw ?_) (by kernel_rfl))
    refine x_next (c_seq (csr ((GM Y (g_y (y_neq Z Z) Z Z (gnx ((c_condT (bt (decide_eq_true e8)) (csr ((GM Y (GA Y (GA Y ?_)))))))))))))
    refine gnx ((c_ret ?_))
    have i3:clLate dk k=(0,e4.2):=ET (BE a4) (ET (BE a5) (ET (IN a0) (ET (BE a7) (ET (IN a1) (ET (BE c4) (ET (BE c7) (ET (BE a2) (ET (ocase_none a3) (rfl)))))))))
    refine x_thenR (x_ret ⟨_,_,rfl,rfl,⟨_,_,rfl,rfl,rfl⟩⟩ ?_)
    exact ⟨_,_,rfl,c8.fr,c8.grow,by rw [i3]; exact rfl⟩
   ·have e9:=clPay_opt.2 _ (by rw [a2]; exact a3)
    rw [a2] at e9
    obtain ⟨i4,i5,i6,rfl,i7⟩:=i1 _ a3
    obtain ⟨c9,i8⟩:=b3.take e5 e6 i7
    obtain ⟨p9,q0,q1,q2⟩:=empR_inv (c9.ok _ m0)
    refine k_next (c9.drop (.hd _)) i8 (k_y 12 (by kernel_rfl) Z Z Z (fun _ _=>(y_move Z)) (k_y 13 (by kernel_rfl) Z Z Z (fun _ _=>(y_extract Z Z)) (k_y 14 (by kernel_rfl) Z Z Z (fun _ _=>(y_extract Z Z)) (k_y 15 (by kernel_rfl) Z Z Z (fun _ _=>(y_assign Z)) (k_all (is:=[16]) (by kernel_rfl) (by simp) (.cons ?_ .nil))))))
    refine k_op Z Z Z (Ev.of_y2 (y_assign Z)) ?_
    rintro _ _ ⟨rfl,rfl⟩
    refine k_bar (b_done (by kernel_rfl) (x_draw ?_) (by kernel_rfl))
    refine x_next (c_seq (csr ((GM Y (g_y (y_neq Z Z) Z Z (gnx ((c_condF (bf (decide_eq_false (not_not_intro e9))) (c_skip (x_next (c_seq ?_)))))))))))
    have b4:=c9.drew; have q3:=Le.drew h8 h7
    refine c_drawK 9 follows_mixed b4 (k_y 0 (by kernel_rfl) Z Z Z (fun _ _=>(y_move Z)) (k_y 4 (by kernel_rfl) Z Z Z (fun _ _=>(y_fieldAddr fo_64_1 Z)) (k_y 5 (by kernel_rfl) Z Z Z (fun q4 ⟨q5,i9,q6⟩=>(y_load1 sh_2 Z ((blk_cells i9 m1).nth_ (i:=3) Z))) (k_all (is:=[1]) (by kernel_rfl) (by simp) (.cons ?_ .nil)))))
    have f0:=ePosted_c (p:=e7) (p_r:=i4) (p_posted:=i5) (p_orders:=i6) b4.lt (b4.ok _ m0)
    obtain ⟨f1,f2⟩:∃ r,ePosted e7=r:=⟨_,rfl⟩
    rw [f2] at f0
    refine k_op Z Z Z (ev_call pf_27 Z f0) ?_
    rintro _ q7 ⟨q8,j0,j1,j2,rfl,j3⟩
    obtain ⟨a9,j4⟩:=b4.take j0 j1 j3
    have q9:=yearR_inv (a9.ok _ m0)
    refine k_next (a9.drop (.hd _)) j4 (k_all (is:=[2]) (by kernel_rfl) (by simp) (.cons ?_ .nil))
    have f3:=yTotals_c (y:=f1) (y_r:=j2) a9.lt (a9.ok _ m0)
    obtain ⟨f4,f5⟩:∃ r,yTotals f1=r:=⟨_,rfl⟩
    rw [f5] at f3
    refine k_op Z Z Z (ev_pure a9 pf_30 Z f3) ?_
    rintro _ r0 ⟨r1,d0,j5,⟨r2,rfl,j6⟩⟩
    obtain ⟨r3,rfl,j7⟩:=j6
    obtain ⟨r4,r5,rfl,r6,r7⟩:=j7.fm
    refine k_next (d0.drop (.hd _)) j5 (k_y 3 (by kernel_rfl) Z Z Z (fun _ _=>(y_field1 (e:=2) (off:=3) (by kernel_rfl) sh_2 Z Z)) (k_all (is:=[6]) (by kernel_rfl) (by simp) (.cons ?_ .nil)))
    have f6:=mSub_c (a:=f4.tax) (b:=b6.1.tax) d0.lt
    obtain ⟨f7,f8⟩:∃ r,mSub f4.tax b6.1.tax=r:=⟨_,rfl⟩
    rw [f8] at f6
    refine k_op Z Z Z (ev_pure d0 pf_127 Z f6) ?_
    rintro _ r8 ⟨r9,d1,j8,rfl⟩
    refine k_next (d1.drop (.hd _)) j8 (k_y 7 (by kernel_rfl) Z Z Z (fun _ _=>(y_extract Z Z)) (k_y 8 (by kernel_rfl) Z Z Z (fun _ _=>(y_extract Z Z)) (k_all (is:=[9]) (by kernel_rfl) (by simp) (.cons ?_ .nil))))
    refine k_op Z Z Z (Ev.of_y2 (y_assign Z)) ?_
    rintro _ _ ⟨rfl,rfl⟩
    refine k_bar (b_all (i:=10) (by kernel_rfl) (by kernel_rfl) (k_op Z Z Z (Ev.of_y2 (y_assign Z)) ?_))
    rintro _ _ ⟨rfl,rfl⟩
    refine k_bar (b_done (by kernel_rfl) (x_draw ?_) (by kernel_rfl))
    refine x_next (c_ret ?_)
    have j9:clLate dk k=(f7.1,f7.2):=ET (BE a4) (ET (BE a5) (ET (IN a0) (ET (BE a7) (ET (IN a1) (ET (BE c4) (ET (BE c7) (ET (BE a2) (ET (ocase_some a3) (ET (BE f2) (ET (BE f5) (ET (BE f8) (rfl))))))))))))
    refine x_ret ⟨_,_,rfl,rfl,⟨_,_,rfl,rfl,rfl⟩⟩ (⟨_,_,rfl,d1.fr,d1.grow,by rw [j9]; exact rfl⟩)
def desk24_l1:List Opn→Nat→DeskS→Out (DeskS) ((Option DeskS))
 | [],a2,a0=>(Out.next a0)
 | a1 :: tl1,a2,a0=>(if (40 < (a1.elements.length:Int)) then (Out.ret none)
 else (if (a1.kind=0) then (bnd (ePay a0.emp a1.elements) fun a3=>
 (desk24_l1 tl1 (a2 + 1) ((⟨a3.1,a0.fixes,a0.first⟩:DeskS))))
 else (if (a1.kind=1) then (bnd (eCode a0.emp a1.code) fun a4=>
 (desk24_l1 tl1 (a2 + 1) ((⟨a4.1,a0.fixes,a0.first⟩:DeskS))))
 else (if (a1.kind=5) then (bnd (dRun a0) fun a5=>
 (desk24_l1 tl1 (a2 + 1) a5.1))
 else (if (a1.kind=6) then (bnd (dFix a0 ((max (-9) (min a1.n 99))) a1.elements) fun a6=>
 (desk24_l1 tl1 (a2 + 1) a6.1))
 else (desk24_l1 tl1 (a2 + 1) a0))))))
def desk24 (t:Table) (c:Code) (ops:(List Opn)):(Option DeskS):=
 (if (20 < (t.schemes.length:Int)) then none
 else (if (20 < (t.contribs.length:Int)) then none
 else (if (30 < (t.kinds.length:Int)) then none
 else (if (60 < (ops.length:Int)) then none
 else (bnd (months24) fun a0=>
 (bnd (rNew t a0 c) fun a1=>
 (ocase a1.1 ((bnd (dNewNil) fun a2=>
 (ocase a2.1 none
 fun a6=>
 default)))
 fun a3=>
 (bnd (dNew a3) fun a4=>
 (out (desk24_l1 ops 0 a4.1) fun a5=>
 (some a5))))))))))
theorem desk24_c {t:Table} {cs_t:List Value} {c:Code} {ops:(List Opn)} {v_ops:Value} {d:Dat} {w:World} (hd:∀ b,d b→b < w.heap.size) (h_t:tableTy.rel d w t cs_t) (h_ops:Sl opnTy d w v_ops ops):Ret Tryz.prog 33 [.agg cs_t.toArray,.agg #[.int .i64 c.scheme,.int .i64 c.kind,.int .i64 c.amount,.int .i64 c.flat,.bool c.alone],v_ops] w [] d (fun u d' w'=>((desk24 t c ops)=none→u=.pointer none)∧(∀ x,(desk24 t c ops)=some x→∃ (b:Nat) (g_emp:Nat) (g_emp_posted:Nat) (g_emp_orders:Nat) (g_fixesA:Option Addr) (g_fixesc:Nat) (g_firstA:Option Addr) (g_firstc:Nat),u=.pointer (some ⟨b,0,none⟩)∧Fresh (deskR b g_emp g_emp_posted g_emp_orders g_fixesA g_fixesc g_firstA g_firstc x) d' w w')):=by
 obtain ⟨v1,v2,v3,rfl,hS4,hS5,hS6⟩:=h_t
 obtain ⟨A7,c8,rfl,hn9,x7⟩:=hS4.fm
 obtain ⟨f1,f2,rfl,x8,x9⟩:=hS5.fm
 obtain ⟨f3,f4,rfl,y0,y1⟩:=hS6.fm
 obtain ⟨j8,j9,rfl,y2,y3⟩:=h_ops.fm
 refine ret_enter (n:=94) Tryz.func33 Z Z (ble Z) ?_
 have hI0:=Inv.start hd
 refine csr ((g_e (ev_box hI0 Z) Z Z ?_))
 rintro _ y4 ⟨h2,rfl,k0,d9⟩
 refine g_e (ev_box k0 Z) Z Z ?_
 rintro _ k1 ⟨h3,rfl,a9,e0⟩
 refine GA Y (gnx ((c_seq (csr ((gfa fo_26_0 Z Z Z (gld sh_22 Z a9 m1 (i:=0) Z Z Z (gln el_22 Z Z Z (g_y (y_gtr Z Z) Z Z (GM Y (g_split (t:=17) Z (fun b0=>?_) (fun b0=>?_))))))))))))
 ·replace b0:=OT b0
  refine gsk Z Z (gsk Z Z (gsk Z Z (gsk Z Z (g_y (y_pickT Z Z) Z Z (GM Y (gsk Z Z (gsk Z Z (gsk Z Z (gsk Z Z (g_y (y_pickT Z Z) Z Z (GM Y (gsk Z Z (gsk Z Z ?_)))))))))))))
  refine gsk Z Z (g_y (y_pickT Z Z) Z Z (gnx ((c_condT Z (csr ((GA Y (gnx ((c_ret ?_))))))))))
  have k2:desk24 t c ops=none:=ET (IP b0) (rfl)
  refine x_thenR (x_ret ⟨_,_,rfl,rfl,rfl⟩ ?_)
  exact ⟨_,_,rfl,a9.fr,a9.grow,by rw [k2]; exact ⟨(fun _=>rfl),(fun x h=>by cases h)⟩⟩
 ·replace b0:=OF b0
  refine gfa fo_26_1 Z Z Z (gld sh_23 Z a9 m1 (i:=1) Z Z Z (gln el_23 Z Z Z (g_y (y_gtr Z Z) Z Z (g_y (y_pickF Z Z) Z Z (GM Y (g_split (t:=23) Z (fun b1=>?_) (fun b1=>?_)))))))
  ·replace b1:=OT b1
   refine gsk Z Z (gsk Z Z (gsk Z Z (gsk Z Z (g_y (y_pickT Z Z) Z Z (GM Y (gsk Z Z (gsk Z Z (gsk Z Z (g_y (y_pickT Z Z) Z Z (gnx ((c_condT Z (c_seq ?_)))))))))))))
   refine c_region (GA Y (gnx ((c_ret ?_))))
   have k3:desk24 t c ops=none:=ET (IN b0) (ET (IP b1) (rfl))
   refine x_thenR (x_ret ⟨_,_,rfl,rfl,rfl⟩ ?_)
   exact ⟨_,_,rfl,a9.fr,a9.grow,by rw [k3]; exact ⟨(fun _=>rfl),(fun x h=>by cases h)⟩⟩
  ·replace b1:=OF b1
   refine gfa fo_26_2 Z Z Z (gld sh_24 Z a9 m1 (i:=2) Z Z Z (gln el_24 Z Z Z (g_y (y_gtr Z Z) Z Z (g_y (y_pickF Z Z) Z Z (GM Y (g_split (t:=29) Z (fun b5=>?_) (fun b5=>?_)))))))
   ·replace b5:=OT b5
    refine gsk Z Z (gsk Z Z (gsk Z Z (g_y (y_pickT Z Z) Z Z (gnx ((c_condT Z (csr ((GA Y (gnx ((c_ret ?_))))))))))))
    have k4:desk24 t c ops=none:=ET (IN b0) (ET (IN b1) (ET (IP b5) (rfl)))
    refine x_thenR (x_ret ⟨_,_,rfl,rfl,rfl⟩ ?_)
    exact ⟨_,_,rfl,a9.fr,a9.grow,by rw [k4]; exact ⟨(fun _=>rfl),(fun x h=>by cases h)⟩⟩
   ·replace b5:=OF b5
    refine GM Y (gln el_72 Z Z Z (g_y (y_gtr Z Z) Z Z (g_y (y_pickF Z Z) Z Z (gnx ((c_cond Z (fun b8=>?_) (fun b8=>?_)))))))
    ·replace b8:=OT b8
     refine csr ((GA Y (gnx ((c_ret ?_)))))
     have k5:desk24 t c ops=none:=ET (IN b0) (ET (IN b1) (ET (IN b5) (ET (IP b8) (rfl))))
     refine x_thenR (x_ret ⟨_,_,rfl,rfl,rfl⟩ ?_)
     exact ⟨_,_,rfl,a9.fr,a9.grow,by rw [k5]; exact ⟨(fun _=>rfl),(fun x h=>by cases h)⟩⟩
    ·replace b8:=OF b8
     refine c_skip (x_next (c_seq ?_))
     have f5:=a9.drew; have e1:=Le.drew d k1
     refine c_drawK 8 follows_mixed f5 (k_y 0 (by kernel_rfl) Z Z Z (fun y5 ⟨y6,k6,y7⟩=>(y_loadA (cs:=[.slice A7 (t.schemes).length c8,.slice f1 (t.contribs).length f2,.slice f3 (t.kinds).length f4,.int .i64 t.limit,.int .i64 t.round]) sh_26 Z ((blk_cells k6 m1).part (f:=0) (.take _ (.take _ (.take _ (.take _ (.take _ (.nil _))))))))) (k_y 2 (by kernel_rfl) Z Z Z (fun y8 ⟨y9,k7,z0⟩=>(y_loadA (cs:=[.int .i64 c.scheme,.int .i64 c.kind,.int .i64 c.amount,.int .i64 c.flat,.bool c.alone]) sh_28 Z ((blk_cells k7 m0).part (f:=0) (.take _ (.take _ (.take _ (.take _ (.take _ (.nil _))))))))) (k_all (is:=[1]) (by kernel_rfl) (by simp) (.cons ?_ .nil))))
     have h4:=months24_c f5.lt
     obtain ⟨f6,e2⟩:∃ r,months24=r:=⟨_,rfl⟩
     rw [e2] at h4
     refine k_op Z Z Z (ev_pure f5 pf_41 Z h4) ?_
     rintro _ z1 ⟨z2,e3,d4,⟨z3,rfl,k8⟩⟩
     obtain ⟨z4,z5,rfl,k9,l0⟩:=k8
     obtain rfl:=l0
     refine k_next e3 d4 (k_all (is:=[3]) (by kernel_rfl) (by simp) (.cons ?_ .nil))
     have h5:=rNew_c (t:=t) (y:=f6) (c:=c) e3.lt (show tableTy.rel _ _ t _ from ⟨_,_,_,rfl,(hS4.mono (((d9.t e0).t e1).t d4)),(hS5.mono (((d9.t e0).t e1).t d4)),(hS6.mono (((d9.t e0).t e1).t d4))⟩) (show PtrD pYearTy _ _ _ f6 from ⟨_,_,rfl,k9,rfl⟩)
     obtain ⟨l1,c1⟩:∃ r,rNew t f6 c=r:=⟨_,rfl⟩
     rw [c1] at h5
     refine k_op Z Z Z (ev_call pf_56 Z h5) ?_
     rintro _ z6 ⟨z7,h6,h7,l2,l3⟩
     rcases c5:l1.1 with _ | h8
     ·have l4:=rNew_opt.1 (by rw [c1]; exact c5)
      rw [c1] at l4
      obtain rfl:=l2 c5
      obtain ⟨f7,l5⟩:=e3.pure h6 h7
      refine k_next f7 l5 (k_y 4 (by kernel_rfl) Z Z Z (fun _ _=>(y_move Z)) (k_y 5 (by kernel_rfl) Z Z Z (fun _ _=>(y_extract Z Z)) (k_y 6 (by kernel_rfl) Z Z Z (fun _ _=>(y_extract Z Z)) (k_y 7 (by kernel_rfl) Z Z Z (fun _ _=>(y_assign Z)) (k_all (is:=[8]) (by kernel_rfl) (by simp) (.cons ?_ .nil))))))
      refine k_op Z Z Z (Ev.of_y2 (y_assign Z)) ?_
      rintro _ _ ⟨rfl,rfl⟩
      refine k_bar (b_done (by kernel_rfl) (x_draw ?_) (by kernel_rfl))
      refine x_next (csr ((GM Y ?_)))
      have i0:=dNewNil_c f7.lt
      obtain ⟨l6,f8⟩:∃ r,dNewNil=r:=⟨_,rfl⟩
      rw [f8] at i0
      refine g_e (ev_call pf_97 Z i0) Z Z ?_
      rintro _ z8 ⟨z9,l7,l8,l9,a00⟩
      rcases e4:l6.1 with _ | a01
      ·obtain rfl:=l9 e4
       obtain ⟨i1,a02⟩:=f7.pure l7 l8
       refine GM Y (g_y (y_extract Z Z) Z Z (g_y (y_extract Z Z) Z Z (GA Y (GA Y (gnx ((c_seq (csr ((GM Y (g_y (y_nilEqNil Tryz.underlying74 Z Z) Z Z (gnx (?_)))))))))))))
       refine c_condT Z (csr ((GA Y (gnx ((c_ret ?_))))))
       have m6:desk24 t c ops=none:=ET (IN b0) (ET (IN b1) (ET (IN b5) (ET (IN b8) (ET (BE e2) (ET (BE c1) (ET (ocase_none c5) (ET (BE f8) (ET (ocase_none e4) (rfl)))))))))
       refine x_thenR (x_ret ⟨_,_,rfl,rfl,rfl⟩ ?_)
       exact ⟨_,_,rfl,i1.fr,i1.grow,by rw [m6]; exact ⟨(fun _=>rfl),(fun x h=>by cases h)⟩⟩
      ·rw [← f8,dNewNil_none] at e4; cases e4
     ·have m7:=rNew_opt.2 _ (by rw [c1]; exact c5)
      rw [c1] at m7
      obtain ⟨m8,m9,n0,rfl,n1⟩:=l3 _ c5
      obtain ⟨d3,i2⟩:=e3.take h6 h7 n1
      obtain ⟨a03,a04,a05,a06⟩:=empR_inv (d3.ok _ m0)
      refine k_next (d3.drop (.hd _)) i2 (k_y 4 (by kernel_rfl) Z Z Z (fun _ _=>(y_move Z)) (k_y 5 (by kernel_rfl) Z Z Z (fun _ _=>(y_extract Z Z)) (k_y 6 (by kernel_rfl) Z Z Z (fun _ _=>(y_extract Z Z)) (k_y 7 (by kernel_rfl) Z Z Z (fun _ _=>(y_assign Z)) (k_all (is:=[8]) (by kernel_rfl) (by simp) (.cons ?_ .nil))))))
      refine k_op Z Z Z (Ev.of_y2 (y_assign Z)) ?_
      rintro _ _ ⟨rfl,rfl⟩
      refine k_bar (b_done (by kernel_rfl) (x_draw ?_) (by kernel_rfl))
      refine x_next (csr ((GM Y ?_)))
      have i3:=dNew_c (p:=h8) (p_r:=m8) (p_posted:=m9) (p_orders:=n0) d3.lt (d3.ok _ m0) (d3.nod _ m0)
      obtain ⟨e5,f9⟩:∃ r,dNew h8=r:=⟨_,rfl⟩
      rw [f9] at i3
      refine g_e (ev_call pf_97 Z i3) Z Z ?_
      rintro _ i4 ⟨g0,n2,n3,c2,b6,c3,n4,n5,n6,n7,n8,rfl,n9⟩
      obtain ⟨o0,o1⟩:=d3.turn (.hd _) n2 n3 n9
      refine GM Y (g_y (y_extract Z Z) Z Z (g_y (y_extract Z Z) Z Z (GA Y (GA Y (gnx ((c_seq (csr ((GM Y (g_y (y_ptrEqNil Tryz.underlying74 Z Z) Z Z (gnx (?_)))))))))))))
      refine c_condF Z (c_skip (x_next (c_seq (csr ((GM Y (gln el_72 Z Z Z (GM Y (gnx ((c_cut1 (ι:=DeskS × Nat × Option Addr × Nat × Option Addr × Nat × Dat) (fun ⟨d5,g1,g2,g3,g4,g5,e6⟩=>[(9,.pointer (some ⟨c2,0,none⟩))]) (fun ⟨d5,g1,g2,g3,g4,g5,e6⟩ g6=>Inv [] d w e6 [deskR c2 b6 c3 g1 g2 g3 g4 g5 d5,blk h3 28 [.int .i64 c.scheme,.int .i64 c.kind,.int .i64 c.amount,.int .i64 c.flat,.bool c.alone],blk h2 26 [.slice A7 (t.schemes).length c8,.slice f1 (t.contribs).length f2,.slice f3 (t.kinds).length f4,.int .i64 t.limit,.int .i64 t.round]] g6∧Le g0 i4 e6 g6∧desk24_l1 ops 0 e5.1=Out.next d5) ?_ ?_)))))))))))
      ·refine c_block (c_loop (ι:=DeskS × Nat × Option Addr × Nat × Option Addr × Nat × Nat × Dat) (fun ⟨a0,a4,a5,a6,a7,a8,a2,b9⟩=>[(9,.pointer (some ⟨c2,0,none⟩)),(48,.slice j8 (ops).length j9),(49,.int .i64 (ops.length:Int)),(50,.int .i64 (a2:Int))]) (fun ⟨a0,a4,a5,a6,a7,a8,a2,b9⟩ g7=>Inv [] d w b9 [deskR c2 b6 c3 a4 a5 a6 a7 a8 a0,blk h3 28 [.int .i64 c.scheme,.int .i64 c.kind,.int .i64 c.amount,.int .i64 c.flat,.bool c.alone],blk h2 26 [.slice A7 (t.schemes).length c8,.slice f1 (t.contribs).length f2,.slice f3 (t.kinds).length f4,.int .i64 t.limit,.int .i64 t.round]] g7∧Le g0 i4 b9 g7∧desk24_l1 ops 0 e5.1=desk24_l1 (ops.drop a2) a2 a0∧a2≤ops.length) (fun ⟨a0,a4,a5,a6,a7,a8,a2,b9⟩=>ops.length - a2) (e5.1,n4,n5,n6,n7,n8,0,g0) (.cons Z (.cons Z (.cons Z (.cons Z (.nil _))))) ⟨o0,Le.refl _ _,rfl,Nat.zero_le _⟩ ?_)
       rintro ⟨a0,a4,a5,a6,a7,a8,a2,b9⟩ g7 ⟨i5,c6,c7,a07⟩
       refine csr ((g_y (y_lss Z Z) Z Z (gnx ((c_seq (c_cond Z (fun d6=>?_) (fun d6=>?_)))))))
       ·replace d6:=OT d6
        obtain ⟨a1,c9⟩:=has (xs:=ops) (k:=a2) (by omega)
        refine c_skip (x_next (c_seq (c_block (csr (?_)))))
        obtain ⟨a08,a09,a0a,o2,o3,o4,a0b⟩:=Sl.at_ (h_ops.mono ((((((d9.t e0).t e1).t d4).t i2).t o1).t c6)) c9
        obtain ⟨a0c,rfl,g8⟩:=o3
        obtain ⟨o5,o6,rfl,a0d,a0e⟩:=g8.fm
        refine g_y (y_indexAddr (i:=a2) el_72 Z o2 Z (rfl) (by omega)) Z Z (g_y (y_loadA (cs:=[.int .i64 a1.kind,.slice o5 (a1.elements).length o6,.int .i64 a1.code.scheme,.int .i64 a1.code.kind,.int .i64 a1.code.amount,.int .i64 a1.code.flat,.bool a1.code.alone,.int .i64 a1.order.id,.int .i64 a1.order.prio,.int .i64 a1.order.amount,.int .i64 a1.order.rate,.int .i64 a1.order.total,.int .i64 a1.n]) sh_116 Z (o4.part (f:=0) (.take _ (.take _ (.take _ (.take _ (.take _ (.take _ (.take _ (.take _ (.take _ (.take _ (.take _ (.take _ (.take _ (.nil _)))))))))))))))) Z Z (g_e (ev_alloc i5 ze_116) Z Z ?_))
        rintro _ a0f ⟨a0g,rfl,o7,d0⟩
        refine g_e (ev_store o7 Z Z Z sz_116 Z (.here _ _ (.here _ _ (.here _ _ (.here _ _ (.here _ _ (.here _ _ (.here _ _ (.here _ _ (.here _ _ (.here _ _ (.here _ _ (.here _ _ (.here _ _ (.nil _)))))))))))))) (.hd _)) Z Z ?_
        rintro _ i6 ⟨a3,d1⟩
        refine gnx ((c_seq (csr ((gfa fo_116_1 Z Z Z (gld sh_43 Z a3 m0 (i:=1) Z Z Z (gln el_43 Z Z Z (g_y (y_gtr Z Z) Z Z (gnx ((c_cond Z (fun b2=>?_) (fun b2=>?_))))))))))))
        ·replace b2:=OT b2
         refine csr ((GA Y (gnx ((c_ret ?_)))))
         have o8:desk24_l1 ops 0 e5.1=(Out.ret none):=c7.trans (ET (congrArg (fun l=>desk24_l1 l a2 a0) (drop_cons c9)) (ET (IP b2) (rfl)))
         have o9:desk24 t c ops=none:=ET (IN b0) (ET (IN b1) (ET (IN b5) (ET (IN b8) (ET (BE e2) (ET (BE c1) (ET (ocase_some c5) (ET (BE f9) (ET (out_ret o8) (rfl)))))))))
         refine x_thenR (x_blockR (x_thenR (x_rndR (x_blockR (x_cutR (x_thenR (x_ret ⟨_,_,rfl,rfl,rfl⟩ ?_)))))))
         exact ⟨_,_,rfl,a3.fr,a3.grow,by rw [o9]; exact ⟨(fun _=>rfl),(fun x h=>by cases h)⟩⟩
        ·replace b2:=OF b2
         refine c_skip (x_next (csr ((gfa fo_116_0 Z Z Z (gld sh_3 Z a3 m0 (i:=0) Z Z Z (gnx ((c_block (csr ((g_y (y_eql Z Z) Z Z (GA Y (g_nil ?_)))))))))))))
         refine x_next (c_cond Z (fun b7=>?_) (fun b7=>?_))
         ·replace b7:=OT b7
          have p0:=a3.front (.tl _ (.hd _))
          obtain ⟨a0h,p1,p2⟩:=p0.openStar.openObj
          have p3:=(p1.front (.tl _ (.hd _))).openStar
          have e7:=(p3.front (.tl _ (.hd _))).openStar
          have p4:=row_len (e7.ok _ m0); unfold big at p4
          have p5:=row_len (e7.ok _ m1); unfold big at p5
          obtain ⟨a0i,a0j,a0k,a0l⟩:=empR_inv (e7.ok _ m2)
          obtain ⟨rfl,a0m,a0n,a0o,a0p,a0q,a0r⟩:=p2
          have d7:=e7.drew; have i7:=Le.drew b9 i6
          refine c_drawK 7 follows_mixed (d7.drop (.tl _ (.tl _ (.hd _)))) (k_y 0 (by kernel_rfl) Z Z Z (fun _ _=>(y_move Z)) (k_y 1 (by kernel_rfl) Z Z Z (fun _ _=>(y_nilCheck Z)) (k_y 2 (by kernel_rfl) Z Z Z (fun _ _=>(y_fieldAddr fo_81_0 Z)) (k_y 3 (by kernel_rfl) Z Z Z (fun a0s ⟨a0t,p6,a0u⟩=>(y_load1 sh_30 Z ((blk_cells p6 m2).nth_ (i:=0) Z))) (k_y 4 (by kernel_rfl) Z Z Z (fun _ _=>(y_fieldAddr fo_116_1 Z)) (k_y 5 (by kernel_rfl) Z Z Z (fun a0v ⟨a0w,p7,a0x⟩=>(y_load1 sh_43 Z ((blk_cells p7 m3).nth_ (i:=1) Z))) (k_all (is:=[6]) (by kernel_rfl) (by simp) (.cons ?_ .nil))))))))
          have i8:=ePay_c (p:=a0.emp) (p_r:=b6) (p_posted:=c3) (p_orders:=a4) (list:=a1.elements) d7.lt (d7.ok _ m2) (d7.nod _ m2) (g8.mono ((d0.t d1).t i7)) (by first | omega | (simp only [LA,LC,LN]; omega))
          obtain ⟨b3,g9⟩:∃ r,ePay a0.emp a1.elements=r:=⟨_,rfl⟩
          rw [g9] at i8
          have h8r960:=congrArg List.length (ePay_inputs (p:=a0.emp) (l:=a1.elements)); rw [g9] at h8r960
          refine k_op Z Z Z (ev_call pf_23 Z i8) ?_
          rintro _ p8 ⟨i9,p9,q0,rfl,q1⟩
          obtain ⟨e8,j0⟩:=d7.turn (.tl _ (.tl _ (.hd _))) p9 q0 q1
          obtain ⟨a0y,a0z,a10,a11⟩:=empR_inv (e8.ok _ m2)
          refine k_next (e8.drop (.tl _ (.tl _ (.hd _)))) j0 (k_done (by kernel_rfl) (x_draw ?_))
          refine x_blockN (x_blockN (x_next ?_))
          refine c_region (g_y (y_add Z Z (by omega)) Z Z (GM Y (g_nil ?_)))
          obtain ⟨a12,a13,a14,a15⟩:=empR_inv (e8.ok _ m2)
          have q2:=e8.front (.tl _ (.hd _))
          have q3:=q2.front (.tl _ (.hd _))
          have q4:=q3.closeStar
          have q5:=q4.front (.tl _ (.hd _))
          have q6:=q5.closeStar
          have q7:=q6.front (.tl _ (.hd _))
          have q8:((⟨b3.1,a0.fixes,a0.first⟩:DeskS)).first.length=((⟨b3.1,a0.fixes,a0.first⟩:DeskS)).emp.inputs.length:=by (try dsimp only); first | assumption | omega | (simp only [LA,LC,LN,LS]; omega) | (first | (intro f hf; cases hf) | (intro f hf; rcases LP.1 hf with hf | hf; exact ‹∀ f ∈ _,List.length (Fix.elements f)≤32› f hf; (rw [LM.1 hf]; dsimp only; omega)) | (intro i hi; rcases LP.1 hi with hi | hi; exact ‹∀ i ∈ _,List.length (Input.elements i)≤32› i hi; (rw [LM.1 hi]; exact ‹∀ i ∈ EmpS.inputs _,List.length (Input.elements i)≤32› _ (by assumption))) | (intro f hf; (have h9:=‹∀ f ∈ _,1≤Fix.period f∧Fix.period f≤_› f hf; (try simp only [LA,LC,LN]); omega)) | (intro f hf; rcases LP.1 hf with hf | hf; (have h9:=‹∀ f ∈ _,1≤Fix.period f∧Fix.period f≤_› f hf; (try simp only [LA,LC,LN]); omega); (rw [LM.1 hf]; dsimp only; omega)))
          have q9:((⟨b3.1,a0.fixes,a0.first⟩:DeskS)).first.length≤53:=by (try dsimp only); first | assumption | omega | (simp only [LA,LC,LN,LS]; omega) | (first | (intro f hf; cases hf) | (intro f hf; rcases LP.1 hf with hf | hf; exact ‹∀ f ∈ _,List.length (Fix.elements f)≤32› f hf; (rw [LM.1 hf]; dsimp only; omega)) | (intro i hi; rcases LP.1 hi with hi | hi; exact ‹∀ i ∈ _,List.length (Input.elements i)≤32› i hi; (rw [LM.1 hi]; exact ‹∀ i ∈ EmpS.inputs _,List.length (Input.elements i)≤32› _ (by assumption))) | (intro f hf; (have h9:=‹∀ f ∈ _,1≤Fix.period f∧Fix.period f≤_› f hf; (try simp only [LA,LC,LN]); omega)) | (intro f hf; rcases LP.1 hf with hf | hf; (have h9:=‹∀ f ∈ _,1≤Fix.period f∧Fix.period f≤_› f hf; (try simp only [LA,LC,LN]); omega); (rw [LM.1 hf]; dsimp only; omega)))
          have r0:((⟨b3.1,a0.fixes,a0.first⟩:DeskS)).fixes.length≤256:=by (try dsimp only); first | assumption | omega | (simp only [LA,LC,LN,LS]; omega) | (first | (intro f hf; cases hf) | (intro f hf; rcases LP.1 hf with hf | hf; exact ‹∀ f ∈ _,List.length (Fix.elements f)≤32› f hf; (rw [LM.1 hf]; dsimp only; omega)) | (intro i hi; rcases LP.1 hi with hi | hi; exact ‹∀ i ∈ _,List.length (Input.elements i)≤32› i hi; (rw [LM.1 hi]; exact ‹∀ i ∈ EmpS.inputs _,List.length (Input.elements i)≤32› _ (by assumption))) | (intro f hf; (have h9:=‹∀ f ∈ _,1≤Fix.period f∧Fix.period f≤_› f hf; (try simp only [LA,LC,LN]); omega)) | (intro f hf; rcases LP.1 hf with hf | hf; (have h9:=‹∀ f ∈ _,1≤Fix.period f∧Fix.period f≤_› f hf; (try simp only [LA,LC,LN]); omega); (rw [LM.1 hf]; dsimp only; omega)))
          have r1:∀ f ∈ ((⟨b3.1,a0.fixes,a0.first⟩:DeskS)).fixes,1≤f.period∧f.period≤(((⟨b3.1,a0.fixes,a0.first⟩:DeskS)).first.length:Int):=by (try dsimp only); first | assumption | omega | (simp only [LA,LC,LN,LS]; omega) | (first | (intro f hf; cases hf) | (intro f hf; rcases LP.1 hf with hf | hf; exact ‹∀ f ∈ _,List.length (Fix.elements f)≤32› f hf; (rw [LM.1 hf]; dsimp only; omega)) | (intro i hi; rcases LP.1 hi with hi | hi; exact ‹∀ i ∈ _,List.length (Input.elements i)≤32› i hi; (rw [LM.1 hi]; exact ‹∀ i ∈ EmpS.inputs _,List.length (Input.elements i)≤32› _ (by assumption))) | (intro f hf; (have h9:=‹∀ f ∈ _,1≤Fix.period f∧Fix.period f≤_› f hf; (try simp only [LA,LC,LN]); omega)) | (intro f hf; rcases LP.1 hf with hf | hf; (have h9:=‹∀ f ∈ _,1≤Fix.period f∧Fix.period f≤_› f hf; (try simp only [LA,LC,LN]); omega); (rw [LM.1 hf]; dsimp only; omega)))
          have r2:∀ f ∈ ((⟨b3.1,a0.fixes,a0.first⟩:DeskS)).fixes,f.elements.length≤32:=by (try dsimp only); first | assumption | omega | (simp only [LA,LC,LN,LS]; omega) | (first | (intro f hf; cases hf) | (intro f hf; rcases LP.1 hf with hf | hf; exact ‹∀ f ∈ _,List.length (Fix.elements f)≤32› f hf; (rw [LM.1 hf]; dsimp only; omega)) | (intro i hi; rcases LP.1 hi with hi | hi; exact ‹∀ i ∈ _,List.length (Input.elements i)≤32› i hi; (rw [LM.1 hi]; exact ‹∀ i ∈ EmpS.inputs _,List.length (Input.elements i)≤32› _ (by assumption))) | (intro f hf; (have h9:=‹∀ f ∈ _,1≤Fix.period f∧Fix.period f≤_› f hf; (try simp only [LA,LC,LN]); omega)) | (intro f hf; rcases LP.1 hf with hf | hf; (have h9:=‹∀ f ∈ _,1≤Fix.period f∧Fix.period f≤_› f hf; (try simp only [LA,LC,LN]); omega); (rw [LM.1 hf]; dsimp only; omega)))
          have r3:∀ i ∈ ((⟨b3.1,a0.fixes,a0.first⟩:DeskS)).first,i.elements.length≤32:=by (try dsimp only); first | assumption | omega | (simp only [LA,LC,LN,LS]; omega) | (first | (intro f hf; cases hf) | (intro f hf; rcases LP.1 hf with hf | hf; exact ‹∀ f ∈ _,List.length (Fix.elements f)≤32› f hf; (rw [LM.1 hf]; dsimp only; omega)) | (intro i hi; rcases LP.1 hi with hi | hi; exact ‹∀ i ∈ _,List.length (Input.elements i)≤32› i hi; (rw [LM.1 hi]; exact ‹∀ i ∈ EmpS.inputs _,List.length (Input.elements i)≤32› _ (by assumption))) | (intro f hf; (have h9:=‹∀ f ∈ _,1≤Fix.period f∧Fix.period f≤_› f hf; (try simp only [LA,LC,LN]); omega)) | (intro f hf; rcases LP.1 hf with hf | hf; (have h9:=‹∀ f ∈ _,1≤Fix.period f∧Fix.period f≤_› f hf; (try simp only [LA,LC,LN]); omega); (rw [LM.1 hf]; dsimp only; omega)))
          have r4:=q7.closeObj (ty:=(deskTy b6 a5 a6 a7 a8)) (x:=(⟨b3.1,a0.fixes,a0.first⟩:DeskS)) ⟨rfl,q8,q9,r0,r1,r2,r3⟩
          have r5:=r4.closeStar
          have r6:Inv [] d w i9 (deskR c2 b6 c3 a4 a5 a6 a7 a8 ((⟨b3.1,a0.fixes,a0.first⟩:DeskS)) :: _) p8:=r5
          have r7:=r6.drop (.tl _ (.hd _))
          refine x_round ((⟨b3.1,a0.fixes,a0.first⟩:DeskS),a4,a5,a6,a7,a8,a2 + 1,i9) (by dsimp only; omega) (.cons Z (.cons Z (.cons Z (.cons Z (.nil _))))) ⟨r7,((((c6.t d0).t d1).t i7).t j0),c7.trans (ET (congrArg (fun l=>desk24_l1 l a2 a0) (drop_cons c9)) (ET (IN b2) (ET (IP b7) (ET (BE g9) (rfl))))),by omega⟩
         ·replace b7:=OF b7
          refine csr ((g_y (y_eql Z Z) Z Z (GA Y (gnx ((c_cond Z (fun c0=>?_) (fun c0=>?_)))))))
          ·replace c0:=OT c0
           have r8:=a3.front (.tl _ (.hd _))
           obtain ⟨a16,r9,s0⟩:=r8.openStar.openObj
           have s1:=(r9.front (.tl _ (.hd _))).openStar
           have e9:=(s1.front (.tl _ (.hd _))).openStar
           have s2:=row_len (e9.ok _ m0); unfold big at s2
           have s3:=row_len (e9.ok _ m1); unfold big at s3
           obtain ⟨a17,a18,a19,a1a⟩:=empR_inv (e9.ok _ m2)
           obtain ⟨rfl,a1b,a1c,a1d,a1e,a1f,a1g⟩:=s0
           have d8:=e9.drew; have s4:=Le.drew b9 i6
           refine c_drawK 7 follows_mixed (d8.drop (.tl _ (.tl _ (.hd _)))) (k_y 0 (by kernel_rfl) Z Z Z (fun _ _=>(y_move Z)) (k_y 1 (by kernel_rfl) Z Z Z (fun _ _=>(y_nilCheck Z)) (k_y 2 (by kernel_rfl) Z Z Z (fun _ _=>(y_fieldAddr fo_81_0 Z)) (k_y 3 (by kernel_rfl) Z Z Z (fun a1h ⟨a1i,s5,a1j⟩=>(y_load1 sh_30 Z ((blk_cells s5 m2).nth_ (i:=0) Z))) (k_y 4 (by kernel_rfl) Z Z Z (fun _ _=>(y_fieldAddr fo_116_2 Z)) (k_y 5 (by kernel_rfl) Z Z Z (fun a1k ⟨a1l,s6,a1m⟩=>(y_loadA (cs:=[.int .i64 a1.code.scheme,.int .i64 a1.code.kind,.int .i64 a1.code.amount,.int .i64 a1.code.flat,.bool a1.code.alone]) sh_28 Z ((blk_cells s6 m3).part (f:=2) (.skip _ (.skip _ (.take _ (.take _ (.take _ (.take _ (.take _ (.nil _))))))))))) (k_all (is:=[6]) (by kernel_rfl) (by simp) (.cons ?_ .nil))))))))
           have j1:=eCode_c (p:=a0.emp) (p_r:=b6) (p_posted:=c3) (p_orders:=a4) (c:=a1.code) d8.lt (d8.ok _ m2) (d8.nod _ m2)
           obtain ⟨b4,h0⟩:∃ r,eCode a0.emp a1.code=r:=⟨_,rfl⟩
           rw [h0] at j1
           have h8r1083:=congrArg List.length (eCode_inputs (p:=a0.emp) (c:=a1.code)); rw [h0] at h8r1083
           refine k_op Z Z Z (ev_call pf_69 Z j1) ?_
           rintro _ s7 ⟨j2,s8,s9,rfl,t0⟩
           obtain ⟨f0,j3⟩:=d8.turn (.tl _ (.tl _ (.hd _))) s8 s9 t0
           obtain ⟨a1n,a1o,a1p,a1q⟩:=empR_inv (f0.ok _ m2)
           refine k_next (f0.drop (.tl _ (.tl _ (.hd _)))) j3 (k_done (by kernel_rfl) (x_draw ?_))
           refine x_blockN (x_blockN (x_next ?_))
           refine c_region (g_y (y_add Z Z (by omega)) Z Z (GM Y (g_nil ?_)))
           obtain ⟨a1r,a1s,a1t,a1u⟩:=empR_inv (f0.ok _ m2)
           have t1:=f0.front (.tl _ (.hd _))
           have t2:=t1.front (.tl _ (.hd _))
           have t3:=t2.closeStar
           have t4:=t3.front (.tl _ (.hd _))
           have t5:=t4.closeStar
           have t6:=t5.front (.tl _ (.hd _))
           have t7:((⟨b4.1,a0.fixes,a0.first⟩:DeskS)).first.length=((⟨b4.1,a0.fixes,a0.first⟩:DeskS)).emp.inputs.length:=by (try dsimp only); first | assumption | omega | (simp only [LA,LC,LN,LS]; omega) | (first | (intro f hf; cases hf) | (intro f hf; rcases LP.1 hf with hf | hf; exact ‹∀ f ∈ _,List.length (Fix.elements f)≤32› f hf; (rw [LM.1 hf]; dsimp only; omega)) | (intro i hi; rcases LP.1 hi with hi | hi; exact ‹∀ i ∈ _,List.length (Input.elements i)≤32› i hi; (rw [LM.1 hi]; exact ‹∀ i ∈ EmpS.inputs _,List.length (Input.elements i)≤32› _ (by assumption))) | (intro f hf; (have h9:=‹∀ f ∈ _,1≤Fix.period f∧Fix.period f≤_› f hf; (try simp only [LA,LC,LN]); omega)) | (intro f hf; rcases LP.1 hf with hf | hf; (have h9:=‹∀ f ∈ _,1≤Fix.period f∧Fix.period f≤_› f hf; (try simp only [LA,LC,LN]); omega); (rw [LM.1 hf]; dsimp only; omega)))
           have t8:((⟨b4.1,a0.fixes,a0.first⟩:DeskS)).first.length≤53:=by (try dsimp only); first | assumption | omega | (simp only [LA,LC,LN,LS]; omega) | (first | (intro f hf; cases hf) | (intro f hf; rcases LP.1 hf with hf | hf; exact ‹∀ f ∈ _,List.length (Fix.elements f)≤32› f hf; (rw [LM.1 hf]; dsimp only; omega)) | (intro i hi; rcases LP.1 hi with hi | hi; exact ‹∀ i ∈ _,List.length (Input.elements i)≤32› i hi; (rw [LM.1 hi]; exact ‹∀ i ∈ EmpS.inputs _,List.length (Input.elements i)≤32› _ (by assumption))) | (intro f hf; (have h9:=‹∀ f ∈ _,1≤Fix.period f∧Fix.period f≤_› f hf; (try simp only [LA,LC,LN]); omega)) | (intro f hf; rcases LP.1 hf with hf | hf; (have h9:=‹∀ f ∈ _,1≤Fix.period f∧Fix.period f≤_› f hf; (try simp only [LA,LC,LN]); omega); (rw [LM.1 hf]; dsimp only; omega)))
           have t9:((⟨b4.1,a0.fixes,a0.first⟩:DeskS)).fixes.length≤256:=by (try dsimp only); first | assumption | omega | (simp only [LA,LC,LN,LS]; omega) | (first | (intro f hf; cases hf) | (intro f hf; rcases LP.1 hf with hf | hf; exact ‹∀ f ∈ _,List.length (Fix.elements f)≤32› f hf; (rw [LM.1 hf]; dsimp only; omega)) | (intro i hi; rcases LP.1 hi with hi | hi; exact ‹∀ i ∈ _,List.length (Input.elements i)≤32› i hi; (rw [LM.1 hi]; exact ‹∀ i ∈ EmpS.inputs _,List.length (Input.elements i)≤32› _ (by assumption))) | (intro f hf; (have h9:=‹∀ f ∈ _,1≤Fix.period f∧Fix.period f≤_› f hf; (try simp only [LA,LC,LN]); omega)) | (intro f hf; rcases LP.1 hf with hf | hf; (have h9:=‹∀ f ∈ _,1≤Fix.period f∧Fix.period f≤_› f hf; (try simp only [LA,LC,LN]); omega); (rw [LM.1 hf]; dsimp only; omega)))
           have u0:∀ f ∈ ((⟨b4.1,a0.fixes,a0.first⟩:DeskS)).fixes,1≤f.period∧f.period≤(((⟨b4.1,a0.fixes,a0.first⟩:DeskS)).first.length:Int):=by (try dsimp only); first | assumption | omega | (simp only [LA,LC,LN,LS]; omega) | (first | (intro f hf; cases hf) | (intro f hf; rcases LP.1 hf with hf | hf; exact ‹∀ f ∈ _,List.length (Fix.elements f)≤32› f hf; (rw [LM.1 hf]; dsimp only; omega)) | (intro i hi; rcases LP.1 hi with hi | hi; exact ‹∀ i ∈ _,List.length (Input.elements i)≤32› i hi; (rw [LM.1 hi]; exact ‹∀ i ∈ EmpS.inputs _,List.length (Input.elements i)≤32› _ (by assumption))) | (intro f hf; (have h9:=‹∀ f ∈ _,1≤Fix.period f∧Fix.period f≤_› f hf; (try simp only [LA,LC,LN]); omega)) | (intro f hf; rcases LP.1 hf with hf | hf; (have h9:=‹∀ f ∈ _,1≤Fix.period f∧Fix.period f≤_› f hf; (try simp only [LA,LC,LN]); omega); (rw [LM.1 hf]; dsimp only; omega)))
           have u1:∀ f ∈ ((⟨b4.1,a0.fixes,a0.first⟩:DeskS)).fixes,f.elements.length≤32:=by (try dsimp only); first | assumption | omega | (simp only [LA,LC,LN,LS]; omega) | (first | (intro f hf; cases hf) | (intro f hf; rcases LP.1 hf with hf | hf; exact ‹∀ f ∈ _,List.length (Fix.elements f)≤32› f hf; (rw [LM.1 hf]; dsimp only; omega)) | (intro i hi; rcases LP.1 hi with hi | hi; exact ‹∀ i ∈ _,List.length (Input.elements i)≤32› i hi; (rw [LM.1 hi]; exact ‹∀ i ∈ EmpS.inputs _,List.length (Input.elements i)≤32› _ (by assumption))) | (intro f hf; (have h9:=‹∀ f ∈ _,1≤Fix.period f∧Fix.period f≤_› f hf; (try simp only [LA,LC,LN]); omega)) | (intro f hf; rcases LP.1 hf with hf | hf; (have h9:=‹∀ f ∈ _,1≤Fix.period f∧Fix.period f≤_› f hf; (try simp only [LA,LC,LN]); omega); (rw [LM.1 hf]; dsimp only; omega)))
           have u2:∀ i ∈ ((⟨b4.1,a0.fixes,a0.first⟩:DeskS)).first,i.elements.length≤32:=by (try dsimp only); first | assumption | omega | (simp only [LA,LC,LN,LS]; omega) | (first | (intro f hf; cases hf) | (intro f hf; rcases LP.1 hf with hf | hf; exact ‹∀ f ∈ _,List.length (Fix.elements f)≤32› f hf; (rw [LM.1 hf]; dsimp only; omega)) | (intro i hi; rcases LP.1 hi with hi | hi; exact ‹∀ i ∈ _,List.length (Input.elements i)≤32› i hi; (rw [LM.1 hi]; exact ‹∀ i ∈ EmpS.inputs _,List.length (Input.elements i)≤32› _ (by assumption))) | (intro f hf; (have h9:=‹∀ f ∈ _,1≤Fix.period f∧Fix.period f≤_› f hf; (try simp only [LA,LC,LN]); omega)) | (intro f hf; rcases LP.1 hf with hf | hf; (have h9:=‹∀ f ∈ _,1≤Fix.period f∧Fix.period f≤_› f hf; (try simp only [LA,LC,LN]); omega); (rw [LM.1 hf]; dsimp only; omega)))
           have u3:=t6.closeObj (ty:=(deskTy b6 a5 a6 a7 a8)) (x:=(⟨b4.1,a0.fixes,a0.first⟩:DeskS)) ⟨rfl,t7,t8,t9,u0,u1,u2⟩
           have u4:=u3.closeStar
           have u5:Inv [] d w j2 (deskR c2 b6 c3 a4 a5 a6 a7 a8 ((⟨b4.1,a0.fixes,a0.first⟩:DeskS)) :: _) s7:=u4
           have u6:=u5.drop (.tl _ (.hd _))
           refine x_round ((⟨b4.1,a0.fixes,a0.first⟩:DeskS),a4,a5,a6,a7,a8,a2 + 1,j2) (by dsimp only; omega) (.cons Z (.cons Z (.cons Z (.cons Z (.nil _))))) ⟨u6,((((c6.t d0).t d1).t s4).t j3),c7.trans (ET (congrArg (fun l=>desk24_l1 l a2 a0) (drop_cons c9)) (ET (IN b2) (ET (IN b7) (ET (IP c0) (ET (BE h0) (rfl)))))),by omega⟩
          ·replace c0:=OF c0
           refine csr ((g_y (y_eql Z Z) Z Z (GA Y (gnx ((c_cond Z (fun c4=>?_) (fun c4=>?_)))))))
           ·replace c4:=OT c4
            refine c_region (GM Y ?_)
            have j4:=dRun_c (dk:=a0) (dk_r:=c2) (dk_emp:=b6) (dk_emp_posted:=c3) (dk_emp_orders:=a4) (dk_fixesA:=a5) (dk_fixesc:=a6) (dk_firstA:=a7) (dk_firstc:=a8) a3.lt (a3.ok _ m1) (a3.nod _ m1)
            obtain ⟨u7,j5⟩:∃ r,dRun a0=r:=⟨_,rfl⟩
            rw [j5] at j4
            refine g_e (ev_call pf_53 Z j4) Z Z ?_
            rintro _ a1v ⟨u8,u9,v0,v4,v5,v6,a1w,rfl,v7,v8⟩
            obtain ⟨v9,w0⟩:=a3.turn (.tl _ (.hd _)) u9 v0 v7
            obtain ⟨a1x,a1y,rfl,w1,w2⟩:=v8
            obtain ⟨a1z,a20,rfl,a21,a22⟩:=w1.fm
            obtain ⟨a23,a24,rfl,a25,a26⟩:=w2.fm
            refine g_nil (x_blockN (x_blockN (x_next ?_)))
            refine c_region (g_y (y_add Z Z (by omega)) Z Z (GM Y (g_nil ?_)))
            have w3:=v9.drop (.hd _)
            refine x_round (u7.1,v4,a5,a6,v5,v6,a2 + 1,u8) (by dsimp only; omega) (.cons Z (.cons Z (.cons Z (.cons Z (.nil _))))) ⟨w3,(((c6.t d0).t d1).t w0),c7.trans (ET (congrArg (fun l=>desk24_l1 l a2 a0) (drop_cons c9)) (ET (IN b2) (ET (IN b7) (ET (IN c0) (ET (IP c4) (ET (BE j5) (rfl))))))),by omega⟩
           ·replace c4:=OF c4
            refine csr ((g_y (y_eql Z Z) Z Z (GA Y (gnx ((c_cond Z (fun d2=>?_) (fun d2=>?_)))))))
            ·replace d2:=OT d2
             refine c_region (GM Y (gfa fo_116_4 Z Z Z (gld sh_2 Z a3 m0 (i:=12) Z Z Z (g_y (y_min Z Z) Z Z (g_y (y_max Z Z) Z Z (gfa fo_116_1 Z Z Z (gld sh_43 Z a3 m0 (i:=1) Z Z Z ?_)))))))
             have j6:=dFix_c (dk:=a0) (dk_r:=c2) (dk_emp:=b6) (dk_emp_posted:=c3) (dk_emp_orders:=a4) (dk_fixesA:=a5) (dk_fixesc:=a6) (dk_firstA:=a7) (dk_firstc:=a8) (k:=(max (-9) (min a1.n 99))) (list:=a1.elements) a3.lt (a3.ok _ m1) (a3.nod _ m1) (g8.mono (d0.t d1))
             obtain ⟨w4,j7⟩:∃ r,dFix a0 ((max (-9) (min a1.n 99))) a1.elements=r:=⟨_,rfl⟩
             rw [j7] at j6
             refine g_e (ev_call pf_50 Z j6) Z Z ?_
             rintro _ a27 ⟨w5,w6,w7,w8,w9,rfl,x0⟩
             obtain ⟨x1,x2⟩:=a3.turn (.tl _ (.hd _)) w6 w7 x0
             refine g_nil (x_blockN (x_blockN (x_next ?_)))
             refine c_region (g_y (y_add Z Z (by omega)) Z Z (GM Y (g_nil ?_)))
             have x3:=x1.drop (.hd _)
             refine x_round (w4.1,a4,w8,w9,a7,a8,a2 + 1,w5) (by dsimp only; omega) (.cons Z (.cons Z (.cons Z (.cons Z (.nil _))))) ⟨x3,(((c6.t d0).t d1).t x2),c7.trans (ET (congrArg (fun l=>desk24_l1 l a2 a0) (drop_cons c9)) (ET (IN b2) (ET (IN b7) (ET (IN c0) (ET (IN c4) (ET (IP d2) (ET (BE j7) (rfl)))))))),by omega⟩
            ·replace d2:=OF d2
             refine c_skip (x_blockN (x_blockN (x_next ?_)))
             refine c_region (g_y (y_add Z Z (by omega)) Z Z (GM Y (g_nil ?_)))
             have x4:=a3.drop (.hd _)
             refine x_round (a0,a4,a5,a6,a7,a8,a2 + 1,b9) (by dsimp only; omega) (.cons Z (.cons Z (.cons Z (.cons Z (.nil _))))) ⟨x4,((c6.t d0).t d1),c7.trans (ET (congrArg (fun l=>desk24_l1 l a2 a0) (drop_cons c9)) (ET (IN b2) (ET (IN b7) (ET (IN c0) (ET (IN c4) (ET (IN d2) (rfl))))))),by omega⟩
       ·replace d6:=OF d6
        refine c_exit (x_thenE (x_rndE (x_blockE (x_cut (a0,a4,a5,a6,a7,a8,b9) (.cons Z (.nil _)) ⟨i5,c6,c7.trans (ET (congrArg (fun l=>desk24_l1 l a2 a0) (drop_nil (by omega))) (rfl))⟩))))
      ·rintro ⟨d5,g1,g2,g3,g4,g5,e6⟩ g6 ⟨h1,a28,x5⟩
       refine x_next (csr ((GM Y (GA Y (gnx ((c_ret ?_)))))))
       have x6:desk24 t c ops=(some d5):=ET (IN b0) (ET (IN b1) (ET (IN b5) (ET (IN b8) (ET (BE e2) (ET (BE c1) (ET (ocase_some c5) (ET (BE f9) (ET (out_next x5) (rfl)))))))))
       refine x_ret ⟨_,_,rfl,rfl,rfl⟩ (⟨_,_,rfl,h1.fr,h1.grow,by rw [x6]; exact ⟨(fun h=>by cases h),(fun x h=>by cases h; exact ⟨_,_,_,_,_,_,_,_,rfl,h1.fresh m0⟩)⟩⟩)
def compares24:Bool:=
 (bnd (plain24) fun r2=>
 (bnd (months24) fun a8=>
 (bnd (rNew r2 a8 ((⟨0,1,0,0,false⟩:Code))) fun a9=>
 (ocase a9.1 ((bnd (dNewNil) fun b0=>
 (ocase b0.1 false
 fun b8=>
 default)))
 fun b1=>
 (bnd (dNew b1) fun a2=>
 (bnd (eOf ((⟨#[115,97,108,97,114,121]⟩:ByteArray)) 1000) fun b2=>
 (bnd (ePay a2.1.emp ([b2])) fun a4=>
 (if (a4.2≠0) then false
 else (bnd (dRun ((⟨a4.1,a2.1.fixes,a2.1.first⟩:DeskS))) fun b3=>
 (bnd (eOf ((⟨#[115,97,108,97,114,121]⟩:ByteArray)) 3000) fun b4=>
 (bnd (dFix b3.1 1 ([b4])) fun b5=>
 (bnd (dRun b5.1) fun a0=>
 (bnd (clUpto a0.1 2) fun a1=>
 (bnd (clFrom a0.1 2) fun a5=>
 (bnd (clCheck a0.1) fun a6=>
 (bnd (clLate a0.1 2) fun a7=>
 (bnd (clFrom a0.1 1) fun a3=>
 (if ((wI ((wI ((wI ((wI (a1.2 + a5.2)) + a6.2)) + a7.2)) + a3.2))=0) then (if (a6.1=0) then (if (a1.1.tax=600) then (bnd (dueSame a1.1 a5.1) fun b6=>
 (cond b6 ((bnd (dueSame a1.1 a3.1) fun b7=>
 (cond b7 false
 ((if (a3.1.tax=200) then (if (a7.1=0) then (decide (a1.1.bases.cash=3000))
 else false)
 else false)))))
 false))
 else false)
 else false)
 else false))))))))))))))))))
theorem compares24_c  {d:Dat} {w:World} (hd:∀ b,d b→b < w.heap.size):Ret Tryz.prog 32 [] w [] d (fun u d' w'=>u=.bool compares24):=by
 refine ret_enter (n:=117) Tryz.func32 Z Z (ble Z) ?_
 have hI0:=Inv.start hd
 refine csr ((GA Y (gnx ((csr (?_))))))
 have hq1:=plain24_c hI0.lt
 obtain ⟨r2,hr3⟩:∃ r,plain24=r:=⟨_,rfl⟩
 rw [hr3] at hq1
 refine g_e (ev_pure hI0 pf_126 Z hq1) Z Z ?_
 rintro _ w5 ⟨d4,hI6,hle7,⟨v8,rfl,hS9⟩⟩
 obtain ⟨x5,x6,x7,rfl,h7,h8,i0⟩:=hS9
 obtain ⟨x8,x9,rfl,y0,y1⟩:=h7.fm
 obtain ⟨y2,y3,rfl,y4,y5⟩:=h8.fm
 obtain ⟨y6,y7,rfl,y8,y9⟩:=i0.fm
 have i1:=months24_c hI6.lt
 obtain ⟨g0,a9⟩:∃ r,months24=r:=⟨_,rfl⟩
 rw [a9] at i1
 refine g_e (ev_pure hI6 pf_41 Z i1) Z Z ?_
 rintro _ z0 ⟨z1,g1,g2,⟨z2,rfl,m6⟩⟩
 obtain ⟨z3,z4,rfl,m7,m8⟩:=m6
 obtain rfl:=m8
 refine g_y (y_build ze_28 pl_28 (.cons Z Z Z Z (.next _ (.here _ _ (.nil _))) (ble Z) (.nil _))) Z Z ?_
 have i2:=rNew_c (t:=r2) (y:=g0) (c:=(⟨0,1,0,0,false⟩:Code)) g1.lt (show tableTy.rel _ _ r2 _ from ⟨_,_,_,rfl,(h7.mono g2),(h8.mono g2),(i0.mono g2)⟩) (show PtrD pYearTy _ _ _ g0 from ⟨_,_,rfl,m7,rfl⟩)
 obtain ⟨m9,a3⟩:∃ r,rNew r2 g0 ((⟨0,1,0,0,false⟩:Code))=r:=⟨_,rfl⟩
 rw [a3] at i2
 refine g_e (ev_call pf_56 Z i2) Z Z ?_
 rintro _ z5 ⟨z6,i3,i4,n0,n1⟩
 rcases a4:m9.1 with _ | i5
 ·have n2:=rNew_opt.1 (by rw [a3]; exact a4)
  rw [a3] at n2
  obtain rfl:=n0 a4
  obtain ⟨i6,z7⟩:=g1.pure i3 i4
  refine GM Y (g_y (y_extract Z Z) Z Z (g_y (y_extract Z Z) Z Z (GA Y (GA Y (gnx ((csr ((GM Y ?_)))))))))
  have i7:=dNewNil_c i6.lt
  obtain ⟨n3,g3⟩:∃ r,dNewNil=r:=⟨_,rfl⟩
  rw [g3] at i7
  refine g_e (ev_call pf_97 Z i7) Z Z ?_
  rintro _ n4 ⟨n5,n6,n7,n8,z8⟩
  rcases f2:n3.1 with _ | z9
  ·obtain rfl:=n8 f2
   obtain ⟨n9,a00⟩:=i6.pure n6 n7
   refine GM Y (g_y (y_extract Z Z) Z Z (g_y (y_extract Z Z) Z Z (GA Y (GA Y (gnx ((c_seq (c_seq ?_))))))))
   have g4:=n9.drew; have a01:=Le.drew n5 n4
   refine c_drawK 12 follows_mixed g4 (k_y 0 (by kernel_rfl) Z Z Z (fun _ _=>(y_move Z)) (k_y 1 (by kernel_rfl) Z Z Z (fun _ _=>(y_nilEqNil Tryz.underlying74 Z Z)) (k_y 2 (by kernel_rfl) Z Z Z (fun _ _=>(y_move Z)) (k_skip 3 (by kernel_rfl) Z Z Z (k_skip 4 (by kernel_rfl) Z Z Z (k_skip 5 (by kernel_rfl) Z Z Z (k_skip 6 (by kernel_rfl) Z Z Z (k_skip 7 (by kernel_rfl) Z Z Z (k_skip 8 (by kernel_rfl) Z Z Z (k_skip 9 (by kernel_rfl) Z Z Z (k_skip 10 (by kernel_rfl) Z Z Z (k_y 11 (by kernel_rfl) Z Z Z (fun _ _=>(y_pickT Z Z)) (k_done (by kernel_rfl) (x_draw ?_))))))))))))))
   refine x_next (c_condT Z (csr ((GA Y (gnx ((c_ret ?_)))))))
   have o0:compares24=false:=ET (BE hr3) (ET (BE a9) (ET (BE a3) (ET (ocase_none a4) (ET (BE g3) (ET (ocase_none f2) (rfl))))))
   refine x_thenR (x_ret ⟨_,_,rfl,rfl,rfl⟩ ?_)
   exact ⟨_,_,rfl,g4.fr,g4.grow,by rw [o0]; exact rfl⟩
  ·rw [← g3,dNewNil_none] at f2; cases f2
 ·have o1:=rNew_opt.2 _ (by rw [a3]; exact a4)
  rw [a3] at o1
  obtain ⟨o2,o3,o4,rfl,o5⟩:=n1 _ a4
  obtain ⟨e4,a02⟩:=g1.take i3 i4 o5
  obtain ⟨a03,a04,a05,a06⟩:=empR_inv (e4.ok _ m0)
  refine GM Y (g_y (y_extract Z Z) Z Z (g_y (y_extract Z Z) Z Z (GA Y (GA Y (gnx ((csr ((GM Y ?_)))))))))
  have i8:=dNew_c (p:=i5) (p_r:=o2) (p_posted:=o3) (p_orders:=o4) e4.lt (e4.ok _ m0) (e4.nod _ m0)
  obtain ⟨a0,b4⟩:∃ r,dNew i5=r:=⟨_,rfl⟩
  rw [b4] at i8
  refine g_e (ev_call pf_97 Z i8) Z Z ?_
  rintro _ o6 ⟨o7,o8,o9,b5,a6,b0,f3,d6,d7,e5,e6,rfl,p0⟩
  obtain ⟨p1,a07⟩:=e4.turn (.hd _) o8 o9 p0
  refine GM Y (g_y (y_extract Z Z) Z Z (g_y (y_extract Z Z) Z Z (GA Y (GA Y (gnx ((c_seq (c_seq ?_))))))))
  obtain ⟨a08,p2,p3⟩:=p1.openStar.openObj
  have p4:=(p2.front (.tl _ (.hd _))).openStar
  have f4:=(p4.front (.tl _ (.hd _))).openStar
  have p5:=row_len (f4.ok _ m0); unfold big at p5
  have p6:=row_len (f4.ok _ m1); unfold big at p6
  obtain ⟨a09,a0a,a0b,a0c⟩:=empR_inv (f4.ok _ m2)
  obtain ⟨rfl,a0d,a0e,a0f,a0g,a0h,a0i⟩:=p3
  have g5:=f4.drew; have a0j:=Le.drew o7 o6
  refine c_drawK 12 follows_mixed (g5.drop (.tl _ (.tl _ (.hd _)))) (k_y 0 (by kernel_rfl) Z Z Z (fun _ _=>(y_move Z)) (k_y 1 (by kernel_rfl) Z Z Z (fun _ _=>(y_ptrEqNil Tryz.underlying74 Z Z)) (k_y 2 (by kernel_rfl) Z Z Z (fun _ _=>(y_move Z)) (k_y 3 (by kernel_rfl) Z Z Z (fun _ _=>(y_move Z)) (k_y 4 (by kernel_rfl) Z Z Z (fun _ _=>(y_nilCheck Z)) (k_y 5 (by kernel_rfl) Z Z Z (fun _ _=>(y_fieldAddr fo_81_0 Z)) (k_y 6 (by kernel_rfl) Z Z Z (fun a0k ⟨a0l,p7,a0m⟩=>(y_load1 sh_30 Z ((blk_cells p7 m2).nth_ (i:=0) Z))) (k_all (is:=[7]) (by kernel_rfl) (by simp) (.cons ?_ .nil)))))))))
  have i9:=eOf_c (kind:=(⟨#[115,97,108,97,114,121]⟩:ByteArray)) (amount:=1000) g5.lt
  obtain ⟨c9,b6⟩:∃ r,eOf ((⟨#[115,97,108,97,114,121]⟩:ByteArray)) 1000=r:=⟨_,rfl⟩
  rw [b6] at i9
  refine k_op Z Z Z (ev_pure g5 pf_21 Z i9) ?_
  rintro _ a0n ⟨a0o,j0,p8,rfl⟩
  refine k_next (j0.drop (.tl _ (.tl _ (.hd _)))) p8 (k_all (is:=[8]) (by kernel_rfl) (by simp) (.cons ?_ .nil))
  refine k_op Z Z Z (ev_buildSl (T:=elemTy) (xs:=[c9]) j0 el_43 ze_40 Z Z (ble Z) (ble Z) (.cons Z Z Z Z (.here _ _ (.here _ _ (.here _ _ (.nil _)))) (ble Z) (.nil _)) (.cons (x:=c9) (cs:=[.string c9.kind,.int .i64 c9.amount,.int .i64 c9.units]) Z .nil)) ?_
  rintro _ a0p ⟨a0q,e7,p9,q0,a0r,rfl⟩
  refine k_next (e7.drop (.tl _ (.tl _ (.hd _)))) p9 (k_all (is:=[9]) (by kernel_rfl) (by simp) (.cons ?_ .nil))
  have j1:=ePay_c (p:=a0.1.emp) (p_r:=a6) (p_posted:=b0) (p_orders:=f3) (list:=[c9]) e7.lt (e7.ok _ m2) (e7.nod _ m2) q0 (by first | omega | (simp only [LA,LC,LN]; omega))
  obtain ⟨a1,b1⟩:∃ r,ePay a0.1.emp ([c9])=r:=⟨_,rfl⟩
  rw [b1] at j1
  have h8r235:=congrArg List.length (ePay_inputs (p:=a0.1.emp) (l:=([c9]))); rw [b1] at h8r235
  refine k_op Z Z Z (ev_call pf_23 Z j1) ?_
  rintro _ j2 ⟨j3,q1,q2,rfl,q3⟩
  obtain ⟨d8,q4⟩:=e7.turn (.tl _ (.tl _ (.hd _))) q1 q2 q3
  obtain ⟨a0s,a0t,a0u,a0v⟩:=empR_inv (d8.ok _ m2)
  refine k_next (d8.drop (.tl _ (.tl _ (.hd _)))) q4 (k_y 10 (by kernel_rfl) Z Z Z (fun _ _=>(y_neq Z Z)) (k_y 11 (by kernel_rfl) Z Z Z (fun _ _=>(y_pickF Z Z)) (k_done (by kernel_rfl) (x_draw ?_))))
  refine x_next (c_cond Z (fun a5=>?_) (fun a5=>?_))
  ·replace a5:=OT a5
   refine csr ((GA Y (gnx ((c_ret ?_)))))
   obtain ⟨a0w,a0x,a0y,a0z⟩:=empR_inv (d8.ok _ m2)
   have q5:=d8.front (.tl _ (.hd _))
   have q6:=q5.front (.tl _ (.hd _))
   have q7:=q6.closeStar
   have q8:=q7.front (.tl _ (.hd _))
   have q9:=q8.closeStar
   have r0:=q9.front (.tl _ (.hd _))
   have r1:((⟨a1.1,a0.1.fixes,a0.1.first⟩:DeskS)).first.length=((⟨a1.1,a0.1.fixes,a0.1.first⟩:DeskS)).emp.inputs.length:=by (try dsimp only); first | assumption | omega | (simp only [LA,LC,LN,LS]; omega) | (first | (intro f hf; cases hf) | (intro f hf; rcases LP.1 hf with hf | hf; exact ‹∀ f ∈ _,List.length (Fix.elements f)≤32› f hf; (rw [LM.1 hf]; dsimp only; omega)) | (intro i hi; rcases LP.1 hi with hi | hi; exact ‹∀ i ∈ _,List.length (Input.elements i)≤32› i hi; (rw [LM.1 hi]; exact ‹∀ i ∈ EmpS.inputs _,List.length (Input.elements i)≤32› _ (by assumption))) | (intro f hf; (have h9:=‹∀ f ∈ _,1≤Fix.period f∧Fix.period f≤_› f hf; (try simp only [LA,LC,LN]); omega)) | (intro f hf; rcases LP.1 hf with hf | hf; (have h9:=‹∀ f ∈ _,1≤Fix.period f∧Fix.period f≤_› f hf; (try simp only [LA,LC,LN]); omega); (rw [LM.1 hf]; dsimp only; omega)))
   have r3:((⟨a1.1,a0.1.fixes,a0.1.first⟩:DeskS)).first.length≤53:=by (try dsimp only); first | assumption | omega | (simp only [LA,LC,LN,LS]; omega) | (first | (intro f hf; cases hf) | (intro f hf; rcases LP.1 hf with hf | hf; exact ‹∀ f ∈ _,List.length (Fix.elements f)≤32› f hf; (rw [LM.1 hf]; dsimp only; omega)) | (intro i hi; rcases LP.1 hi with hi | hi; exact ‹∀ i ∈ _,List.length (Input.elements i)≤32› i hi; (rw [LM.1 hi]; exact ‹∀ i ∈ EmpS.inputs _,List.length (Input.elements i)≤32› _ (by assumption))) | (intro f hf; (have h9:=‹∀ f ∈ _,1≤Fix.period f∧Fix.period f≤_› f hf; (try simp only [LA,LC,LN]); omega)) | (intro f hf; rcases LP.1 hf with hf | hf; (have h9:=‹∀ f ∈ _,1≤Fix.period f∧Fix.period f≤_› f hf; (try simp only [LA,LC,LN]); omega); (rw [LM.1 hf]; dsimp only; omega)))
   have r4:((⟨a1.1,a0.1.fixes,a0.1.first⟩:DeskS)).fixes.length≤256:=by (try dsimp only); first | assumption | omega | (simp only [LA,LC,LN,LS]; omega) | (first | (intro f hf; cases hf) | (intro f hf; rcases LP.1 hf with hf | hf; exact ‹∀ f ∈ _,List.length (Fix.elements f)≤32› f hf; (rw [LM.1 hf]; dsimp only; omega)) | (intro i hi; rcases LP.1 hi with hi | hi; exact ‹∀ i ∈ _,List.length (Input.elements i)≤32› i hi; (rw [LM.1 hi]; exact ‹∀ i ∈ EmpS.inputs _,List.length (Input.elements i)≤32› _ (by assumption))) | (intro f hf; (have h9:=‹∀ f ∈ _,1≤Fix.period f∧Fix.period f≤_› f hf; (try simp only [LA,LC,LN]); omega)) | (intro f hf; rcases LP.1 hf with hf | hf; (have h9:=‹∀ f ∈ _,1≤Fix.period f∧Fix.period f≤_› f hf; (try simp only [LA,LC,LN]); omega); (rw [LM.1 hf]; dsimp only; omega)))
   have r5:∀ f ∈ ((⟨a1.1,a0.1.fixes,a0.1.first⟩:DeskS)).fixes,1≤f.period∧f.period≤(((⟨a1.1,a0.1.fixes,a0.1.first⟩:DeskS)).first.length:Int):=by (try dsimp only); first | assumption | omega | (simp only [LA,LC,LN,LS]; omega) | (first | (intro f hf; cases hf) | (intro f hf; rcases LP.1 hf with hf | hf; exact ‹∀ f ∈ _,List.length (Fix.elements f)≤32› f hf; (rw [LM.1 hf]; dsimp only; omega)) | (intro i hi; rcases LP.1 hi with hi | hi; exact ‹∀ i ∈ _,List.length (Input.elements i)≤32› i hi; (rw [LM.1 hi]; exact ‹∀ i ∈ EmpS.inputs _,List.length (Input.elements i)≤32› _ (by assumption))) | (intro f hf; (have h9:=‹∀ f ∈ _,1≤Fix.period f∧Fix.period f≤_› f hf; (try simp only [LA,LC,LN]); omega)) | (intro f hf; rcases LP.1 hf with hf | hf; (have h9:=‹∀ f ∈ _,1≤Fix.period f∧Fix.period f≤_› f hf; (try simp only [LA,LC,LN]); omega); (rw [LM.1 hf]; dsimp only; omega)))
   have r6:∀ f ∈ ((⟨a1.1,a0.1.fixes,a0.1.first⟩:DeskS)).fixes,f.elements.length≤32:=by (try dsimp only); first | assumption | omega | (simp only [LA,LC,LN,LS]; omega) | (first | (intro f hf; cases hf) | (intro f hf; rcases LP.1 hf with hf | hf; exact ‹∀ f ∈ _,List.length (Fix.elements f)≤32› f hf; (rw [LM.1 hf]; dsimp only; omega)) | (intro i hi; rcases LP.1 hi with hi | hi; exact ‹∀ i ∈ _,List.length (Input.elements i)≤32› i hi; (rw [LM.1 hi]; exact ‹∀ i ∈ EmpS.inputs _,List.length (Input.elements i)≤32› _ (by assumption))) | (intro f hf; (have h9:=‹∀ f ∈ _,1≤Fix.period f∧Fix.period f≤_› f hf; (try simp only [LA,LC,LN]); omega)) | (intro f hf; rcases LP.1 hf with hf | hf; (have h9:=‹∀ f ∈ _,1≤Fix.period f∧Fix.period f≤_› f hf; (try simp only [LA,LC,LN]); omega); (rw [LM.1 hf]; dsimp only; omega)))
   have r7:∀ i ∈ ((⟨a1.1,a0.1.fixes,a0.1.first⟩:DeskS)).first,i.elements.length≤32:=by (try dsimp only); first | assumption | omega | (simp only [LA,LC,LN,LS]; omega) | (first | (intro f hf; cases hf) | (intro f hf; rcases LP.1 hf with hf | hf; exact ‹∀ f ∈ _,List.length (Fix.elements f)≤32› f hf; (rw [LM.1 hf]; dsimp only; omega)) | (intro i hi; rcases LP.1 hi with hi | hi; exact ‹∀ i ∈ _,List.length (Input.elements i)≤32› i hi; (rw [LM.1 hi]; exact ‹∀ i ∈ EmpS.inputs _,List.length (Input.elements i)≤32› _ (by assumption))) | (intro f hf; (have h9:=‹∀ f ∈ _,1≤Fix.period f∧Fix.period f≤_› f hf; (try simp only [LA,LC,LN]); omega)) | (intro f hf; rcases LP.1 hf with hf | hf; (have h9:=‹∀ f ∈ _,1≤Fix.period f∧Fix.period f≤_› f hf; (try simp only [LA,LC,LN]); omega); (rw [LM.1 hf]; dsimp only; omega)))
   have r8:=r0.closeObj (ty:=(deskTy a6 d6 d7 e5 e6)) (x:=(⟨a1.1,a0.1.fixes,a0.1.first⟩:DeskS)) ⟨rfl,r1,r3,r4,r5,r6,r7⟩
   have r9:=r8.closeStar
   have j4:Inv [] d w j3 (deskR b5 a6 b0 f3 d6 d7 e5 e6 ((⟨a1.1,a0.1.fixes,a0.1.first⟩:DeskS)) :: _) j2:=r9
   have s0:compares24=false:=ET (BE hr3) (ET (BE a9) (ET (BE a3) (ET (ocase_some a4) (ET (BE b4) (ET (BE b6) (ET (BE b1) (ET (IP a5) (rfl))))))))
   refine x_thenR (x_ret ⟨_,_,rfl,rfl,rfl⟩ ?_)
   exact ⟨_,_,rfl,j4.fr,j4.grow,by rw [s0]; exact rfl⟩
  ·replace a5:=OF a5
   refine c_skip (x_next (csr ((GM Y ?_))))
   obtain ⟨a10,a11,a12,a13⟩:=empR_inv (d8.ok _ m2)
   have s1:=d8.front (.tl _ (.hd _))
   have s2:=s1.front (.tl _ (.hd _))
   have s3:=s2.closeStar
   have s4:=s3.front (.tl _ (.hd _))
   have s5:=s4.closeStar
   have s6:=s5.front (.tl _ (.hd _))
   have s7:((⟨a1.1,a0.1.fixes,a0.1.first⟩:DeskS)).first.length=((⟨a1.1,a0.1.fixes,a0.1.first⟩:DeskS)).emp.inputs.length:=by (try dsimp only); first | assumption | omega | (simp only [LA,LC,LN,LS]; omega) | (first | (intro f hf; cases hf) | (intro f hf; rcases LP.1 hf with hf | hf; exact ‹∀ f ∈ _,List.length (Fix.elements f)≤32› f hf; (rw [LM.1 hf]; dsimp only; omega)) | (intro i hi; rcases LP.1 hi with hi | hi; exact ‹∀ i ∈ _,List.length (Input.elements i)≤32› i hi; (rw [LM.1 hi]; exact ‹∀ i ∈ EmpS.inputs _,List.length (Input.elements i)≤32› _ (by assumption))) | (intro f hf; (have h9:=‹∀ f ∈ _,1≤Fix.period f∧Fix.period f≤_› f hf; (try simp only [LA,LC,LN]); omega)) | (intro f hf; rcases LP.1 hf with hf | hf; (have h9:=‹∀ f ∈ _,1≤Fix.period f∧Fix.period f≤_› f hf; (try simp only [LA,LC,LN]); omega); (rw [LM.1 hf]; dsimp only; omega)))
   have s8:((⟨a1.1,a0.1.fixes,a0.1.first⟩:DeskS)).first.length≤53:=by (try dsimp only); first | assumption | omega | (simp only [LA,LC,LN,LS]; omega) | (first | (intro f hf; cases hf) | (intro f hf; rcases LP.1 hf with hf | hf; exact ‹∀ f ∈ _,List.length (Fix.elements f)≤32› f hf; (rw [LM.1 hf]; dsimp only; omega)) | (intro i hi; rcases LP.1 hi with hi | hi; exact ‹∀ i ∈ _,List.length (Input.elements i)≤32› i hi; (rw [LM.1 hi]; exact ‹∀ i ∈ EmpS.inputs _,List.length (Input.elements i)≤32› _ (by assumption))) | (intro f hf; (have h9:=‹∀ f ∈ _,1≤Fix.period f∧Fix.period f≤_› f hf; (try simp only [LA,LC,LN]); omega)) | (intro f hf; rcases LP.1 hf with hf | hf; (have h9:=‹∀ f ∈ _,1≤Fix.period f∧Fix.period f≤_› f hf; (try simp only [LA,LC,LN]); omega); (rw [LM.1 hf]; dsimp only; omega)))
   have s9:((⟨a1.1,a0.1.fixes,a0.1.first⟩:DeskS)).fixes.length≤256:=by (try dsimp only); first | assumption | omega | (simp only [LA,LC,LN,LS]; omega) | (first | (intro f hf; cases hf) | (intro f hf; rcases LP.1 hf with hf | hf; exact ‹∀ f ∈ _,List.length (Fix.elements f)≤32› f hf; (rw [LM.1 hf]; dsimp only; omega)) | (intro i hi; rcases LP.1 hi with hi | hi; exact ‹∀ i ∈ _,List.length (Input.elements i)≤32› i hi; (rw [LM.1 hi]; exact ‹∀ i ∈ EmpS.inputs _,List.length (Input.elements i)≤32› _ (by assumption))) | (intro f hf; (have h9:=‹∀ f ∈ _,1≤Fix.period f∧Fix.period f≤_› f hf; (try simp only [LA,LC,LN]); omega)) | (intro f hf; rcases LP.1 hf with hf | hf; (have h9:=‹∀ f ∈ _,1≤Fix.period f∧Fix.period f≤_› f hf; (try simp only [LA,LC,LN]); omega); (rw [LM.1 hf]; dsimp only; omega)))
   have t0:∀ f ∈ ((⟨a1.1,a0.1.fixes,a0.1.first⟩:DeskS)).fixes,1≤f.period∧f.period≤(((⟨a1.1,a0.1.fixes,a0.1.first⟩:DeskS)).first.length:Int):=by (try dsimp only); first | assumption | omega | (simp only [LA,LC,LN,LS]; omega) | (first | (intro f hf; cases hf) | (intro f hf; rcases LP.1 hf with hf | hf; exact ‹∀ f ∈ _,List.length (Fix.elements f)≤32› f hf; (rw [LM.1 hf]; dsimp only; omega)) | (intro i hi; rcases LP.1 hi with hi | hi; exact ‹∀ i ∈ _,List.length (Input.elements i)≤32› i hi; (rw [LM.1 hi]; exact ‹∀ i ∈ EmpS.inputs _,List.length (Input.elements i)≤32› _ (by assumption))) | (intro f hf; (have h9:=‹∀ f ∈ _,1≤Fix.period f∧Fix.period f≤_› f hf; (try simp only [LA,LC,LN]); omega)) | (intro f hf; rcases LP.1 hf with hf | hf; (have h9:=‹∀ f ∈ _,1≤Fix.period f∧Fix.period f≤_› f hf; (try simp only [LA,LC,LN]); omega); (rw [LM.1 hf]; dsimp only; omega)))
   have t1:∀ f ∈ ((⟨a1.1,a0.1.fixes,a0.1.first⟩:DeskS)).fixes,f.elements.length≤32:=by (try dsimp only); first | assumption | omega | (simp only [LA,LC,LN,LS]; omega) | (first | (intro f hf; cases hf) | (intro f hf; rcases LP.1 hf with hf | hf; exact ‹∀ f ∈ _,List.length (Fix.elements f)≤32› f hf; (rw [LM.1 hf]; dsimp only; omega)) | (intro i hi; rcases LP.1 hi with hi | hi; exact ‹∀ i ∈ _,List.length (Input.elements i)≤32› i hi; (rw [LM.1 hi]; exact ‹∀ i ∈ EmpS.inputs _,List.length (Input.elements i)≤32› _ (by assumption))) | (intro f hf; (have h9:=‹∀ f ∈ _,1≤Fix.period f∧Fix.period f≤_› f hf; (try simp only [LA,LC,LN]); omega)) | (intro f hf; rcases LP.1 hf with hf | hf; (have h9:=‹∀ f ∈ _,1≤Fix.period f∧Fix.period f≤_› f hf; (try simp only [LA,LC,LN]); omega); (rw [LM.1 hf]; dsimp only; omega)))
   have t2:∀ i ∈ ((⟨a1.1,a0.1.fixes,a0.1.first⟩:DeskS)).first,i.elements.length≤32:=by (try dsimp only); first | assumption | omega | (simp only [LA,LC,LN,LS]; omega) | (first | (intro f hf; cases hf) | (intro f hf; rcases LP.1 hf with hf | hf; exact ‹∀ f ∈ _,List.length (Fix.elements f)≤32› f hf; (rw [LM.1 hf]; dsimp only; omega)) | (intro i hi; rcases LP.1 hi with hi | hi; exact ‹∀ i ∈ _,List.length (Input.elements i)≤32› i hi; (rw [LM.1 hi]; exact ‹∀ i ∈ EmpS.inputs _,List.length (Input.elements i)≤32› _ (by assumption))) | (intro f hf; (have h9:=‹∀ f ∈ _,1≤Fix.period f∧Fix.period f≤_› f hf; (try simp only [LA,LC,LN]); omega)) | (intro f hf; rcases LP.1 hf with hf | hf; (have h9:=‹∀ f ∈ _,1≤Fix.period f∧Fix.period f≤_› f hf; (try simp only [LA,LC,LN]); omega); (rw [LM.1 hf]; dsimp only; omega)))
   have t3:=s6.closeObj (ty:=(deskTy a6 d6 d7 e5 e6)) (x:=(⟨a1.1,a0.1.fixes,a0.1.first⟩:DeskS)) ⟨rfl,s7,s8,s9,t0,t1,t2⟩
   have t4:=t3.closeStar
   have f5:Inv [] d w j3 (deskR b5 a6 b0 f3 d6 d7 e5 e6 ((⟨a1.1,a0.1.fixes,a0.1.first⟩:DeskS)) :: _) j2:=t4
   have j5:=dRun_c (dk:=(⟨a1.1,a0.1.fixes,a0.1.first⟩:DeskS)) (dk_r:=b5) (dk_emp:=a6) (dk_emp_posted:=b0) (dk_emp_orders:=f3) (dk_fixesA:=d6) (dk_fixesc:=d7) (dk_firstA:=e5) (dk_firstc:=e6) f5.lt (f5.ok _ m0) (f5.nod _ m0)
   obtain ⟨j6,b9⟩:∃ r,dRun ((⟨a1.1,a0.1.fixes,a0.1.first⟩:DeskS))=r:=⟨_,rfl⟩
   rw [b9] at j5
   refine g_e (ev_call pf_53 Z j5) Z Z ?_
   rintro _ a14 ⟨a15,t5,t6,j7,j8,j9,a16,rfl,t7,t8⟩
   obtain ⟨k0,a17⟩:=f5.turn (.hd _) t5 t6 t7
   obtain ⟨a18,a19,rfl,t9,u0⟩:=t8
   obtain ⟨a1a,a1b,rfl,a1c,a1d⟩:=t9.fm
   obtain ⟨a1e,a1f,rfl,a1g,a1h⟩:=u0.fm
   refine gnx ((csr ((GM Y ?_))))
   have k1:=eOf_c (kind:=(⟨#[115,97,108,97,114,121]⟩:ByteArray)) (amount:=3000) k0.lt
   obtain ⟨d3,c0⟩:∃ r,eOf ((⟨#[115,97,108,97,114,121]⟩:ByteArray)) 3000=r:=⟨_,rfl⟩
   rw [c0] at k1
   refine g_e (ev_pure k0 pf_21 Z k1) Z Z ?_
   rintro _ a1i ⟨a1j,u1,a1k,rfl⟩
   refine g_e (ev_buildSl (T:=elemTy) (xs:=[d3]) u1 el_43 ze_40 Z Z (ble Z) (ble Z) (.cons Z Z Z Z (.here _ _ (.here _ _ (.here _ _ (.nil _)))) (ble Z) (.nil _)) (.cons (x:=d3) (cs:=[.string d3.kind,.int .i64 d3.amount,.int .i64 d3.units]) Z .nil)) Z Z ?_
   rintro _ a1l ⟨a1m,f6,a1n,u2,a1o,rfl⟩
   have k2:=dFix_c (dk:=j6.1) (dk_r:=b5) (dk_emp:=a6) (dk_emp_posted:=b0) (dk_emp_orders:=j7) (dk_fixesA:=d6) (dk_fixesc:=d7) (dk_firstA:=j8) (dk_firstc:=j9) (k:=1) (list:=[d3]) f6.lt (f6.ok _ m0) (f6.nod _ m0) u2
   obtain ⟨k3,c1⟩:∃ r,dFix j6.1 1 ([d3])=r:=⟨_,rfl⟩
   rw [c1] at k2
   refine g_e (ev_call pf_50 Z k2) Z Z ?_
   rintro _ a1p ⟨a1q,u3,u4,d9,e0,rfl,u5⟩
   obtain ⟨f7,a1r⟩:=f6.turn (.hd _) u3 u4 u5
   refine gnx ((csr ((GM Y ?_))))
   have k4:=dRun_c (dk:=k3.1) (dk_r:=b5) (dk_emp:=a6) (dk_emp_posted:=b0) (dk_emp_orders:=j7) (dk_fixesA:=d9) (dk_fixesc:=e0) (dk_firstA:=j8) (dk_firstc:=j9) f7.lt (f7.ok _ m0) (f7.nod _ m0)
   obtain ⟨b7,c2⟩:∃ r,dRun k3.1=r:=⟨_,rfl⟩
   rw [c2] at k4
   refine g_e (ev_call pf_53 Z k4) Z Z ?_
   rintro _ a1s ⟨a1t,u6,u7,e8,e9,f0,a1u,rfl,u8,u9⟩
   obtain ⟨g6,a1v⟩:=f7.turn (.hd _) u6 u7 u8
   obtain ⟨a1w,a1x,rfl,v0,v1⟩:=u9
   obtain ⟨a1y,a1z,rfl,a20,a21⟩:=v0.fm
   obtain ⟨a22,a23,rfl,a24,a25⟩:=v1.fm
   refine gnx ((csr ((GM Y ?_))))
   have k5:=clUpto_c (dk:=b7.1) (dk_r:=b5) (dk_emp:=a6) (dk_emp_posted:=b0) (dk_emp_orders:=e8) (dk_fixesA:=d9) (dk_fixesc:=e0) (dk_firstA:=e9) (dk_firstc:=f0) (k:=2) g6.lt (g6.ok _ m0)
   obtain ⟨a2,c3⟩:∃ r,clUpto b7.1 2=r:=⟨_,rfl⟩
   rw [c3] at k5
   refine g_e (ev_pure g6 pf_36 Z k5) Z Z ?_
   rintro _ a26 ⟨a27,v2,a28,⟨a29,rfl,v3⟩⟩
   obtain ⟨a2a,rfl,g7⟩:=v3
   obtain ⟨k6,k7,rfl,a2b,a2c⟩:=g7.fm
   refine GM Y (g_y (y_extract Z Z) Z Z (g_y (y_extract Z Z) Z Z (g_e (ev_alloc v2 ze_84) Z Z ?_)))
   rintro _ a2d ⟨a2e,rfl,v4,k8⟩
   refine g_e (ev_store v4 Z Z Z sz_84 Z (.here _ _ (.here _ _ (.here _ _ (.here _ _ (.here _ _ (.nil _)))))) (.hd _)) Z Z ?_
   rintro _ a2f ⟨g8,k9⟩
   refine GA Y (gnx ((csr ((GM Y ?_)))))
   have l0:=clFrom_c (dk:=b7.1) (dk_r:=b5) (dk_emp:=a6) (dk_emp_posted:=b0) (dk_emp_orders:=e8) (dk_fixesA:=d9) (dk_fixesc:=e0) (dk_firstA:=e9) (dk_firstc:=f0) (k:=2) g8.lt (g8.ok _ m1)
   obtain ⟨d0,c4⟩:∃ r,clFrom b7.1 2=r:=⟨_,rfl⟩
   rw [c4] at l0
   refine g_e (ev_pure g8 pf_37 Z l0) Z Z ?_
   rintro _ a2g ⟨a2h,v5,l1,⟨a2i,rfl,v6⟩⟩
   obtain ⟨a2j,rfl,l2⟩:=v6
   obtain ⟨v7,v9,rfl,a2k,a2l⟩:=l2.fm
   refine GM Y (g_y (y_extract Z Z) Z Z (g_y (y_extract Z Z) Z Z (g_e (ev_alloc v5 ze_84) Z Z ?_)))
   rintro _ a2m ⟨a2n,rfl,w0,g9⟩
   refine g_e (ev_store w0 Z Z Z sz_84 Z (.here _ _ (.here _ _ (.here _ _ (.here _ _ (.here _ _ (.nil _)))))) (.hd _)) Z Z ?_
   rintro _ a2o ⟨h0,h1⟩
   refine GA Y (gnx ((csr ((GM Y ?_)))))
   have l3:=clCheck_c (dk:=b7.1) (dk_r:=b5) (dk_emp:=a6) (dk_emp_posted:=b0) (dk_emp_orders:=e8) (dk_fixesA:=d9) (dk_fixesc:=e0) (dk_firstA:=e9) (dk_firstc:=f0) h0.lt (h0.ok _ m2)
   obtain ⟨a2p,c5⟩:∃ r,clCheck b7.1=r:=⟨_,rfl⟩
   rw [c5] at l3
   refine g_e (ev_pure h0 pf_34 Z l3) Z Z ?_
   rintro _ a2q ⟨a2r,h2,h3,rfl⟩
   refine GM Y (g_y (y_extract Z Z) Z Z (g_y (y_extract Z Z) Z Z (GA Y (GA Y (gnx ((csr ((GM Y ?_)))))))))
   have l4:=clLate_c (dk:=b7.1) (dk_r:=b5) (dk_emp:=a6) (dk_emp_posted:=b0) (dk_emp_orders:=e8) (dk_fixesA:=d9) (dk_fixesc:=e0) (dk_firstA:=e9) (dk_firstc:=f0) (k:=2) h2.lt (h2.ok _ m2)
   obtain ⟨a2s,c6⟩:∃ r,clLate b7.1 2=r:=⟨_,rfl⟩
   rw [c6] at l4
   refine g_e (ev_pure h2 pf_38 Z l4) Z Z ?_
   rintro _ a2t ⟨a2u,h4,h5,rfl⟩
   refine GM Y (g_y (y_extract Z Z) Z Z (g_y (y_extract Z Z) Z Z (GA Y (GA Y (gnx ((csr ((GM Y ?_)))))))))
   have l5:=clFrom_c (dk:=b7.1) (dk_r:=b5) (dk_emp:=a6) (dk_emp_posted:=b0) (dk_emp_orders:=e8) (dk_fixesA:=d9) (dk_fixesc:=e0) (dk_firstA:=e9) (dk_firstc:=f0) (k:=1) h4.lt (h4.ok _ m2)
   obtain ⟨d1,c7⟩:∃ r,clFrom b7.1 1=r:=⟨_,rfl⟩
   rw [c7] at l5
   refine g_e (ev_pure h4 pf_37 Z l5) Z Z ?_
   rintro _ a2v ⟨a2w,w1,h6,⟨a2x,rfl,w2⟩⟩
   obtain ⟨a2y,rfl,l6⟩:=w2
   obtain ⟨w3,w4,rfl,a2z,a30⟩:=l6.fm
   refine GM Y (g_y (y_extract Z Z) Z Z (g_y (y_extract Z Z) Z Z (g_e (ev_alloc w1 ze_84) Z Z ?_)))
   rintro _ a31 ⟨a32,rfl,w6,f8⟩
   refine g_e (ev_store w6 Z Z Z sz_84 Z (.here _ _ (.here _ _ (.here _ _ (.here _ _ (.here _ _ (.nil _)))))) (.hd _)) Z Z ?_
   rintro _ a33 ⟨b2,f9⟩
   refine GA Y (gnx ((csr ((GM Y (GM Y (g_y (y_addW Z Z) Z Z (GM Y (g_y (y_addW Z Z) Z Z (GM Y (g_y (y_addW Z Z) Z Z (GM Y (g_y (y_addW Z Z) Z Z ?_)))))))))))))
   refine g_y (y_eql Z Z) Z Z (GM Y (g_split (t:=82) Z (fun a7=>?_) (fun a7=>?_)))
   ·replace a7:=OT a7
    refine GM Y (g_y (y_eql Z Z) Z Z (g_y (y_pickT Z Z) Z Z (GM Y (g_split (t:=86) Z (fun a8=>?_) (fun a8=>?_)))))
    ·replace a8:=OT a8
     refine gfa fo_84_1 Z Z Z (gld sh_2 Z b2 m2 (i:=3) Z Z Z (g_y (y_eql Z Z) Z Z (g_y (y_pickT Z Z) Z Z (GM Y (g_split (t:=91) Z (fun b3=>?_) (fun b3=>?_))))))
     ·replace b3:=OT b3
      refine g_y (y_loadA (cs:=[.int .i64 a2.1.bases.cash,.int .i64 a2.1.bases.taxable,.int .i64 a2.1.bases.social,.int .i64 a2.1.tax,.slice k6 (a2.1.shares).length k7]) sh_84 Z ((blk_cells b2 m2).part (f:=0) (.take _ (.take _ (.take _ (.take _ (.take _ (.nil _)))))))) Z Z (g_y (y_loadA (cs:=[.int .i64 d0.1.bases.cash,.int .i64 d0.1.bases.taxable,.int .i64 d0.1.bases.social,.int .i64 d0.1.tax,.slice v7 (d0.1.shares).length v9]) sh_84 Z ((blk_cells b2 m1).part (f:=0) (.take _ (.take _ (.take _ (.take _ (.take _ (.nil _)))))))) Z Z ?_)
      have l7:=dueSame_c (a:=a2.1) (b:=d0.1) b2.lt (show dueTy.rel _ _ a2.1 _ from ⟨_,rfl,(g7.mono (((((((((k8.t k9).t l1).t g9).t h1).t h3).t h5).t h6).t f8).t f9))⟩) (show dueTy.rel _ _ d0.1 _ from ⟨_,rfl,(l2.mono ((((((g9.t h1).t h3).t h5).t h6).t f8).t f9))⟩)
      obtain ⟨a34,e1⟩:∃ r,dueSame a2.1 d0.1=r:=⟨_,rfl⟩
      rw [e1] at l7
      refine g_e (ev_pure b2 pf_99 Z l7) Z Z ?_
      rintro _ a35 ⟨a36,e2,l8,rfl⟩
      refine g_y (y_pickT Z Z) Z Z (GM Y (g_split (t:=96) Z (fun e3=>?_) (fun e3=>?_)))
      ·skip
       refine g_y (y_loadA (cs:=[.int .i64 a2.1.bases.cash,.int .i64 a2.1.bases.taxable,.int .i64 a2.1.bases.social,.int .i64 a2.1.tax,.slice k6 (a2.1.shares).length k7]) sh_84 Z ((blk_cells e2 m2).part (f:=0) (.take _ (.take _ (.take _ (.take _ (.take _ (.nil _)))))))) Z Z (g_y (y_loadA (cs:=[.int .i64 d1.1.bases.cash,.int .i64 d1.1.bases.taxable,.int .i64 d1.1.bases.social,.int .i64 d1.1.tax,.slice w3 (d1.1.shares).length w4]) sh_84 Z ((blk_cells e2 m0).part (f:=0) (.take _ (.take _ (.take _ (.take _ (.take _ (.nil _)))))))) Z Z ?_)
       have l9:=dueSame_c (a:=a2.1) (b:=d1.1) e2.lt (show dueTy.rel _ _ a2.1 _ from ⟨_,rfl,(g7.mono ((((((((((k8.t k9).t l1).t g9).t h1).t h3).t h5).t h6).t f8).t f9).t l8))⟩) (show dueTy.rel _ _ d1.1 _ from ⟨_,rfl,(l6.mono ((f8.t f9).t l8))⟩)
       obtain ⟨a37,f1⟩:∃ r,dueSame a2.1 d1.1=r:=⟨_,rfl⟩
       rw [f1] at l9
       refine g_e (ev_pure e2 pf_99 Z l9) Z Z ?_
       rintro _ a38 ⟨a39,b8,a3a,rfl⟩
       refine g_y (y_not Z) Z Z (g_y (y_pickT Z Z) Z Z (GM Y (g_split (t:=102) Z (fun c8=>?_) (fun c8=>?_))))
       ·replace c8:=not_t c8
        refine gfa fo_84_1 Z Z Z (gld sh_2 Z b8 m0 (i:=3) Z Z Z (g_y (y_eql Z Z) Z Z (g_y (y_pickT Z Z) Z Z (GM Y (g_split (t:=107) Z (fun d2=>?_) (fun d2=>?_))))))
        ·replace d2:=OT d2
         refine GM Y (g_y (y_eql Z Z) Z Z (g_y (y_pickT Z Z) Z Z (GM Y (g_split (t:=111) Z (fun d5=>?_) (fun d5=>?_)))))
         ·replace d5:=OT d5
          refine gfa fo_84_0 Z Z Z (gfa fo_47_0 Z Z Z (gld sh_2 Z b8 m2 (i:=0) Z Z Z (g_y (y_eql Z Z) Z Z (g_y (y_pickT Z Z) Z Z (GA Y (gnx ((c_ret ?_))))))))
          have w7:compares24=(decide (a2.1.bases.cash=3000)):=ET (BE hr3) (ET (BE a9) (ET (BE a3) (ET (ocase_some a4) (ET (BE b4) (ET (BE b6) (ET (BE b1) (ET (IN a5) (ET (BE b9) (ET (BE c0) (ET (BE c1) (ET (BE c2) (ET (BE c3) (ET (BE c4) (ET (BE c5) (ET (BE c6) (ET (BE c7) (ET (IP a7) (ET (IP a8) (ET (IP b3) (ET (BE e1) (ET (cond_t e3) (ET (BE f1) (ET (cond_f c8) (ET (IP d2) (ET (IP d5) (rfl))))))))))))))))))))))))))
          refine x_ret ⟨_,_,rfl,rfl,rfl⟩ (⟨_,_,rfl,b8.fr,b8.grow,by rw [w7]; exact rfl⟩)
         ·replace d5:=OF d5
          refine gsk Z Z (gsk Z Z (gsk Z Z (gsk Z Z (g_y (y_pickF Z Z) Z Z (GA Y (gnx ((c_ret ?_))))))))
          have w8:compares24=false:=ET (BE hr3) (ET (BE a9) (ET (BE a3) (ET (ocase_some a4) (ET (BE b4) (ET (BE b6) (ET (BE b1) (ET (IN a5) (ET (BE b9) (ET (BE c0) (ET (BE c1) (ET (BE c2) (ET (BE c3) (ET (BE c4) (ET (BE c5) (ET (BE c6) (ET (BE c7) (ET (IP a7) (ET (IP a8) (ET (IP b3) (ET (BE e1) (ET (cond_t e3) (ET (BE f1) (ET (cond_f c8) (ET (IP d2) (ET (IN d5) (rfl))))))))))))))))))))))))))
          refine x_ret ⟨_,_,rfl,rfl,rfl⟩ (⟨_,_,rfl,b8.fr,b8.grow,by rw [w8]; exact rfl⟩)
        ·replace d2:=OF d2
         refine gsk Z Z (gsk Z Z (g_y (y_pickF Z Z) Z Z (GM Y (gsk Z Z (gsk Z Z (gsk Z Z (gsk Z Z (g_y (y_pickF Z Z) Z Z (GA Y (gnx ((c_ret ?_))))))))))))
         have w9:compares24=false:=ET (BE hr3) (ET (BE a9) (ET (BE a3) (ET (ocase_some a4) (ET (BE b4) (ET (BE b6) (ET (BE b1) (ET (IN a5) (ET (BE b9) (ET (BE c0) (ET (BE c1) (ET (BE c2) (ET (BE c3) (ET (BE c4) (ET (BE c5) (ET (BE c6) (ET (BE c7) (ET (IP a7) (ET (IP a8) (ET (IP b3) (ET (BE e1) (ET (cond_t e3) (ET (BE f1) (ET (cond_f c8) (ET (IN d2) (rfl)))))))))))))))))))))))))
         refine x_ret ⟨_,_,rfl,rfl,rfl⟩ (⟨_,_,rfl,b8.fr,b8.grow,by rw [w9]; exact rfl⟩)
       ·replace c8:=not_f c8
        refine gsk Z Z (gsk Z Z (gsk Z Z (g_y (y_pickF Z Z) Z Z (GM Y (gsk Z Z (gsk Z Z (g_y (y_pickF Z Z) Z Z (GM Y (gsk Z Z (gsk Z Z (gsk Z Z (gsk Z Z (g_y (y_pickF Z Z) Z Z ?_)))))))))))))
        refine GA Y (gnx ((c_ret ?_)))
        have x0:compares24=false:=ET (BE hr3) (ET (BE a9) (ET (BE a3) (ET (ocase_some a4) (ET (BE b4) (ET (BE b6) (ET (BE b1) (ET (IN a5) (ET (BE b9) (ET (BE c0) (ET (BE c1) (ET (BE c2) (ET (BE c3) (ET (BE c4) (ET (BE c5) (ET (BE c6) (ET (BE c7) (ET (IP a7) (ET (IP a8) (ET (IP b3) (ET (BE e1) (ET (cond_t e3) (ET (BE f1) (ET (cond_t c8) (rfl))))))))))))))))))))))))
        refine x_ret ⟨_,_,rfl,rfl,rfl⟩ (⟨_,_,rfl,b8.fr,b8.grow,by rw [x0]; exact rfl⟩)
      ·skip
       refine gsk Z Z (gsk Z Z (gsk Z Z (gsk Z Z (g_y (y_pickF Z Z) Z Z (GM Y (gsk Z Z (gsk Z Z (gsk Z Z (g_y (y_pickF Z Z) Z Z (GM Y (gsk Z Z (gsk Z Z (g_y (y_pickF Z Z) Z Z ?_)))))))))))))
       refine GM Y (gsk Z Z (gsk Z Z (gsk Z Z (gsk Z Z (g_y (y_pickF Z Z) Z Z (GA Y (gnx ((c_ret ?_)))))))))
       have x1:compares24=false:=ET (BE hr3) (ET (BE a9) (ET (BE a3) (ET (ocase_some a4) (ET (BE b4) (ET (BE b6) (ET (BE b1) (ET (IN a5) (ET (BE b9) (ET (BE c0) (ET (BE c1) (ET (BE c2) (ET (BE c3) (ET (BE c4) (ET (BE c5) (ET (BE c6) (ET (BE c7) (ET (IP a7) (ET (IP a8) (ET (IP b3) (ET (BE e1) (ET (cond_f e3) (rfl))))))))))))))))))))))
       refine x_ret ⟨_,_,rfl,rfl,rfl⟩ (⟨_,_,rfl,e2.fr,e2.grow,by rw [x1]; exact rfl⟩)
     ·replace b3:=OF b3
      refine gsk Z Z (gsk Z Z (gsk Z Z (g_y (y_pickF Z Z) Z Z (GM Y (gsk Z Z (gsk Z Z (gsk Z Z (gsk Z Z (g_y (y_pickF Z Z) Z Z (GM Y (gsk Z Z (gsk Z Z (gsk Z Z ?_)))))))))))))
      refine g_y (y_pickF Z Z) Z Z (GM Y (gsk Z Z (gsk Z Z (g_y (y_pickF Z Z) Z Z (GM Y (gsk Z Z (gsk Z Z (gsk Z Z (gsk Z Z (g_y (y_pickF Z Z) Z Z (GA Y (gnx (?_)))))))))))))
      refine c_ret ?_
      have x2:compares24=false:=ET (BE hr3) (ET (BE a9) (ET (BE a3) (ET (ocase_some a4) (ET (BE b4) (ET (BE b6) (ET (BE b1) (ET (IN a5) (ET (BE b9) (ET (BE c0) (ET (BE c1) (ET (BE c2) (ET (BE c3) (ET (BE c4) (ET (BE c5) (ET (BE c6) (ET (BE c7) (ET (IP a7) (ET (IP a8) (ET (IN b3) (rfl))))))))))))))))))))
      refine x_ret ⟨_,_,rfl,rfl,rfl⟩ (⟨_,_,rfl,b2.fr,b2.grow,by rw [x2]; exact rfl⟩)
    ·replace a8:=OF a8
     refine gsk Z Z (gsk Z Z (gsk Z Z (g_y (y_pickF Z Z) Z Z (GM Y (gsk Z Z (gsk Z Z (gsk Z Z (g_y (y_pickF Z Z) Z Z (GM Y (gsk Z Z (gsk Z Z (gsk Z Z (gsk Z Z ?_)))))))))))))
     refine g_y (y_pickF Z Z) Z Z (GM Y (gsk Z Z (gsk Z Z (gsk Z Z (g_y (y_pickF Z Z) Z Z (GM Y (gsk Z Z (gsk Z Z (g_y (y_pickF Z Z) Z Z (GM Y (gsk Z Z (gsk Z Z (gsk Z Z ?_)))))))))))))
     refine gsk Z Z (g_y (y_pickF Z Z) Z Z (GA Y (gnx ((c_ret ?_)))))
     have x3:compares24=false:=ET (BE hr3) (ET (BE a9) (ET (BE a3) (ET (ocase_some a4) (ET (BE b4) (ET (BE b6) (ET (BE b1) (ET (IN a5) (ET (BE b9) (ET (BE c0) (ET (BE c1) (ET (BE c2) (ET (BE c3) (ET (BE c4) (ET (BE c5) (ET (BE c6) (ET (BE c7) (ET (IP a7) (ET (IN a8) (rfl)))))))))))))))))))
     refine x_ret ⟨_,_,rfl,rfl,rfl⟩ (⟨_,_,rfl,b2.fr,b2.grow,by rw [x3]; exact rfl⟩)
   ·replace a7:=OF a7
    refine gsk Z Z (gsk Z Z (g_y (y_pickF Z Z) Z Z (GM Y (gsk Z Z (gsk Z Z (gsk Z Z (g_y (y_pickF Z Z) Z Z (GM Y (gsk Z Z (gsk Z Z (gsk Z Z (g_y (y_pickF Z Z) Z Z (GM Y ?_)))))))))))))
    refine gsk Z Z (gsk Z Z (gsk Z Z (gsk Z Z (g_y (y_pickF Z Z) Z Z (GM Y (gsk Z Z (gsk Z Z (gsk Z Z (g_y (y_pickF Z Z) Z Z (GM Y (gsk Z Z (gsk Z Z (g_y (y_pickF Z Z) Z Z ?_)))))))))))))
    refine GM Y (gsk Z Z (gsk Z Z (gsk Z Z (gsk Z Z (g_y (y_pickF Z Z) Z Z (GA Y (gnx ((c_ret ?_)))))))))
    have x4:compares24=false:=ET (BE hr3) (ET (BE a9) (ET (BE a3) (ET (ocase_some a4) (ET (BE b4) (ET (BE b6) (ET (BE b1) (ET (IN a5) (ET (BE b9) (ET (BE c0) (ET (BE c1) (ET (BE c2) (ET (BE c3) (ET (BE c4) (ET (BE c5) (ET (BE c6) (ET (BE c7) (ET (IN a7) (rfl))))))))))))))))))
    refine x_ret ⟨_,_,rfl,rfl,rfl⟩ (⟨_,_,rfl,b2.fr,b2.grow,by rw [x4]; exact rfl⟩)
end Go.Proofs.YtclblpmjamcknaaGreat
