import Derived.Test.YtclblpmjamcknaaGreatA5
import Derived.Test.YtclblpmjamcknaaGreatFlt2
set_option linter.unusedVariables false
set_option linter.unusedSimpArgs false
set_option maxRecDepth 8000
set_option maxHeartbeats 1000000
namespace Go.Proofs.YtclblpmjamcknaaGreat
open Go.Sx
theorem mRight_l1_mem:∀ (l:List Int) (k:Nat),mRight_l1 l k=.next ()→∀ z ∈ l,-100000000000≤z∧z≤100000000000
 | [],_,_,z,hz=>by cases hz
 | y :: l,k,h,z,hz=>by
  unfold mRight_l1 at h
  by_cases h1:100000000000 < y
  ·rw [IP h1] at h; cases h
  rw [IN h1] at h
  by_cases h2:y < -100000000000
  ·rw [IP h2] at h; cases h
  rw [IN h2] at h
  rcases List.mem_cons.1 hz with rfl | hz
  ·omega
  ·exact mRight_l1_mem l _ h z hz
theorem mRight_l1_ret:∀ (l:List Int) (k:Nat) (r:Bool),mRight_l1 l k=.ret r→r=false
 | [],_,r,h=>by cases h
 | y :: l,k,r,h=>by
  unfold mRight_l1 at h
  by_cases h1:100000000000 < y
  ·rw [IP h1] at h; cases h; rfl
  rw [IN h1] at h
  by_cases h2:y < -100000000000
  ·rw [IP h2] at h; cases h; rfl
  rw [IN h2] at h
  exact mRight_l1_ret l _ r h
theorem mRight_mem {l:List Int} (h:mRight l=true):∀ z ∈ l,-100000000000≤z∧z≤100000000000:=by
 unfold mRight at h
 cases hl:mRight_l1 l 0 with
 | next u=>exact mRight_l1_mem l 0 hl
 | ret r=>rw [hl] at h; rw [mRight_l1_ret l 0 r hl] at h; cases h
theorem mRight_l1_ok:∀ (l:List Int) (k:Nat),(∀ z ∈ l,-100000000000≤z∧z≤100000000000)→mRight_l1 l k=.next ()
 | [],_,_=>rfl
 | y :: l,k,h=>by
  have h1:=h y (.head _)
  unfold mRight_l1
  rw [IN (by omega),IN (by omega)]
  exact mRight_l1_ok l _ fun z hz=>h z (.tail _ hz)
theorem mRight_iff {l:List Int}:mRight l=true↔∀ z ∈ l,-100000000000≤z∧z≤100000000000:=by
 refine ⟨mRight_mem,fun h=>?_⟩
 unfold mRight
 rw [mRight_l1_ok l 0 h]; rfl
theorem mRight1 {a:Int} (h:mRight [a]=true):-100000000000≤a∧a≤100000000000:=mRight_mem h a (.head _)
theorem mRight4 {a b c d:Int} (h:mRight [a,b,c,d]=true):(-100000000000≤a∧a≤100000000000)∧(-100000000000≤b∧b≤100000000000)∧(-100000000000≤c∧c≤100000000000)∧(-100000000000≤d∧d≤100000000000):=
 ⟨mRight_mem h a (.head _),mRight_mem h b (.tail _ (.head _)),mRight_mem h c (.tail _ (.tail _ (.head _))),mRight_mem h d (.tail _ (.tail _ (.tail _ (.head _))))⟩
theorem fRate_iff {r:Int}:fRate r=true↔0≤r∧r≤10000:=by
 unfold fRate
 by_cases h:0≤r <;> by_cases h2:r≤10000 <;> simp [h,h2]
theorem bCheck_l1_each (list:List Band):∀ (m k:Nat),bCheck_l1 list m k=0→list.length < k + m→∀ i b,k≤i→list[i]?=some b→(0≤b.frm∧b.frm≤100000000000)∧(0≤b.rate∧b.rate≤10000)∧(0≤b.emp∧b.emp≤10000)
 | 0,k,_,hm,i,b,hi,hb=>by
  have:=(List.getElem?_eq_some_iff.1 hb).1
  omega
 | m + 1,k,h,hm,i,b,hi,hb=>by
  have hil:=(List.getElem?_eq_some_iff.1 hb).1
  obtain ⟨x,hx⟩:=has (xs:=list) (k:=k) (by omega)
  unfold bCheck_l1 at h
  rw [opt_some hx] at h
  have hx1:bCheck_m1 list k x=.next ()∧((0≤x.frm∧x.frm≤100000000000)∧(0≤x.rate∧x.rate≤10000)∧(0≤x.emp∧x.emp≤10000)):=by
   have key:∀ q:Bool,out (cond q (Out.ret 6) (bnd (fRate x.rate) fun a0=>cond a0 (bnd (fRate x.emp) fun a1=>cond a1 (Out.next ()) (Out.ret 50)) (Out.ret 50)):Out Unit Int) (fun _=>(0:Int))=0 →
     q=false∧(0≤x.rate∧x.rate≤10000)∧(0≤x.emp∧x.emp≤10000):=by
    intro q hq
    cases q with
    | true=>cases hq
    | false=>
     simp only [cond_false,bnd] at hq
     cases h1:fRate x.rate with
     | false=>rw [h1] at hq; cases hq
     | true=>
      cases h2:fRate x.emp with
      | false=>rw [h1,h2] at hq; cases hq
      | true=>exact ⟨rfl,fRate_iff.1 h1,fRate_iff.1 h2⟩
   by_cases h1:x.frm < 0
   ·unfold bCheck_m1 at h; rw [IP h1] at h; cases h
   by_cases h2:100000000000 < x.frm
   ·unfold bCheck_m1 at h; rw [IN h1,IP h2] at h; cases h
   unfold bCheck_m1 at h ⊢
   rw [IN h1,IN h2] at h ⊢
   have fin:∀ q:Bool,(q=false∧(0≤x.rate∧x.rate≤10000)∧(0≤x.emp∧x.emp≤10000)) →
     (cond q (Out.ret 6) (bnd (fRate x.rate) fun a0=>cond a0 (bnd (fRate x.emp) fun a1=>cond a1 (Out.next ()) (Out.ret 50)) (Out.ret 50)):Out Unit Int)=.next ():=by
    rintro q ⟨rfl,h3,h4⟩
    simp only [cond_false,bnd,fRate_iff.2 h3,fRate_iff.2 h4,cond_true]
   have weak:∀ (o:Out Unit Int) (f:Int),out o (fun _=>f)=0→(∃ u,o=.next u)∨o=.ret 0:=by
    intro o f ho
    cases o with
    | next u=>exact .inl ⟨u,rfl⟩
    | ret r=>exact .inr (by rw [show r=0 from ho])
   have any:∀ (q:Bool) (f:Int),out (cond q (Out.ret 6) (bnd (fRate x.rate) fun a0=>cond a0 (bnd (fRate x.emp) fun a1=>cond a1 (Out.next ()) (Out.ret 50)) (Out.ret 50)):Out Unit Int) (fun _=>f)=0 →
     q=false∧(0≤x.rate∧x.rate≤10000)∧(0≤x.emp∧x.emp≤10000):=by
    intro q f hq
    refine key q ?_
    rcases weak _ _ hq with ⟨u,hu⟩ | hu
    ·rw [hu]; rfl
    ·rw [hu]; rfl
   by_cases h3:(k:Int)=0
   ·rw [IP h3] at h ⊢
    by_cases h4:x.frm≠0
    ·rw [IP h4] at h; cases h
    rw [IN h4] at h ⊢
    have:=any _ _ h
    exact ⟨fin _ this,⟨by omega,by omega⟩,this.2⟩
   ·rw [IN h3] at h ⊢
    have:=any _ _ h
    exact ⟨fin _ this,⟨by omega,by omega⟩,this.2⟩
  rw [out_next hx1.1] at h
  by_cases hik:i=k
  ·subst hik
   rw [hx] at hb; cases hb
   exact hx1.2
  ·by_cases h5:((k:Int) + 1) < (list.length:Int)
   ·rw [IP h5] at h
    exact bCheck_l1_each list m (k + 1) h (by omega) i b (by omega) hb
   ·omega
theorem bCheck_len {list:List Band} (h:bCheck list=0):list.length≤8∧0 < list.length:=by
 unfold bCheck at h
 by_cases h1:(list.length:Int)=0
 ·rw [IP h1] at h; cases h
 rw [IN h1] at h
 by_cases h2:8 < (list.length:Int)
 ·rw [IP h2] at h; cases h
 omega
theorem bCheck_each {list:List Band} (h:bCheck list=0) {i:Nat} {b:Band} (hb:list[i]?=some b):(0≤b.frm∧b.frm≤100000000000)∧(0≤b.rate∧b.rate≤10000)∧(0≤b.emp∧b.emp≤10000)∧i < 8:=by
 have hl:=bCheck_len h
 have hi:=(List.getElem?_eq_some_iff.1 hb).1
 unfold bCheck at h
 rw [IN (by omega),IN (by omega)] at h
 have:=bCheck_l1_each list _ 0 h (by omega) i b (by omega) hb
 exact ⟨this.1,this.2.1,this.2.2,by omega⟩
theorem mulbd {i j N R:Int} (h1:-N≤i) (h2:i≤N) (h3:0≤j) (h4:j≤R):-(N * R)≤i * j∧i * j≤N * R:=by
 have hN:0≤N:=by omega
 have a1:i * j≤N * j:=Int.mul_le_mul_of_nonneg_right h2 h3
 have a2:N * j≤N * R:=Int.mul_le_mul_of_nonneg_left h4 hN
 have a3:(-N) * j≤i * j:=Int.mul_le_mul_of_nonneg_right h1 h3
 rw [Int.neg_mul] at a3
 omega
def pWhole (x:Int):Bool:=
 (if ((-9007199254740992)≤x) then (if (x≤9007199254740992) then (decide (x=x))
 else false)
 else false)
theorem pWhole_c {x:Int} {w_x:Nat} {d:Dat} {w:World} (hd:∀ b,d b→b < w.heap.size) (h_x:Wd w_x x):Ret Tryz.prog 341 [.float .f64 w_x] w [] d (fun u d' w'=>u=.bool ((pWhole x))):=by
 refine ret_enter (n:=16) Tryz.func341 Z Z (ble Z) ?_
 have hI0:=Inv.start hd
 refine csr ((GA Y (gnx ((csr ((GM Y (g_y (y_fgeq Z Z h_x.ex wx_least) Z Z (GM Y (g_split (t:=5) Z (fun hg1=>?_) (fun hg1=>?_)))))))))))
 ·replace hg1:=OT hg1
  refine GM Y (g_y (y_fleq Z Z h_x.ex wx_most) Z Z (g_y (y_pickT Z Z) Z Z (GM Y (g_split (t:=9) Z (fun hg2=>?_) (fun hg2=>?_)))))
  ·replace hg2:=OT hg2
   refine GM Y (GM Y (g_y (y_f2i (by rw [Tryz.underlying446]; rfl) Tryz.underlying2 Z h_x) Z Z ?_))
   have hw3:=wd_ofInt (i:=x) (h_x.lo) (h_x.hi)
   refine g_y (y_i2f (by rw [Tryz.underlying2]; rfl) Tryz.underlying446 Z) Z Z (g_y (y_feql Z Z h_x.ex hw3.ex) Z Z (g_y (y_pickT Z Z) Z Z (GA Y (gnx ((c_ret ?_))))))
   have hF4:pWhole x=(decide (x=x)):=ET (IP hg1) (ET (IP hg2) (rfl))
   refine x_ret ⟨_,_,rfl,rfl,rfl⟩ (⟨_,_,rfl,hI0.fr,hI0.grow,by rw [hF4]; exact rfl⟩)
  ·replace hg2:=OF hg2
   refine gsk Z Z (gsk Z Z (gsk Z Z (gsk Z Z (gsk Z Z (g_y (y_pickF Z Z) Z Z (GA Y (gnx ((c_ret ?_)))))))))
   have hF5:pWhole x=false:=ET (IP hg1) (ET (IN hg2) (rfl))
   refine x_ret ⟨_,_,rfl,rfl,rfl⟩ (⟨_,_,rfl,hI0.fr,hI0.grow,by rw [hF5]; exact rfl⟩)
 ·replace hg1:=OF hg1
  refine gsk Z Z (gsk Z Z (g_y (y_pickF Z Z) Z Z (GM Y (gsk Z Z (gsk Z Z (gsk Z Z (gsk Z Z (gsk Z Z (g_y (y_pickF Z Z) Z Z (GA Y (gnx ((c_ret ?_)))))))))))))
  have hF6:pWhole x=false:=ET (IN hg1) (rfl)
  refine x_ret ⟨_,_,rfl,rfl,rfl⟩ (⟨_,_,rfl,hI0.fr,hI0.grow,by rw [hF6]; exact rfl⟩)
def pRight (p:Pr):Bool:=
 (bnd (pWhole p.re) fun r6=>
 (cond r6 ((bnd (pWhole p.im) fun a0=>
 a0))
 false))
theorem pRight_c {p:Pr} {v_p:Value} {d:Dat} {w:World} (hd:∀ b,d b→b < w.heap.size) (h_p:CxV v_p p):Ret Tryz.prog 324 [v_p] w [] d (fun u d' w'=>u=.bool ((pRight p))):=by
 obtain ⟨a1,b2,rfl,hw3,hw4⟩:=h_p
 refine ret_enter (n:=11) Tryz.func324 Z Z (ble Z) ?_
 have hI0:=Inv.start hd
 refine csr ((GA Y (gnx ((csr ((GM Y (g_y (y_real Z) Z Z ?_))))))))
 have hq5:=pWhole_c (x:=p.re) hI0.lt hw3
 obtain ⟨r6,hr7⟩:∃ r,pWhole p.re=r:=⟨_,rfl⟩
 rw [hr7] at hq5
 refine g_e (ev_pure hI0 pf_341 Z hq5) Z Z ?_
 rintro _ w9 ⟨d8,a0,a9,rfl⟩
 refine GM Y (g_split (t:=6) Z (fun a2=>?_) (fun a2=>?_))
 ·skip
  refine GM Y (g_y (y_imag Z) Z Z ?_)
  have a3:=pWhole_c (x:=p.im) a0.lt hw4
  obtain ⟨a6,a4⟩:∃ r,pWhole p.im=r:=⟨_,rfl⟩
  rw [a4] at a3
  refine g_e (ev_pure a0 pf_341 Z a3) Z Z ?_
  rintro _ b0 ⟨b1,a5,b3,rfl⟩
  refine g_y (y_pickT Z Z) Z Z (GA Y (gnx ((c_ret ?_))))
  have a7:pRight p=a6:=ET (BE hr7) (ET (cond_t a2) (ET (BE a4) (rfl)))
  refine x_ret ⟨_,_,rfl,rfl,rfl⟩ (⟨_,_,rfl,a5.fr,a5.grow,by rw [a7]; exact rfl⟩)
 ·skip
  refine gsk Z Z (gsk Z Z (gsk Z Z (g_y (y_pickF Z Z) Z Z (GA Y (gnx ((c_ret ?_)))))))
  have a8:pRight p=false:=ET (BE hr7) (ET (cond_f a2) (rfl))
  refine x_ret ⟨_,_,rfl,rfl,rfl⟩ (⟨_,_,rfl,a0.fr,a0.grow,by rw [a8]; exact rfl⟩)
def pSides (p:Pr):Int × Int × Int:=
 (bnd (pRight p) fun a0=>
 (cond a0 ((p.re,p.im,0))
 ((0,0,10))))
theorem pSides_c {p:Pr} {v_p:Value} {d:Dat} {w:World} (hd:∀ b,d b→b < w.heap.size) (h_p:CxV v_p p):Ret Tryz.prog 302 [v_p] w [] d (fun u d' w'=>u=.tuple #[.int .i64 ((pSides p).1),.int .i64 ((pSides p).2.1),.int .i64 ((pSides p).2.2)]):=by
 obtain ⟨a1,b2,rfl,hw3,hw4⟩:=h_p
 refine ret_enter (n:=14) Tryz.func302 Z Z (ble Z) ?_
 have hI0:=Inv.start hd
 refine csr ((GA Y (GA Y (GA Y (gnx ((c_seq (csr ((GM Y ?_))))))))))
 have a4:=pRight_c (p:=p) hI0.lt ⟨_,_,rfl,hw3,hw4⟩
 obtain ⟨a7,a3⟩:∃ r,pRight p=r:=⟨_,rfl⟩
 rw [a3] at a4
 refine g_e (ev_pure hI0 pf_324 Z a4) Z Z ?_
 rintro _ a8 ⟨a9,a2,b0,rfl⟩
 refine g_y (y_not Z) Z Z (gnx ((c_cond Z (fun a0=>?_) (fun a0=>?_))))
 ·replace a0:=not_t a0
  refine csr ((GA Y (GA Y (GA Y (gnx ((c_ret ?_)))))))
  have a5:pSides p=(0,0,10):=ET (BE a3) (ET (cond_f a0) (rfl))
  refine x_thenR (x_ret ⟨_,_,rfl,rfl,⟨_,_,rfl,rfl,⟨_,_,rfl,rfl,rfl⟩⟩⟩ ?_)
  exact ⟨_,_,rfl,a2.fr,a2.grow,by rw [a5]; exact rfl⟩
 ·replace a0:=not_f a0
  refine c_skip (x_next (csr ((GM Y (g_y (y_real Z) Z Z (g_y (y_f2i (by rw [Tryz.underlying446]; rfl) Tryz.underlying2 Z hw3) Z Z (GM Y (g_y (y_imag Z) Z Z (g_y (y_f2i (by rw [Tryz.underlying446]; rfl) Tryz.underlying2 Z hw4) Z Z (GA Y (GA Y (GA Y (g_nil ?_)))))))))))))
  refine x_next (c_ret ?_)
  have a6:pSides p=(p.re,p.im,0):=ET (BE a3) (ET (cond_t a0) (rfl))
  refine x_ret ⟨_,_,rfl,rfl,⟨_,_,rfl,rfl,⟨_,_,rfl,rfl,rfl⟩⟩⟩ (⟨_,_,rfl,a2.fr,a2.grow,by rw [a6]; exact rfl⟩)
def pRates (b:Band):Pr:=
 (⟨b.rate,b.emp⟩:Pr)
theorem pRates_c {b:Band} {d:Dat} {w:World} (hd:∀ b,d b→b < w.heap.size) (hb1:-1000000≤b.rate∧b.rate≤1000000) (hb2:-1000000≤b.emp∧b.emp≤1000000):Ret Tryz.prog 348 [.agg #[.int .i64 b.frm,.int .i64 b.rate,.int .i64 b.emp]] w [] d (fun u d' w'=>∃ (v0:Value),u=v0∧CxV v0 (pRates b)):=by
 refine ret_enter (n:=10) Tryz.func348 Z Z (ble Z) ?_
 have hI0:=Inv.start hd
 refine csr ((g_e (ev_box hI0 Z) Z Z ?_))
 rintro _ w1 ⟨b4,rfl,hI2,hle3⟩
 refine GA Y (gnx ((csr ((gfa fo_33_1 Z Z Z (gld sh_3 Z hI2 m0 (i:=1) Z Z Z ?_))))))
 have hw5:=wd_ofInt (i:=b.rate) (by omega) (by omega)
 refine g_y (y_i2f (by rw [Tryz.underlying3]; rfl) Tryz.underlying446 Z) Z Z (gfa fo_33_2 Z Z Z (gld sh_3 Z hI2 m0 (i:=2) Z Z Z ?_))
 have hw6:=wd_ofInt (i:=b.emp) (by omega) (by omega)
 refine g_y (y_i2f (by rw [Tryz.underlying3]; rfl) Tryz.underlying446 Z) Z Z (g_y (y_complex Z Z) Z Z (GA Y (gnx ((c_ret ?_)))))
 have hF7:pRates b=(⟨b.rate,b.emp⟩:Pr):=rfl
 refine x_ret ⟨_,_,rfl,rfl,rfl⟩ (⟨_,_,rfl,hI2.fr,hI2.grow,by rw [hF7]; exact ⟨_,rfl,⟨_,_,rfl,hw5,hw6⟩⟩⟩)
def pBanded_l1 (x:Int) (list:(List Band)):Nat→Pr→Nat→Pr × Int
 | 0,_,_=>default
 | a5 + 1,a1,a2=>(if ((a2:Int)=(list.length:Int)) then (a1,0)
 else (opt (list)[a2]? fun a0=>
 (if (x≤a0.frm) then (a1,0)
 else (if (((a2:Int) + 1) < (list.length:Int)) then (opt (list)[a2 + 1]? fun a6=>
 (bnd (pRates a0) fun a3=>
 (pBanded_l1 x list a5 ((⟨(a1.re + ((((min x a6.frm) - a0.frm) * a3.re) - (0 * a3.im))),(a1.im + ((((min x a6.frm) - a0.frm) * a3.im) + (0 * a3.re)))⟩:Pr)) (a2 + 1))))
 else (bnd (pRates a0) fun a4=>
 (pBanded_l1 x list a5 ((⟨(a1.re + (((x - a0.frm) * a4.re) - (0 * a4.im))),(a1.im + (((x - a0.frm) * a4.im) + (0 * a4.re)))⟩:Pr)) (a2 + 1)))))))
def pBanded (x:Int) (list:(List Band)):Pr × Int:=
 (bnd (bCheck list) fun a0=>
 (if (a0≠0) then ((⟨0,0⟩:Pr),a0)
 else (bnd (mRight ([x])) fun a1=>
 (cond a1 ((pBanded_l1 x list (list.length + 1) ((⟨0,0⟩:Pr)) 0))
 (((⟨0,0⟩:Pr),10))))))
theorem pBanded_c {x:Int} {list:(List Band)} {v_list:Value} {d:Dat} {w:World} (hd:∀ b,d b→b < w.heap.size) (h_list:Sl bandTy d w v_list list):Ret Tryz.prog 340 [.int .i64 x,v_list] w [] d (fun u d' w'=>∃ (v0:Value),u=.tuple #[v0,.int .i64 ((pBanded x list).2)]∧CxV v0 (pBanded x list).1):=by
 obtain ⟨A1,c2,rfl,hn3,hb4⟩:=h_list.fm
 refine ret_enter (n:=66) Tryz.func340 Z Z (ble Z) ?_
 have hI0:=Inv.start hd
 refine csr ((GA Y (GA Y (gnx ((c_scopeP (ι:=Nat × Pr × Nat × Nat × Nat × Dat) (fun ⟨a5,a2,b5,b6,a1,b1⟩=>[(0,.int .i64 x),(1,.slice A1 (list).length c2),(7,.complex .f64 b5 b6),(8,.int .i64 (a1:Int))]) (fun ⟨a5,a2,b5,b6,a1,b1⟩ b7=>Inv [] d w b1 [] b7∧Le d w b1 b7∧pBanded x list=pBanded_l1 x list a5 a2 a1∧list.length < a1 + a5∧a1≤list.length∧bCheck list=0∧(-100000000000≤x∧x≤100000000000)∧((-(1000000000000000 * (a1:Int))≤a2.re∧a2.re≤1000000000000000 * (a1:Int))∧(-(1000000000000000 * (a1:Int))≤a2.im∧a2.im≤1000000000000000 * (a1:Int)))∧Wd b5 a2.re∧Wd b6 a2.im) (fun ⟨a5,a2,b5,b6,a1,b1⟩=>a5) 0 Z ?_ (fun hP=>?_)))))))
 ·rintro ⟨a5,a2,b5,b6,a1,b1⟩ b7 ⟨b4,a6,b9,n3,n4,n5,n6,n7,c0,c1⟩
  obtain ⟨d4,rfl⟩:∃ z,a5=z + 1:=⟨a5 - 1,by omega⟩
  refine c_seq (csr ((GM Y (GM Y (gln el_34 Z Z Z (g_y (y_eql Z Z) Z Z (GM Y (g_split (t:=23) Z (fun a3=>?_) (fun a3=>?_)))))))))
  ·replace a3:=OT a3
   refine gsk Z Z (gsk Z Z (gsk Z Z (gsk Z Z (gsk Z Z (gsk Z Z (gsk Z Z (g_y (y_pickT Z Z) Z Z (gnx ((c_condT Z (csr ((GM Y ?_)))))))))))))
   refine GA Y (GA Y (gnx ((c_ret ?_))))
   have f0:pBanded x list=(a2,0):=ET (b9) (ET (IP a3) (rfl))
   refine x_thenR (x_jmp1R (x_ret ⟨_,_,rfl,rfl,⟨_,_,rfl,rfl,rfl⟩⟩ ?_))
   exact ⟨_,_,rfl,b4.fr,b4.grow,by rw [f0]; exact ⟨_,rfl,⟨_,_,rfl,c0,c1⟩⟩⟩
  ·replace a3:=OF a3
   refine GM Y (GM Y (GM Y ?_))
   obtain ⟨a0,a4⟩:=has (xs:=list) (k:=a1) (by omega)
   have n8:=bCheck_each (by assumption) a4
   obtain ⟨n9,o0,o1,f1,f2,f3,o2⟩:=Sl.at_ (h_list.mono a6) a4
   obtain rfl:=f2
   refine g_y (y_indexAddr (i:=a1) el_34 Z f1 Z (rfl) (by omega)) Z Z (gfa fo_33_0 Z Z Z (g_y (y_load1 sh_2 Z (f3.nth_ (i:=0) Z)) Z Z (g_y (y_leq Z Z) Z Z (g_y (y_pickF Z Z) Z Z (gnx ((c_cond Z (fun a7=>?_) (fun a7=>?_))))))))
   ·replace a7:=OT a7
    refine csr ((GM Y (GA Y (GA Y (gnx ((c_ret ?_)))))))
    have f4:pBanded x list=(a2,0):=ET (b9) (ET (IN a3) (ET (opt_some a4) (ET (IP a7) (rfl))))
    refine x_thenR (x_jmp1R (x_ret ⟨_,_,rfl,rfl,⟨_,_,rfl,rfl,rfl⟩⟩ ?_))
    exact ⟨_,_,rfl,b4.fr,b4.grow,by rw [f4]; exact ⟨_,rfl,⟨_,_,rfl,c0,c1⟩⟩⟩
   ·replace a7:=OF a7
    refine c_skip (x_next (csr ((GM Y (GA Y (gnx ((c_seq (csr ((GM Y (g_y (y_add Z Z (by omega)) Z Z (GM Y ?_)))))))))))))
    refine gln el_34 Z Z Z (g_y (y_lss Z Z) Z Z (gnx ((c_cond Z (fun b2=>?_) (fun b2=>?_)))))
    ·replace b2:=OT b2
     refine c_region (GM Y (GM Y (GM Y (g_y (y_add Z Z (by omega)) Z Z ?_))))
     obtain ⟨b8,c5⟩:=has (xs:=list) (k:=a1 + 1) (by omega)
     have o3:=bCheck_each (by assumption) c5
     obtain ⟨o4,o5,o6,f5,f6,f7,o7⟩:=Sl.at_ (h_list.mono a6) c5
     obtain rfl:=f6
     refine g_y (y_indexAddr (i:=a1 + 1) el_34 Z f5 Z (rfl) (by omega)) Z Z (gfa fo_33_0 Z Z Z (g_y (y_load1 sh_2 Z (f7.nth_ (i:=0) Z)) Z Z (g_y (y_min Z Z) Z Z (GA Y (gnx ((c_seq ?_)))))))
     have c6:=b4.drew; have c7:=Le.drew b1 b7
     refine c_drawK 17 follows_mixed c6 (k_y 0 (by kernel_rfl) Z Z Z (fun _ _=>(y_move Z)) (k_y 1 (by kernel_rfl) Z Z Z (fun _ _=>(y_move Z)) (k_y 2 (by kernel_rfl) Z Z Z (fun _ _=>(y_move Z)) (k_y 3 (by kernel_rfl) Z Z Z (fun _ _=>(y_move Z)) ?_))))
     obtain ⟨o8,o9,p0,f8,f9,g0,g1⟩:=Sl.at_ (h_list.mono (a6.t c7)) a4
     obtain rfl:=f9
     refine k_y 4 (by kernel_rfl) Z Z Z (fun _ _=>(y_indexAddr (i:=a1) el_34 Z f8 Z (rfl) (by omega))) (k_y 5 (by kernel_rfl) Z Z Z (fun _ _=>(y_fieldAddr fo_33_0 Z)) (k_y 6 (by kernel_rfl) Z Z Z (fun p1 ⟨p2,p3,g2⟩=>(y_load1 sh_2 Z ((g0.keep ((g2).blk _ g1)).nth_ (i:=0) Z))) (k_y 7 (by kernel_rfl) Z Z Z (fun _ _=>(y_sub Z Z (by omega))) ?_)))
     have d5:=wd_ofInt (i:=((min x b8.frm) - a0.frm)) (by omega) (by omega)
     refine k_y 8 (by kernel_rfl) Z Z Z (fun _ _=>(y_i2f (by rw [Tryz.underlying2]; rfl) Tryz.underlying446 Z)) (k_y 9 (by kernel_rfl) Z Z Z (fun _ _=>(y_complex Z Z)) (k_y 10 (by kernel_rfl) Z Z Z (fun _ _=>(y_move Z)) (k_y 11 (by kernel_rfl) Z Z Z (fun _ _=>(y_move Z)) ?_)))
     obtain ⟨p4,p5,p6,g3,g4,g5,g6⟩:=Sl.at_ (h_list.mono (a6.t c7)) a4
     obtain rfl:=g4
     refine k_y 12 (by kernel_rfl) Z Z Z (fun _ _=>(y_indexAddr (i:=a1) el_34 Z g3 Z (rfl) (by omega))) (k_y 13 (by kernel_rfl) Z Z Z (fun p7 ⟨p8,p9,g7⟩=>(y_loadA (cs:=[.int .i64 a0.frm,.int .i64 a0.rate,.int .i64 a0.emp]) sh_33 Z ((g5.keep ((g7).blk _ g6)).part (f:=0) (.take _ (.take _ (.take _ (.nil _))))))) (k_all (is:=[14]) (by kernel_rfl) (by simp) (.cons ?_ .nil)))
     have d6:=pRates_c (b:=a0) c6.lt (by first | omega | (simp only [LA,LC,LN]; omega)) (by first | omega | (simp only [LA,LC,LN]; omega))
     obtain ⟨a8,c8⟩:∃ r,pRates a0=r:=⟨_,rfl⟩
     rw [c8] at d6
     have h8r573:a8.re=a0.rate∧a8.im=a0.emp:=by rw [← c8]; exact ⟨rfl,rfl⟩
     refine k_op Z Z Z (ev_pure c6 pf_348 Z d6) ?_
     rintro _ q0 ⟨g8,d7,d8,⟨q1,rfl,g9⟩⟩
     obtain ⟨q2,q3,rfl,d9,e0⟩:=g9
     refine k_next d7 d8 ?_
     have q4:=mulbd (N:=100000000000) (R:=10000) (i:=((min x b8.frm) - a0.frm)) (j:=a8.re) (by omega) (by omega) (by omega) (by omega)
     have q5:=mulbd (N:=100000000000) (R:=10000) (i:=((min x b8.frm) - a0.frm)) (j:=a8.im) (by omega) (by omega) (by omega) (by omega)
     obtain ⟨q6,h0,h1⟩:=wd_prod d5 d9 (by omega) (by omega)
     obtain ⟨q7,h2,h3⟩:=wd_prod wd_zero e0 (by omega) (by omega)
     obtain ⟨q8,h4,h5⟩:=wd_diff h1 h3 (by omega) (by omega)
     obtain ⟨q9,h6,h7⟩:=wd_prod d5 e0 (by omega) (by omega)
     obtain ⟨r0,h8,h9⟩:=wd_prod wd_zero d9 (by omega) (by omega)
     obtain ⟨r1,i0,i1⟩:=wd_sum h7 h9 (by omega) (by omega)
     refine k_y 15 (by kernel_rfl) Z Z Z (fun _ _=>(y_cmul Z Z h0 h2 h4 h6 h8 i0)) ?_
     obtain ⟨i2,i3,i4⟩:=wd_sum c0 h5 (by omega) (by omega)
     obtain ⟨i5,i6,i7⟩:=wd_sum c1 i1 (by omega) (by omega)
     refine k_y 16 (by kernel_rfl) Z Z Z (fun _ _=>(y_cadd Z Z i3 i6)) (k_all (is:=[17]) (by kernel_rfl) (by simp) (.cons ?_ .nil))
     refine k_op Z Z Z (Ev.of_y2 (y_assign Z)) ?_
     rintro _ _ ⟨rfl,rfl⟩
     refine k_bar (b_done (by kernel_rfl) (x_draw ?_) (by kernel_rfl))
     refine x_next (csr ((GM Y (g_y (y_add Z Z (by omega)) Z Z (GA Y (gnx ((c_goto (x_jump1 (d4,(⟨(a2.re + ((((min x b8.frm) - a0.frm) * a8.re) - (0 * a8.im))),(a2.im + ((((min x b8.frm) - a0.frm) * a8.im) + (0 * a8.re)))⟩:Pr),i2,i5,a1 + 1,g8) (by dsimp only; omega) (.cons Z (.cons Z (.cons Z (.cons Z (.nil _))))) ⟨d7,((a6.t c7).t d8),ET (b9) (ET (IN a3) (ET (opt_some a4) (ET (IN a7) (ET (IP b2) (ET (opt_some c5) (ET (BE c8) (rfl))))))),by first | omega | assumption | (dsimp only; omega),by first | omega | assumption | (dsimp only; omega),by first | omega | assumption | (dsimp only; omega),by first | omega | assumption | (dsimp only; omega),by first | omega | assumption | (dsimp only; omega),i4,i7⟩)))))))))
    ·replace b2:=OF b2
     refine c_skip (x_next (c_seq ?_))
     have c9:=b4.drew; have d0:=Le.drew b1 b7
     refine c_drawK 17 follows_mixed c9 (k_y 0 (by kernel_rfl) Z Z Z (fun _ _=>(y_move Z)) (k_y 1 (by kernel_rfl) Z Z Z (fun _ _=>(y_move Z)) (k_y 2 (by kernel_rfl) Z Z Z (fun _ _=>(y_move Z)) (k_y 3 (by kernel_rfl) Z Z Z (fun _ _=>(y_move Z)) ?_))))
     obtain ⟨r2,r3,r4,i8,i9,j0,j1⟩:=Sl.at_ (h_list.mono (a6.t d0)) a4
     obtain rfl:=i9
     refine k_y 4 (by kernel_rfl) Z Z Z (fun _ _=>(y_indexAddr (i:=a1) el_34 Z i8 Z (rfl) (by omega))) (k_y 5 (by kernel_rfl) Z Z Z (fun _ _=>(y_fieldAddr fo_33_0 Z)) (k_y 6 (by kernel_rfl) Z Z Z (fun r5 ⟨r6,r7,j2⟩=>(y_load1 sh_2 Z ((j0.keep ((j2).blk _ j1)).nth_ (i:=0) Z))) (k_y 7 (by kernel_rfl) Z Z Z (fun _ _=>(y_sub Z Z (by omega))) ?_)))
     have e1:=wd_ofInt (i:=(x - a0.frm)) (by omega) (by omega)
     refine k_y 8 (by kernel_rfl) Z Z Z (fun _ _=>(y_i2f (by rw [Tryz.underlying2]; rfl) Tryz.underlying446 Z)) (k_y 9 (by kernel_rfl) Z Z Z (fun _ _=>(y_complex Z Z)) (k_y 10 (by kernel_rfl) Z Z Z (fun _ _=>(y_move Z)) (k_y 11 (by kernel_rfl) Z Z Z (fun _ _=>(y_move Z)) ?_)))
     obtain ⟨r8,r9,s0,j3,j4,j5,j6⟩:=Sl.at_ (h_list.mono (a6.t d0)) a4
     obtain rfl:=j4
     refine k_y 12 (by kernel_rfl) Z Z Z (fun _ _=>(y_indexAddr (i:=a1) el_34 Z j3 Z (rfl) (by omega))) (k_y 13 (by kernel_rfl) Z Z Z (fun s1 ⟨s2,s3,j7⟩=>(y_loadA (cs:=[.int .i64 a0.frm,.int .i64 a0.rate,.int .i64 a0.emp]) sh_33 Z ((j5.keep ((j7).blk _ j6)).part (f:=0) (.take _ (.take _ (.take _ (.nil _))))))) (k_all (is:=[14]) (by kernel_rfl) (by simp) (.cons ?_ .nil)))
     have e2:=pRates_c (b:=a0) c9.lt (by first | omega | (simp only [LA,LC,LN]; omega)) (by first | omega | (simp only [LA,LC,LN]; omega))
     obtain ⟨a9,d1⟩:∃ r,pRates a0=r:=⟨_,rfl⟩
     rw [d1] at e2
     have h8r745:a9.re=a0.rate∧a9.im=a0.emp:=by rw [← d1]; exact ⟨rfl,rfl⟩
     refine k_op Z Z Z (ev_pure c9 pf_348 Z e2) ?_
     rintro _ s4 ⟨j8,e3,e4,⟨s5,rfl,j9⟩⟩
     obtain ⟨s6,s7,rfl,e5,e6⟩:=j9
     refine k_next e3 e4 ?_
     have s8:=mulbd (N:=100000000000) (R:=10000) (i:=(x - a0.frm)) (j:=a9.re) (by omega) (by omega) (by omega) (by omega)
     have s9:=mulbd (N:=100000000000) (R:=10000) (i:=(x - a0.frm)) (j:=a9.im) (by omega) (by omega) (by omega) (by omega)
     obtain ⟨t0,k0,k1⟩:=wd_prod e1 e5 (by omega) (by omega)
     obtain ⟨t1,k2,k3⟩:=wd_prod wd_zero e6 (by omega) (by omega)
     obtain ⟨t2,k4,k5⟩:=wd_diff k1 k3 (by omega) (by omega)
     obtain ⟨t3,k6,k7⟩:=wd_prod e1 e6 (by omega) (by omega)
     obtain ⟨t4,k8,k9⟩:=wd_prod wd_zero e5 (by omega) (by omega)
     obtain ⟨t5,l0,l1⟩:=wd_sum k7 k9 (by omega) (by omega)
     refine k_y 15 (by kernel_rfl) Z Z Z (fun _ _=>(y_cmul Z Z k0 k2 k4 k6 k8 l0)) ?_
     obtain ⟨l2,l3,l4⟩:=wd_sum c0 k5 (by omega) (by omega)
     obtain ⟨l5,l6,l7⟩:=wd_sum c1 l1 (by omega) (by omega)
     refine k_y 16 (by kernel_rfl) Z Z Z (fun _ _=>(y_cadd Z Z l3 l6)) (k_all (is:=[17]) (by kernel_rfl) (by simp) (.cons ?_ .nil))
     refine k_op Z Z Z (Ev.of_y2 (y_assign Z)) ?_
     rintro _ _ ⟨rfl,rfl⟩
     refine k_bar (b_done (by kernel_rfl) (x_draw ?_) (by kernel_rfl))
     refine x_next (csr ((GM Y (g_y (y_add Z Z (by omega)) Z Z (GA Y (gnx ((c_goto (x_jump1 (d4,(⟨(a2.re + (((x - a0.frm) * a9.re) - (0 * a9.im))),(a2.im + (((x - a0.frm) * a9.im) + (0 * a9.re)))⟩:Pr),l2,l5,a1 + 1,j8) (by dsimp only; omega) (.cons Z (.cons Z (.cons Z (.cons Z (.nil _))))) ⟨e3,((a6.t d0).t e4),ET (b9) (ET (IN a3) (ET (opt_some a4) (ET (IN a7) (ET (IN b2) (ET (BE d1) (rfl)))))),by first | omega | assumption | (dsimp only; omega),by first | omega | assumption | (dsimp only; omega),by first | omega | assumption | (dsimp only; omega),by first | omega | assumption | (dsimp only; omega),by first | omega | assumption | (dsimp only; omega),l4,l7⟩)))))))))
 ·refine c_seq (csr ((GM Y ?_)))
  have e7:=bCheck_c (list:=list) hI0.lt h_list
  obtain ⟨l8,c3⟩:∃ r,bCheck list=r:=⟨_,rfl⟩
  rw [c3] at e7
  refine g_e (ev_pure hI0 pf_283 Z e7) Z Z ?_
  rintro _ t6 ⟨t7,d2,l9,rfl⟩
  refine GA Y (gnx ((csr ((GM Y (g_y (y_neq Z Z) Z Z (gnx ((c_cond Z (fun b0=>?_) (fun b0=>?_))))))))))
  ·replace b0:=OT b0
   refine csr ((GM Y (GA Y (GA Y (gnx ((c_ret ?_)))))))
   have m6:pBanded x list=((⟨0,0⟩:Pr),l8):=ET (BE c3) (ET (IP b0) (rfl))
   refine x_thenR (x_jmp0R (x_ret ⟨_,_,rfl,rfl,⟨_,_,rfl,rfl,rfl⟩⟩ ?_))
   exact ⟨_,_,rfl,d2.fr,d2.grow,by rw [m6]; exact ⟨_,rfl,⟨_,_,rfl,wd_zero,wd_zero⟩⟩⟩
  ·replace b0:=OF b0
   refine c_skip (x_next (c_seq (csr ((GM Y (g_e (ev_buildSl (T:=intTy) (xs:=[x]) d2 el_174 ze_2 Z Z (ble Z) (ble Z) (.cons Z Z Z Z (.here _ _ (.nil _)) (ble Z) (.nil _)) (.cons (x:=x) (cs:=[.int .i64 x]) Z .nil)) Z Z ?_))))))
   rintro _ t8 ⟨t9,e8,m7,m8,u0,rfl⟩
   have e9:=mRight_c (list:=[x]) e8.lt m8
   obtain ⟨m9,c4⟩:∃ r,mRight ([x])=r:=⟨_,rfl⟩
   rw [c4] at e9
   have h8r799:m9=true→-100000000000≤x∧x≤100000000000:=by rw [← c4]; exact mRight1
   refine g_e (ev_pure e8 pf_117 Z e9) Z Z ?_
   rintro _ u1 ⟨n0,d3,n1,rfl⟩
   refine g_y (y_not Z) Z Z (gnx ((c_cond Z (fun b3=>?_) (fun b3=>?_))))
   ·replace b3:=not_t b3
    refine csr ((GA Y (GA Y (gnx ((c_ret ?_))))))
    have n2:pBanded x list=((⟨0,0⟩:Pr),10):=ET (BE c3) (ET (IN b0) (ET (BE c4) (ET (cond_f b3) (rfl))))
    refine x_thenR (x_jmp0R (x_ret ⟨_,_,rfl,rfl,⟨_,_,rfl,rfl,rfl⟩⟩ ?_))
    exact ⟨_,_,rfl,d3.fr,d3.grow,by rw [n2]; exact ⟨_,rfl,⟨_,_,rfl,wd_zero,wd_zero⟩⟩⟩
   ·replace b3:=not_f b3
    refine c_skip (x_next (csr ((GA Y (GA Y (gnx ((c_seq (c_label (x_next (hP (list.length + 1,(⟨0,0⟩:Pr),0,0,0,n0) _ _ ⟨d3,((l9.t m7).t n1),ET (BE c3) (ET (IN b0) (ET (BE c4) (ET (cond_t b3) (rfl)))),by first | omega | assumption | (dsimp only; omega) | exact mRight1 (by simp only [*]),by first | omega | assumption | (dsimp only; omega) | exact mRight1 (by simp only [*]),by first | omega | assumption | (dsimp only; omega) | exact mRight1 (by simp only [*]),by first | omega | assumption | (dsimp only; omega) | exact mRight1 (by simp only [*]),by first | omega | assumption | (dsimp only; omega) | exact mRight1 (by simp only [*]),wd_zero,wd_zero⟩ (.cons Z (.cons Z (.cons Z (.cons Z (.nil _))))))))))))))))
def soExact (c:Contrib) (x:Int):Pr × Int:=
 (bnd (pBanded x c.bands) fun a0=>
 (a0.1,a0.2))
theorem soExact_c {c:Contrib} {cs_c:List Value} {x:Int} {d:Dat} {w:World} (hd:∀ b,d b→b < w.heap.size) (h_c:contribTy.rel d w c cs_c):Ret Tryz.prog 319 [.agg cs_c.toArray,.int .i64 x] w [] d (fun u d' w'=>∃ (v0:Value),u=.tuple #[v0,.int .i64 ((soExact c x).2)]∧CxV v0 (soExact c x).1):=by
 obtain ⟨v1,rfl,hS2⟩:=h_c
 obtain ⟨A3,c4,rfl,hn5,hb6⟩:=hS2.fm
 refine ret_enter (n:=12) Tryz.func319 Z Z (ble Z) ?_
 have hI0:=Inv.start hd
 refine csr ((g_e (ev_box hI0 Z) Z Z ?_))
 rintro _ w7 ⟨a8,rfl,hI8,hle9⟩
 refine GA Y (GA Y (gnx ((csr ((GM Y (gfa fo_70_2 Z Z Z (gld sh_34 Z hI8 m0 (i:=2) Z Z Z ?_))))))))
 have a0:=pBanded_c (x:=x) (list:=c.bands) hI8.lt (hS2.mono hle9)
 obtain ⟨a1,a2⟩:∃ r,pBanded x c.bands=r:=⟨_,rfl⟩
 rw [a2] at a0
 refine g_e (ev_pure hI8 pf_340 Z a0) Z Z ?_
 rintro _ a9 ⟨b0,a3,b1,⟨b2,rfl,a4⟩⟩
 obtain ⟨b3,b4,rfl,a5,a6⟩:=a4
 refine g_y (y_extract Z Z) Z Z (g_y (y_extract Z Z) Z Z (GA Y (GA Y (gnx ((c_ret ?_))))))
 have a7:soExact c x=(a1.1,a1.2):=ET (BE a2) (rfl)
 refine x_ret ⟨_,_,rfl,rfl,⟨_,_,rfl,rfl,rfl⟩⟩ (⟨_,_,rfl,a3.fr,a3.grow,by rw [a7]; exact ⟨_,rfl,⟨_,_,rfl,a5,a6⟩⟩⟩)
def pCoins (p:Pr) (mode:Int):Share × Int:=
 (bnd (pSides p) fun a0=>
 (if (a0.2.2≠0) then ((⟨0,0⟩:Share),a0.2.2)
 else (bnd (fRound a0.1 10000 mode) fun a1=>
 (if (a1.2≠0) then ((⟨0,0⟩:Share),a1.2)
 else (bnd (fRound a0.2.1 10000 mode) fun a2=>
 (if (a2.2≠0) then ((⟨0,0⟩:Share),a2.2)
 else ((⟨a1.1,a2.1⟩:Share),0)))))))
theorem pCoins_c {p:Pr} {v_p:Value} {mode:Int} {d:Dat} {w:World} (hd:∀ b,d b→b < w.heap.size) (h_p:CxV v_p p):Ret Tryz.prog 320 [v_p,.int .i64 mode] w [] d (fun u d' w'=>u=.tuple #[.agg #[.int .i64 ((pCoins p mode).1.ee),.int .i64 ((pCoins p mode).1.er)],.int .i64 ((pCoins p mode).2)]):=by
 obtain ⟨a1,b2,rfl,hw3,hw4⟩:=h_p
 refine ret_enter (n:=44) Tryz.func320 Z Z (ble Z) ?_
 have hI0:=Inv.start hd
 refine csr ((g_e (ev_alloc hI0 ze_68) Z Z ?_))
 rintro _ w5 ⟨b8,rfl,hI6,hle7⟩
 refine GA Y (gnx ((csr ((GM Y ?_)))))
 have hq9:=pSides_c (p:=p) hI6.lt ⟨_,_,rfl,hw3,hw4⟩
 obtain ⟨a4,a5⟩:∃ r,pSides p=r:=⟨_,rfl⟩
 rw [a5] at hq9
 refine g_e (ev_pure hI6 pf_302 Z hq9) Z Z ?_
 rintro _ c5 ⟨c6,a7,c7,rfl⟩
 refine GM Y (g_y (y_extract Z Z) Z Z (g_y (y_extract Z Z) Z Z (g_y (y_extract Z Z) Z Z (GA Y (GA Y (GA Y (gnx ((c_seq (csr ((GM Y (g_y (y_neq Z Z) Z Z ?_)))))))))))))
 refine gnx ((c_cond Z (fun a0=>?_) (fun a0=>?_)))
 ·replace a0:=OT a0
  refine csr ((g_y (y_build ze_68 pl_68 (.nil _)) Z Z (GM Y (g_e (ev_store a7 Z Z Z sz_68 Z (.here _ _ (.here _ _ (.nil _))) (.hd _)) Z Z ?_))))
  rintro _ c8 ⟨a8,c9⟩
  refine GA Y (gnx ((c_ret ?_)))
  have c1:pCoins p mode=((⟨0,0⟩:Share),a4.2.2):=ET (BE a5) (ET (IP a0) (rfl))
  refine x_thenR (x_ret ⟨_,_,_,rfl,rfl,blk_cells a8 m0,sh_68,⟨_,_,rfl,rfl,rfl⟩⟩ ?_)
  exact ⟨_,_,rfl,a8.fr,a8.grow,by rw [c1]; exact rfl⟩
 ·replace a0:=OF a0
  refine c_skip (x_next (csr ((GM Y (GM Y ?_)))))
  have b5:=fRound_c (n:=a4.1) (q:=10000) (mode:=mode) a7.lt
  obtain ⟨b6,a6⟩:∃ r,fRound a4.1 10000 mode=r:=⟨_,rfl⟩
  rw [a6] at b5
  refine g_e (ev_pure a7 pf_259 Z b5) Z Z ?_
  rintro _ d0 ⟨d1,a9,d2,rfl⟩
  refine GM Y (g_y (y_extract Z Z) Z Z (g_y (y_extract Z Z) Z Z (GA Y (GA Y (gnx ((c_seq (csr ((GM Y (g_y (y_neq Z Z) Z Z (gnx (?_)))))))))))))
  refine c_cond Z (fun a2=>?_) (fun a2=>?_)
  ·replace a2:=OT a2
   refine csr ((g_y (y_build ze_68 pl_68 (.nil _)) Z Z (GM Y (g_e (ev_store a9 Z Z Z sz_68 Z (.here _ _ (.here _ _ (.nil _))) (.hd _)) Z Z ?_))))
   rintro _ d3 ⟨b0,d4⟩
   refine GA Y (gnx ((c_ret ?_)))
   have c2:pCoins p mode=((⟨0,0⟩:Share),b6.2):=ET (BE a5) (ET (IN a0) (ET (BE a6) (ET (IP a2) (rfl))))
   refine x_thenR (x_ret ⟨_,_,_,rfl,rfl,blk_cells b0 m0,sh_68,⟨_,_,rfl,rfl,rfl⟩⟩ ?_)
   exact ⟨_,_,rfl,b0.fr,b0.grow,by rw [c2]; exact rfl⟩
  ·replace a2:=OF a2
   refine c_skip (x_next (csr ((GM Y (GM Y ?_)))))
   have b7:=fRound_c (n:=a4.2.1) (q:=10000) (mode:=mode) a9.lt
   obtain ⟨b9,b1⟩:∃ r,fRound a4.2.1 10000 mode=r:=⟨_,rfl⟩
   rw [b1] at b7
   refine g_e (ev_pure a9 pf_259 Z b7) Z Z ?_
   rintro _ d5 ⟨d6,c0,d7,rfl⟩
   refine GM Y (g_y (y_extract Z Z) Z Z (g_y (y_extract Z Z) Z Z (GA Y (GA Y (gnx ((c_seq (csr ((GM Y (g_y (y_neq Z Z) Z Z (gnx (?_)))))))))))))
   refine c_cond Z (fun a3=>?_) (fun a3=>?_)
   ·replace a3:=OT a3
    refine csr ((g_y (y_build ze_68 pl_68 (.nil _)) Z Z (GM Y (g_e (ev_store c0 Z Z Z sz_68 Z (.here _ _ (.here _ _ (.nil _))) (.hd _)) Z Z ?_))))
    rintro _ d8 ⟨b3,d9⟩
    refine GA Y (gnx ((c_ret ?_)))
    have c3:pCoins p mode=((⟨0,0⟩:Share),b9.2):=ET (BE a5) (ET (IN a0) (ET (BE a6) (ET (IN a2) (ET (BE b1) (ET (IP a3) (rfl))))))
    refine x_thenR (x_ret ⟨_,_,_,rfl,rfl,blk_cells b3 m0,sh_68,⟨_,_,rfl,rfl,rfl⟩⟩ ?_)
    exact ⟨_,_,rfl,b3.fr,b3.grow,by rw [c3]; exact rfl⟩
   ·replace a3:=OF a3
    refine c_skip (x_next (csr ((GM Y (GM Y (g_y (y_build ze_68 pl_68 (.cons Z Z Z Z (.here _ _ (.nil _)) (ble Z) (.cons Z Z Z Z (.next _ (.here _ _ (.nil _))) (ble Z) (.nil _)))) Z Z (g_e (ev_store c0 Z Z Z sz_68 Z (.here _ _ (.here _ _ (.nil _))) (.hd _)) Z Z ?_)))))))
    rintro _ e0 ⟨b4,e1⟩
    refine GA Y (gnx ((c_ret ?_)))
    have c4:pCoins p mode=((⟨b6.1,b9.1⟩:Share),0):=ET (BE a5) (ET (IN a0) (ET (BE a6) (ET (IN a2) (ET (BE b1) (ET (IN a3) (rfl))))))
    refine x_ret ⟨_,_,_,rfl,rfl,blk_cells b4 m0,sh_68,⟨_,_,rfl,rfl,rfl⟩⟩ (⟨_,_,rfl,b4.fr,b4.grow,by rw [c4]; exact rfl⟩)
def soDue (c:Contrib) (x:Int):Share × Int:=
 (bnd (soExact c x) fun a0=>
 (if (a0.2≠0) then ((⟨0,0⟩:Share),a0.2)
 else (bnd (pCoins a0.1 c.round) fun a1=>
 (a1.1,a1.2))))
theorem soDue_c {c:Contrib} {cs_c:List Value} {x:Int} {d:Dat} {w:World} (hd:∀ b,d b→b < w.heap.size) (h_c:contribTy.rel d w c cs_c):Ret Tryz.prog 296 [.agg cs_c.toArray,.int .i64 x] w [] d (fun u d' w'=>u=.tuple #[.agg #[.int .i64 ((soDue c x).1.ee),.int .i64 ((soDue c x).1.er)],.int .i64 ((soDue c x).2)]):=by
 obtain ⟨v1,rfl,hS2⟩:=h_c
 obtain ⟨A3,c4,rfl,hn5,hb6⟩:=hS2.fm
 refine ret_enter (n:=24) Tryz.func296 Z Z (ble Z) ?_
 have hI0:=Inv.start hd
 refine csr ((g_e (ev_box hI0 Z) Z Z ?_))
 rintro _ w7 ⟨b8,rfl,hI8,hle9⟩
 refine g_e (ev_alloc hI8 ze_68) Z Z ?_
 rintro _ b9 ⟨c0,rfl,a2,b1⟩
 refine GA Y (gnx ((csr ((g_y (y_loadA (cs:=[.string c.name,.int .i64 c.base,.slice A3 (c.bands).length c4,.int .i64 c.pceil,.int .i64 c.yceil,.int .i64 c.round]) sh_70 Z ((blk_cells a2 m1).part (f:=0) (.take _ (.take _ (.take _ (.take _ (.take _ (.take _ (.nil _))))))))) Z Z (GM Y ?_))))))
 have a7:=soExact_c (c:=c) (x:=x) a2.lt (show contribTy.rel _ _ c _ from ⟨_,rfl,(hS2.mono (hle9.t b1))⟩)
 obtain ⟨a3,a4⟩:∃ r,soExact c x=r:=⟨_,rfl⟩
 rw [a4] at a7
 refine g_e (ev_pure a2 pf_319 Z a7) Z Z ?_
 rintro _ c1 ⟨c2,a1,c3,⟨c5,rfl,b2⟩⟩
 obtain ⟨c6,c7,rfl,b3,b4⟩:=b2
 refine GM Y (g_y (y_extract Z Z) Z Z (g_y (y_extract Z Z) Z Z (GA Y (GA Y (gnx ((c_seq (csr ((GM Y (g_y (y_neq Z Z) Z Z (gnx (?_)))))))))))))
 refine c_cond Z (fun a0=>?_) (fun a0=>?_)
 ·replace a0:=OT a0
  refine csr ((g_y (y_build ze_68 pl_68 (.nil _)) Z Z (GM Y (g_e (ev_store a1 Z Z Z sz_68 Z (.here _ _ (.here _ _ (.nil _))) (.hd _)) Z Z ?_))))
  rintro _ c8 ⟨a5,c9⟩
  refine GA Y (gnx ((c_ret ?_)))
  have b5:soDue c x=((⟨0,0⟩:Share),a3.2):=ET (BE a4) (ET (IP a0) (rfl))
  refine x_thenR (x_ret ⟨_,_,_,rfl,rfl,blk_cells a5 m0,sh_68,⟨_,_,rfl,rfl,rfl⟩⟩ ?_)
  exact ⟨_,_,rfl,a5.fr,a5.grow,by rw [b5]; exact rfl⟩
 ·replace a0:=OF a0
  refine c_skip (x_next (csr ((GM Y (gfa fo_70_5 Z Z Z (gld sh_3 Z a1 m1 (i:=5) Z Z Z ?_))))))
  have a8:=pCoins_c (p:=a3.1) (mode:=c.round) a1.lt ⟨_,_,rfl,b3,b4⟩
  obtain ⟨a9,b0⟩:∃ r,pCoins a3.1 c.round=r:=⟨_,rfl⟩
  rw [b0] at a8
  refine g_e (ev_pure a1 pf_320 Z a8) Z Z ?_
  rintro _ d0 ⟨d1,b6,d2,rfl⟩
  refine g_y (y_extract Z Z) Z Z (g_y (y_extract Z Z) Z Z (g_e (ev_store b6 Z Z Z sz_68 Z (.here _ _ (.here _ _ (.nil _))) (.hd _)) Z Z ?_))
  rintro _ d3 ⟨a6,d4⟩
  refine GA Y (gnx ((c_ret ?_)))
  have b7:soDue c x=(a9.1,a9.2):=ET (BE a4) (ET (IN a0) (ET (BE b0) (rfl)))
  refine x_ret ⟨_,_,_,rfl,rfl,blk_cells a6 m0,sh_68,⟨_,_,rfl,rfl,rfl⟩⟩ (⟨_,_,rfl,a6.fr,a6.grow,by rw [b7]; exact rfl⟩)
def pOf (ee:Int) (er:Int):Pr × Int:=
 (if (9007199254740992 < ee) then ((⟨0,0⟩:Pr),10)
 else (if (ee < (-9007199254740992)) then ((⟨0,0⟩:Pr),10)
 else (if (9007199254740992 < er) then ((⟨0,0⟩:Pr),10)
 else (if (er < (-9007199254740992)) then ((⟨0,0⟩:Pr),10)
 else ((⟨ee,er⟩:Pr),0)))))
theorem pOf_c {ee:Int} {er:Int} {d:Dat} {w:World} (hd:∀ b,d b→b < w.heap.size) (h1:-1000000000000≤ee∧ee≤1000000000000) (h2:-1000000000000≤er∧er≤1000000000000):Ret Tryz.prog 322 [.int .i64 ee,.int .i64 er] w [] d (fun u d' w'=>∃ (v0:Value),u=.tuple #[v0,.int .i64 ((pOf ee er).2)]∧CxV v0 (pOf ee er).1):=by
 refine ret_enter (n:=25) Tryz.func322 Z Z (ble Z) ?_
 have hI0:=Inv.start hd
 refine csr ((GA Y (GA Y (gnx ((c_seq (csr ((GM Y (g_y (y_gtr Z Z) Z Z (GM Y (g_split (t:=8) Z (fun hg5=>?_) (fun hg5=>?_)))))))))))))
 ·replace hg5:=OT hg5
  refine gsk Z Z (gsk Z Z (g_y (y_pickT Z Z) Z Z (GM Y (gsk Z Z (gsk Z Z (g_y (y_pickT Z Z) Z Z (GM Y (gsk Z Z (gsk Z Z (g_y (y_pickT Z Z) Z Z (gnx ((c_condT Z ?_)))))))))))))
  refine csr ((GA Y (GA Y (gnx ((c_ret ?_))))))
  have hF6:pOf ee er=((⟨0,0⟩:Pr),10):=ET (IP hg5) (rfl)
  refine x_thenR (x_ret ⟨_,_,rfl,rfl,⟨_,_,rfl,rfl,rfl⟩⟩ ?_)
  exact ⟨_,_,rfl,hI0.fr,hI0.grow,by rw [hF6]; exact ⟨_,rfl,⟨_,_,rfl,wd_zero,wd_zero⟩⟩⟩
 ·replace hg5:=OF hg5
  refine GM Y (g_y (y_lss Z Z) Z Z (g_y (y_pickF Z Z) Z Z (GM Y (g_split (t:=12) Z (fun hg7=>?_) (fun hg7=>?_)))))
  ·replace hg7:=OT hg7
   refine gsk Z Z (gsk Z Z (g_y (y_pickT Z Z) Z Z (GM Y (gsk Z Z (gsk Z Z (g_y (y_pickT Z Z) Z Z (gnx ((c_condT Z (csr ((GA Y (GA Y ?_)))))))))))))
   refine gnx ((c_ret ?_))
   have hF8:pOf ee er=((⟨0,0⟩:Pr),10):=ET (IN hg5) (ET (IP hg7) (rfl))
   refine x_thenR (x_ret ⟨_,_,rfl,rfl,⟨_,_,rfl,rfl,rfl⟩⟩ ?_)
   exact ⟨_,_,rfl,hI0.fr,hI0.grow,by rw [hF8]; exact ⟨_,rfl,⟨_,_,rfl,wd_zero,wd_zero⟩⟩⟩
  ·replace hg7:=OF hg7
   refine GM Y (g_y (y_gtr Z Z) Z Z (g_y (y_pickF Z Z) Z Z (GM Y (g_split (t:=16) Z (fun hg9=>?_) (fun hg9=>?_)))))
   ·replace hg9:=OT hg9
    refine gsk Z Z (gsk Z Z (g_y (y_pickT Z Z) Z Z (gnx ((c_condT Z (csr ((GA Y (GA Y (gnx ((c_ret ?_))))))))))))
    have a1:pOf ee er=((⟨0,0⟩:Pr),10):=ET (IN hg5) (ET (IN hg7) (ET (IP hg9) (rfl)))
    refine x_thenR (x_ret ⟨_,_,rfl,rfl,⟨_,_,rfl,rfl,rfl⟩⟩ ?_)
    exact ⟨_,_,rfl,hI0.fr,hI0.grow,by rw [a1]; exact ⟨_,rfl,⟨_,_,rfl,wd_zero,wd_zero⟩⟩⟩
   ·replace hg9:=OF hg9
    refine GM Y (g_y (y_lss Z Z) Z Z (g_y (y_pickF Z Z) Z Z (gnx ((c_cond Z (fun a0=>?_) (fun a0=>?_))))))
    ·replace a0:=OT a0
     refine csr ((GA Y (GA Y (gnx ((c_ret ?_))))))
     have a2:pOf ee er=((⟨0,0⟩:Pr),10):=ET (IN hg5) (ET (IN hg7) (ET (IN hg9) (ET (IP a0) (rfl))))
     refine x_thenR (x_ret ⟨_,_,rfl,rfl,⟨_,_,rfl,rfl,rfl⟩⟩ ?_)
     exact ⟨_,_,rfl,hI0.fr,hI0.grow,by rw [a2]; exact ⟨_,rfl,⟨_,_,rfl,wd_zero,wd_zero⟩⟩⟩
    ·replace a0:=OF a0
     refine c_skip (x_next (csr ((GM Y ?_))))
     have a3:=wd_ofInt (i:=ee) (by omega) (by omega)
     refine g_y (y_i2f (by rw [Tryz.underlying2]; rfl) Tryz.underlying446 Z) Z Z (GM Y ?_)
     have a4:=wd_ofInt (i:=er) (by omega) (by omega)
     refine g_y (y_i2f (by rw [Tryz.underlying2]; rfl) Tryz.underlying446 Z) Z Z (g_y (y_complex Z Z) Z Z (GA Y (GA Y (gnx ((c_ret ?_))))))
     have a5:pOf ee er=((⟨ee,er⟩:Pr),0):=ET (IN hg5) (ET (IN hg7) (ET (IN hg9) (ET (IN a0) (rfl))))
     refine x_ret ⟨_,_,rfl,rfl,⟨_,_,rfl,rfl,rfl⟩⟩ (⟨_,_,rfl,hI0.fr,hI0.grow,by rw [a5]; exact ⟨_,rfl,⟨_,_,rfl,a3,a4⟩⟩⟩)
def pShare (s:Share):Pr × Int:=
 (bnd (pOf s.ee s.er) fun r6=>
 (r6.1,r6.2))
theorem pShare_c {s:Share} {d:Dat} {w:World} (hd:∀ b,d b→b < w.heap.size) (h1:-1000000000000≤s.ee∧s.ee≤1000000000000) (h2:-1000000000000≤s.er∧s.er≤1000000000000):Ret Tryz.prog 300 [.agg #[.int .i64 s.ee,.int .i64 s.er]] w [] d (fun u d' w'=>∃ (v0:Value),u=.tuple #[v0,.int .i64 ((pShare s).2)]∧CxV v0 (pShare s).1):=by
 refine ret_enter (n:=11) Tryz.func300 Z Z (ble Z) ?_
 have hI0:=Inv.start hd
 refine csr ((g_e (ev_box hI0 Z) Z Z ?_))
 rintro _ w1 ⟨b4,rfl,hI2,hle3⟩
 refine GA Y (GA Y (gnx ((csr ((gfa fo_68_0 Z Z Z (gld sh_2 Z hI2 m0 (i:=0) Z Z Z (gfa fo_68_1 Z Z Z (gld sh_2 Z hI2 m0 (i:=1) Z Z Z ?_)))))))))
 have hq5:=pOf_c (ee:=s.ee) (er:=s.er) hI2.lt (by first | omega | (simp only [LA,LC,LN]; omega)) (by first | omega | (simp only [LA,LC,LN]; omega))
 obtain ⟨r6,hr7⟩:∃ r,pOf s.ee s.er=r:=⟨_,rfl⟩
 rw [hr7] at hq5
 refine g_e (ev_pure hI2 pf_322 Z hq5) Z Z ?_
 rintro _ w9 ⟨d8,a0,a5,⟨a6,rfl,a1⟩⟩
 obtain ⟨a7,a8,rfl,a2,a3⟩:=a1
 refine g_y (y_extract Z Z) Z Z (g_y (y_extract Z Z) Z Z (GA Y (GA Y (gnx ((c_ret ?_))))))
 have a4:pShare s=(r6.1,r6.2):=ET (BE hr7) (rfl)
 refine x_ret ⟨_,_,rfl,rfl,⟨_,_,rfl,rfl,rfl⟩⟩ (⟨_,_,rfl,a0.fr,a0.grow,by rw [a4]; exact ⟨_,rfl,⟨_,_,rfl,a2,a3⟩⟩⟩)
def pAdd2 (list0:Pr) (list1:Pr):Pr × Int:=
 (bnd (pRight list0) fun a0=>
 (cond a0 ((bnd (pRight ((⟨(0 + list0.re),(0 + list0.im)⟩:Pr))) fun a1=>
 (cond a1 ((bnd (pRight list1) fun a2=>
 (cond a2 ((bnd (pRight ((⟨((0 + list0.re) + list1.re),((0 + list0.im) + list1.im)⟩:Pr))) fun a3=>
 (cond a3 (((⟨((0 + list0.re) + list1.re),((0 + list0.im) + list1.im)⟩:Pr),0))
 (((⟨0,0⟩:Pr),10)))))
 (((⟨0,0⟩:Pr),10)))))
 (((⟨0,0⟩:Pr),10)))))
 (((⟨0,0⟩:Pr),10))))
theorem pAdd2_c {list0:Pr} {list1:Pr} {v_list:Value} {d:Dat} {w:World} (hd:∀ b,d b→b < w.heap.size) (h_list:Sl prTy d w v_list [list0,list1]) (h1:(-1000000000000≤list0.re∧list0.re≤1000000000000)∧(-1000000000000≤list0.im∧list0.im≤1000000000000)) (h2:(-1000000000000≤list1.re∧list1.re≤1000000000000)∧(-1000000000000≤list1.im∧list1.im≤1000000000000)):Ret Tryz.prog 323 [v_list] w [] d (fun u d' w'=>∃ (v0:Value),u=.tuple #[v0,.int .i64 ((pAdd2 list0 list1).2)]∧CxV v0 (pAdd2 list0 list1).1):=by
 obtain ⟨A3,c4,rfl,hn1,hb2⟩:=h_list.fm
 have hl_list:[list0,list1].length=2:=rfl
 refine ret_enter (n:=24) Tryz.func323 Z Z (ble Z) ?_
 have hI0:=Inv.start hd
 refine csr ((GA Y (GA Y (gnx ((csr ((GA Y (gnx ((c_seq (csr (?_)))))))))))))
 refine GM Y (gln el_464 Z Z Z (GM Y (gnx ((c_block (c_loop_n 2 (csr ((g_y (y_lss Z Z) Z Z (gnx ((c_seq (c_condT Z ?_)))))))))))))
 refine c_skip (x_next (c_seq (c_block (csr (?_)))))
 obtain ⟨e4,e5,e6,c5,c6,c7,e7⟩:=Sl.at_ h_list (show ([list0,list1])[0]?=some list0 from rfl)
 obtain ⟨e8,rfl,c8⟩:=c6
 obtain ⟨e9,f0,rfl,b2,b3⟩:=c8
 refine g_y (y_indexAddr (i:=0) el_464 Z c5 Z (rfl) (by omega)) Z Z (g_y (y_load1 sh_419 Z (c7.nth_ (i:=0) Z)) Z Z (GA Y (gnx ((c_seq (csr ((GM Y ?_))))))))
 have b4:=pRight_c (p:=list0) hI0.lt ⟨_,_,rfl,b2,b3⟩
 obtain ⟨f1,a4⟩:∃ r,pRight list0=r:=⟨_,rfl⟩
 rw [a4] at b4
 refine g_e (ev_pure hI0 pf_324 Z b4) Z Z ?_
 rintro _ f2 ⟨f3,a6,c9,rfl⟩
 refine g_y (y_not Z) Z Z (gnx ((c_cond Z (fun a0=>?_) (fun a0=>?_))))
 ·replace a0:=not_t a0
  refine csr ((GA Y (GA Y (gnx ((c_ret ?_))))))
  have d0:pAdd2 list0 list1=((⟨0,0⟩:Pr),10):=ET (BE a4) (ET (cond_f a0) (rfl))
  refine x_thenR (x_blockR (x_thenR (x_thenR (x_blockR (x_thenR (x_ret ⟨_,_,rfl,rfl,⟨_,_,rfl,rfl,rfl⟩⟩ ?_))))))
  exact ⟨_,_,rfl,a6.fr,a6.grow,by rw [d0]; exact ⟨_,rfl,⟨_,_,rfl,wd_zero,wd_zero⟩⟩⟩
 ·replace a0:=not_f a0
  refine c_skip (x_next (csr ((GM Y (GM Y ?_)))))
  obtain ⟨f4,d1,b5⟩:=wd_sum wd_zero b2 (by omega) (by omega)
  obtain ⟨f5,d2,b6⟩:=wd_sum wd_zero b3 (by omega) (by omega)
  refine g_y (y_cadd Z Z d1 d2) Z Z (GA Y (gnx ((csr ((GM Y ?_))))))
  have b7:=pRight_c (p:=(⟨(0 + list0.re),(0 + list0.im)⟩:Pr)) a6.lt ⟨_,_,rfl,b5,b6⟩
  obtain ⟨f6,a5⟩:∃ r,pRight ((⟨(0 + list0.re),(0 + list0.im)⟩:Pr))=r:=⟨_,rfl⟩
  rw [a5] at b7
  refine g_e (ev_pure a6 pf_324 Z b7) Z Z ?_
  rintro _ f7 ⟨f8,a7,d3,rfl⟩
  refine g_y (y_not Z) Z Z (gnx ((c_cond Z (fun a1=>?_) (fun a1=>?_))))
  ·replace a1:=not_t a1
   refine csr ((GA Y (GA Y (gnx ((c_ret ?_))))))
   have d4:pAdd2 list0 list1=((⟨0,0⟩:Pr),10):=ET (BE a4) (ET (cond_t a0) (ET (BE a5) (ET (cond_f a1) (rfl))))
   refine x_blockR (x_thenR (x_thenR (x_blockR (x_thenR (x_ret ⟨_,_,rfl,rfl,⟨_,_,rfl,rfl,rfl⟩⟩ ?_)))))
   exact ⟨_,_,rfl,a7.fr,a7.grow,by rw [d4]; exact ⟨_,rfl,⟨_,_,rfl,wd_zero,wd_zero⟩⟩⟩
  ·replace a1:=not_f a1
   refine c_skip (x_blockN (x_next ?_))
   refine c_region (g_y (y_add Z Z (by omega)) Z Z (GM Y (g_nil (x_again (csr ((g_y (y_lss Z Z) Z Z (gnx ((c_seq (c_condT Z (c_skip (x_next ?_)))))))))))))
   refine c_seq (c_block (csr (?_)))
   obtain ⟨f9,g0,g1,d5,d6,d7,g2⟩:=Sl.at_ (h_list.mono (c9.t d3)) (show ([list0,list1])[1]?=some list1 from rfl)
   obtain ⟨g3,rfl,d8⟩:=d6
   obtain ⟨g4,g5,rfl,b8,b9⟩:=d8
   refine g_y (y_indexAddr (i:=1) el_464 Z d5 Z (rfl) (by omega)) Z Z (g_y (y_load1 sh_419 Z (d7.nth_ (i:=0) Z)) Z Z (GA Y (gnx ((c_seq (csr ((GM Y ?_))))))))
   have c0:=pRight_c (p:=list1) a7.lt ⟨_,_,rfl,b8,b9⟩
   obtain ⟨g6,a8⟩:∃ r,pRight list1=r:=⟨_,rfl⟩
   rw [a8] at c0
   refine g_e (ev_pure a7 pf_324 Z c0) Z Z ?_
   rintro _ g7 ⟨g8,a9,g9,rfl⟩
   refine g_y (y_not Z) Z Z (gnx ((c_cond Z (fun a2=>?_) (fun a2=>?_))))
   ·replace a2:=not_t a2
    refine csr ((GA Y (GA Y (gnx ((c_ret ?_))))))
    have d9:pAdd2 list0 list1=((⟨0,0⟩:Pr),10):=ET (BE a4) (ET (cond_t a0) (ET (BE a5) (ET (cond_t a1) (ET (BE a8) (ET (cond_f a2) (rfl))))))
    refine x_thenR (x_blockR (x_thenR (x_thenR (x_blockR (x_thenR (x_ret ⟨_,_,rfl,rfl,⟨_,_,rfl,rfl,rfl⟩⟩ ?_))))))
    exact ⟨_,_,rfl,a9.fr,a9.grow,by rw [d9]; exact ⟨_,rfl,⟨_,_,rfl,wd_zero,wd_zero⟩⟩⟩
   ·replace a2:=not_f a2
    refine c_skip (x_next (csr ((GM Y (GM Y ?_)))))
    obtain ⟨h0,e0,c1⟩:=wd_sum b5 b8 (by omega) (by omega)
    obtain ⟨h3,e1,c2⟩:=wd_sum b6 b9 (by omega) (by omega)
    refine g_y (y_cadd Z Z e0 e1) Z Z (GA Y (gnx ((csr ((GM Y ?_))))))
    have c3:=pRight_c (p:=(⟨((0 + list0.re) + list1.re),((0 + list0.im) + list1.im)⟩:Pr)) a9.lt ⟨_,_,rfl,c1,c2⟩
    obtain ⟨h4,b1⟩:∃ r,pRight ((⟨((0 + list0.re) + list1.re),((0 + list0.im) + list1.im)⟩:Pr))=r:=⟨_,rfl⟩
    rw [b1] at c3
    refine g_e (ev_pure a9 pf_324 Z c3) Z Z ?_
    rintro _ h5 ⟨h6,b0,h7,rfl⟩
    refine g_y (y_not Z) Z Z (gnx ((c_cond Z (fun a3=>?_) (fun a3=>?_))))
    ·replace a3:=not_t a3
     refine csr ((GA Y (GA Y (gnx ((c_ret ?_))))))
     have e2:pAdd2 list0 list1=((⟨0,0⟩:Pr),10):=ET (BE a4) (ET (cond_t a0) (ET (BE a5) (ET (cond_t a1) (ET (BE a8) (ET (cond_t a2) (ET (BE b1) (ET (cond_f a3) (rfl))))))))
     refine x_blockR (x_thenR (x_thenR (x_blockR (x_thenR (x_ret ⟨_,_,rfl,rfl,⟨_,_,rfl,rfl,rfl⟩⟩ ?_)))))
     exact ⟨_,_,rfl,b0.fr,b0.grow,by rw [e2]; exact ⟨_,rfl,⟨_,_,rfl,wd_zero,wd_zero⟩⟩⟩
    ·replace a3:=not_f a3
     refine c_skip (x_blockN (x_next ?_))
     refine c_region (g_y (y_add Z Z (by omega)) Z Z (GM Y (g_nil (x_again (csr ((g_y (y_lss Z Z) Z Z (gnx ((c_seq (c_condF Z (c_exit (x_thenE (x_thenE (x_blockE (x_next ?_))))))))))))))))
     refine csr ((GM Y (GA Y (GA Y (gnx ((c_ret ?_)))))))
     have e3:pAdd2 list0 list1=((⟨((0 + list0.re) + list1.re),((0 + list0.im) + list1.im)⟩:Pr),0):=ET (BE a4) (ET (cond_t a0) (ET (BE a5) (ET (cond_t a1) (ET (BE a8) (ET (cond_t a2) (ET (BE b1) (ET (cond_t a3) (rfl))))))))
     refine x_ret ⟨_,_,rfl,rfl,⟨_,_,rfl,rfl,rfl⟩⟩ (⟨_,_,rfl,b0.fr,b0.grow,by rw [e3]; exact ⟨_,rfl,⟨_,_,rfl,c1,c2⟩⟩⟩)
def pSub (a:Pr) (b:Pr):Pr × Int:=
 (bnd (pAdd2 a ((⟨(-b.re),(-b.im)⟩:Pr))) fun a0=>
 (a0.1,a0.2))
theorem pSub_c {a:Pr} {v_a:Value} {b:Pr} {v_b:Value} {d:Dat} {w:World} (hd:∀ b,d b→b < w.heap.size) (h_a:CxV v_a a) (h_b:CxV v_b b) (h1:(-1000000000000≤a.re∧a.re≤1000000000000)∧(-1000000000000≤a.im∧a.im≤1000000000000)) (h2:(-1000000000000≤b.re∧b.re≤1000000000000)∧(-1000000000000≤b.im∧b.im≤1000000000000)):Ret Tryz.prog 301 [v_a,v_b] w [] d (fun u d' w'=>∃ (v0:Value),u=.tuple #[v0,.int .i64 ((pSub a b).2)]∧CxV v0 (pSub a b).1):=by
 obtain ⟨a1,b2,rfl,hw3,hw4⟩:=h_a
 obtain ⟨a5,b6,rfl,hw7,hw8⟩:=h_b
 refine ret_enter (n:=13) Tryz.func301 Z Z (ble Z) ?_
 have hI0:=Inv.start hd
 refine csr ((GA Y (GA Y (gnx ((csr ((GM Y (GM Y (g_y (y_cneg Z) Z Z (g_e (ev_buildSl (T:=prTy) (xs:=[a,(⟨(-b.re),(-b.im)⟩:Pr)]) hI0 el_464 ze_419 Z Z (ble Z) (ble Z) (.cons Z Z Z Z (.here _ _ (.nil _)) (ble Z) (.cons Z Z Z Z (.next _ (.here _ _ (.nil _))) (ble Z) (.nil _))) (.cons (x:=a) (cs:=[.complex .f64 a1 b2]) ⟨_,rfl,⟨_,_,rfl,hw3,hw4⟩⟩ (.cons (x:=(⟨(-b.re),(-b.im)⟩:Pr)) (cs:=[.complex .f64 ((Op.negFloat .f64 a5)) ((Op.negFloat .f64 b6))]) ⟨_,rfl,⟨_,_,rfl,(wd_neg hw7),(wd_neg hw8)⟩⟩ .nil))) Z Z ?_)))))))))))
 rintro _ b3 ⟨d9,a0,b4,a7,b5,rfl⟩
 have a2:=pAdd2_c (list0:=a) (list1:=(⟨(-b.re),(-b.im)⟩:Pr)) a0.lt a7 (by omega) (by dsimp only; omega)
 obtain ⟨a3,a4⟩:∃ r,pAdd2 a ((⟨(-b.re),(-b.im)⟩:Pr))=r:=⟨_,rfl⟩
 rw [a4] at a2
 refine g_e (ev_pure a0 pf_323 Z a2) Z Z ?_
 rintro _ b7 ⟨b8,a6,b9,⟨c0,rfl,a8⟩⟩
 obtain ⟨c1,c2,rfl,a9,b0⟩:=a8
 refine g_y (y_extract Z Z) Z Z (g_y (y_extract Z Z) Z Z (GA Y (GA Y (gnx ((c_ret ?_))))))
 have b1:pSub a b=(a3.1,a3.2):=ET (BE a4) (rfl)
 refine x_ret ⟨_,_,rfl,rfl,⟨_,_,rfl,rfl,rfl⟩⟩ (⟨_,_,rfl,a6.fr,a6.grow,by rw [b1]; exact ⟨_,rfl,⟨_,_,rfl,a9,b0⟩⟩⟩)
theorem pShare_val {s:Share} (h1:-1000000000000≤s.ee∧s.ee≤1000000000000) (h2:-1000000000000≤s.er∧s.er≤1000000000000):pShare s=(⟨s.ee,s.er⟩,0):=by
 unfold pShare pOf
 simp only [bnd]
 repeat' (first | rfl | (split; (first | (exfalso; omega) | skip)))
 all_goals first | rfl | omega
def shLess (a:Share) (b:Share):Share × Int:=
 (bnd (mRight ([a.ee,a.er,b.ee,b.er])) fun a4=>
 (cond a4 ((bnd (pShare a) fun a1=>
 (if (a1.2≠0) then ((⟨0,0⟩:Share),a1.2)
 else (bnd (pShare b) fun a2=>
 (if (a2.2≠0) then ((⟨0,0⟩:Share),a2.2)
 else (bnd (pSub a1.1 a2.1) fun a3=>
 (if (a3.2≠0) then ((⟨0,0⟩:Share),a3.2)
 else (bnd (pSides a3.1) fun a0=>
 (if (a0.2.2≠0) then ((⟨0,0⟩:Share),10)
 else (bnd (mRight ([a0.1,a0.2.1])) fun a5=>
 (cond a5 (((⟨a0.1,a0.2.1⟩:Share),0))
 (((⟨0,0⟩:Share),10)))))))))))))
 (((⟨0,0⟩:Share),10))))
theorem shLess_c {a:Share} {b:Share} {d:Dat} {w:World} (hd:∀ b,d b→b < w.heap.size):Ret Tryz.prog 271 [.agg #[.int .i64 a.ee,.int .i64 a.er],.agg #[.int .i64 b.ee,.int .i64 b.er]] w [] d (fun u d' w'=>u=.tuple #[.agg #[.int .i64 ((shLess a b).1.ee),.int .i64 ((shLess a b).1.er)],.int .i64 ((shLess a b).2)]):=by
 refine ret_enter (n:=71) Tryz.func271 Z Z (ble Z) ?_
 have hI0:=Inv.start hd
 refine csr ((g_e (ev_box hI0 Z) Z Z ?_))
 rintro _ w1 ⟨b4,rfl,hI2,hle3⟩
 refine g_e (ev_box hI2 Z) Z Z ?_
 rintro _ w5 ⟨b8,rfl,hI6,hle7⟩
 refine g_e (ev_alloc hI6 ze_68) Z Z ?_
 rintro _ w9 ⟨f8,rfl,b0,f9⟩
 refine GA Y (gnx ((c_seq (csr ((gfa fo_68_0 Z Z Z (gld sh_2 Z b0 m2 (i:=0) Z Z Z (gfa fo_68_1 Z Z Z (gld sh_2 Z b0 m2 (i:=1) Z Z Z (gfa fo_68_0 Z Z Z (gld sh_2 Z b0 m1 (i:=0) Z Z Z (gfa fo_68_1 Z Z Z (gld sh_2 Z b0 m1 (i:=1) Z Z Z ?_)))))))))))))
 refine g_e (ev_buildSl (T:=intTy) (xs:=[a.ee,a.er,b.ee,b.er]) b0 el_174 ze_2 Z Z (ble Z) (ble Z) (.cons Z Z Z Z (.here _ _ (.nil _)) (ble Z) (.cons Z Z Z Z (.next _ (.here _ _ (.nil _))) (ble Z) (.cons Z Z Z Z (.next _ (.next _ (.here _ _ (.nil _)))) (ble Z) (.cons Z Z Z Z (.next _ (.next _ (.next _ (.here _ _ (.nil _))))) (ble Z) (.nil _))))) (.cons (x:=a.ee) (cs:=[.int .i64 a.ee]) Z (.cons (x:=a.er) (cs:=[.int .i64 a.er]) Z (.cons (x:=b.ee) (cs:=[.int .i64 b.ee]) Z (.cons (x:=b.er) (cs:=[.int .i64 b.er]) Z .nil))))) Z Z ?_
 rintro _ g0 ⟨g1,d0,g2,e0,g3,rfl⟩
 have d1:=mRight_c (list:=[a.ee,a.er,b.ee,b.er]) d0.lt e0
 obtain ⟨g4,a5⟩:∃ r,mRight ([a.ee,a.er,b.ee,b.er])=r:=⟨_,rfl⟩
 rw [a5] at d1
 refine g_e (ev_pure d0 pf_117 Z d1) Z Z ?_
 rintro _ g5 ⟨g6,b5,g7,rfl⟩
 refine g_y (y_not Z) Z Z (gnx ((c_cond Z (fun a0=>?_) (fun a0=>?_))))
 ·replace a0:=not_t a0
  refine csr ((g_y (y_build ze_68 pl_68 (.nil _)) Z Z (g_e (ev_store b5 Z Z Z sz_68 Z (.here _ _ (.here _ _ (.nil _))) (.hd _)) Z Z ?_)))
  rintro _ g8 ⟨b9,g9⟩
  refine GA Y (gnx ((c_ret ?_)))
  have e1:shLess a b=((⟨0,0⟩:Share),10):=ET (BE a5) (ET (cond_f a0) (rfl))
  refine x_thenR (x_ret ⟨_,_,_,rfl,rfl,blk_cells b9 m0,sh_68,⟨_,_,rfl,rfl,rfl⟩⟩ ?_)
  exact ⟨_,_,rfl,b9.fr,b9.grow,by rw [e1]; exact rfl⟩
 ·replace a0:=not_f a0
  refine c_skip (x_next (csr ((g_y (y_loadA (cs:=[.int .i64 a.ee,.int .i64 a.er]) sh_68 Z ((blk_cells b5 m2).part (f:=0) (.take _ (.take _ (.nil _))))) Z Z ?_))))
  have d2:=pShare_c (s:=a) b5.lt (by have h9:=mRight4 (‹mRight [a.ee,a.er,b.ee,b.er]=_›.trans (by assumption)); omega) (by have h9:=mRight4 (‹mRight [a.ee,a.er,b.ee,b.er]=_›.trans (by assumption)); omega)
  obtain ⟨b1,a6⟩:∃ r,pShare a=r:=⟨_,rfl⟩
  rw [a6] at d2
  have h8r49:b1.1.re=a.ee∧b1.1.im=a.er:=by rw [← a6,pShare_val (by have h9:=mRight4 (‹mRight [a.ee,a.er,b.ee,b.er]=_›.trans (by assumption)); omega) (by have h9:=mRight4 (‹mRight [a.ee,a.er,b.ee,b.er]=_›.trans (by assumption)); omega)]; exact ⟨rfl,rfl⟩
  refine g_e (ev_pure b5 pf_300 Z d2) Z Z ?_
  rintro _ h0 ⟨h1,b6,h2,⟨h3,rfl,e2⟩⟩
  obtain ⟨h4,h5,rfl,e3,e4⟩:=e2
  refine GM Y (g_y (y_extract Z Z) Z Z (g_y (y_extract Z Z) Z Z (GA Y (GA Y (gnx ((c_seq (csr ((GM Y (g_y (y_neq Z Z) Z Z (gnx (?_)))))))))))))
  refine c_cond Z (fun a2=>?_) (fun a2=>?_)
  ·replace a2:=OT a2
   refine csr ((g_y (y_build ze_68 pl_68 (.nil _)) Z Z (GM Y (g_e (ev_store b6 Z Z Z sz_68 Z (.here _ _ (.here _ _ (.nil _))) (.hd _)) Z Z ?_))))
   rintro _ h6 ⟨c0,h7⟩
   refine GA Y (gnx ((c_ret ?_)))
   have e5:shLess a b=((⟨0,0⟩:Share),b1.2):=ET (BE a5) (ET (cond_t a0) (ET (BE a6) (ET (IP a2) (rfl))))
   refine x_thenR (x_ret ⟨_,_,_,rfl,rfl,blk_cells c0 m0,sh_68,⟨_,_,rfl,rfl,rfl⟩⟩ ?_)
   exact ⟨_,_,rfl,c0.fr,c0.grow,by rw [e5]; exact rfl⟩
  ·replace a2:=OF a2
   refine c_skip (x_next (csr ((g_y (y_loadA (cs:=[.int .i64 b.ee,.int .i64 b.er]) sh_68 Z ((blk_cells b6 m1).part (f:=0) (.take _ (.take _ (.nil _))))) Z Z ?_))))
   have d3:=pShare_c (s:=b) b6.lt (by have h9:=mRight4 (‹mRight [a.ee,a.er,b.ee,b.er]=_›.trans (by assumption)); omega) (by have h9:=mRight4 (‹mRight [a.ee,a.er,b.ee,b.er]=_›.trans (by assumption)); omega)
   obtain ⟨b2,a8⟩:∃ r,pShare b=r:=⟨_,rfl⟩
   rw [a8] at d3
   have h8r71:b2.1.re=b.ee∧b2.1.im=b.er:=by rw [← a8,pShare_val (by have h9:=mRight4 (‹mRight [a.ee,a.er,b.ee,b.er]=_›.trans (by assumption)); omega) (by have h9:=mRight4 (‹mRight [a.ee,a.er,b.ee,b.er]=_›.trans (by assumption)); omega)]; exact ⟨rfl,rfl⟩
   refine g_e (ev_pure b6 pf_300 Z d3) Z Z ?_
   rintro _ h8 ⟨i0,c1,i1,⟨i2,rfl,e6⟩⟩
   obtain ⟨i3,i4,rfl,e7,e8⟩:=e6
   refine GM Y (g_y (y_extract Z Z) Z Z (g_y (y_extract Z Z) Z Z (GA Y (GA Y (gnx ((c_seq (csr ((GM Y (g_y (y_neq Z Z) Z Z (gnx (?_)))))))))))))
   refine c_cond Z (fun a3=>?_) (fun a3=>?_)
   ·replace a3:=OT a3
    refine csr ((g_y (y_build ze_68 pl_68 (.nil _)) Z Z (GM Y (g_e (ev_store c1 Z Z Z sz_68 Z (.here _ _ (.here _ _ (.nil _))) (.hd _)) Z Z ?_))))
    rintro _ i5 ⟨c2,i6⟩
    refine GA Y (gnx ((c_ret ?_)))
    have e9:shLess a b=((⟨0,0⟩:Share),b2.2):=ET (BE a5) (ET (cond_t a0) (ET (BE a6) (ET (IN a2) (ET (BE a8) (ET (IP a3) (rfl))))))
    refine x_thenR (x_ret ⟨_,_,_,rfl,rfl,blk_cells c2 m0,sh_68,⟨_,_,rfl,rfl,rfl⟩⟩ ?_)
    exact ⟨_,_,rfl,c2.fr,c2.grow,by rw [e9]; exact rfl⟩
   ·replace a3:=OF a3
    refine c_skip (x_next (csr ((GM Y (GM Y ?_)))))
    have d4:=pSub_c (a:=b1.1) (b:=b2.1) c1.lt ⟨_,_,rfl,e3,e4⟩ ⟨_,_,rfl,e7,e8⟩ (by have h9:=mRight4 (‹mRight [a.ee,a.er,b.ee,b.er]=_›.trans (by assumption)); omega) (by have h9:=mRight4 (‹mRight [a.ee,a.er,b.ee,b.er]=_›.trans (by assumption)); omega)
    obtain ⟨c3,b3⟩:∃ r,pSub b1.1 b2.1=r:=⟨_,rfl⟩
    rw [b3] at d4
    refine g_e (ev_pure c1 pf_301 Z d4) Z Z ?_
    rintro _ i7 ⟨i8,c4,i9,⟨j0,rfl,f0⟩⟩
    obtain ⟨j1,j2,rfl,f1,f2⟩:=f0
    refine GM Y (g_y (y_extract Z Z) Z Z (g_y (y_extract Z Z) Z Z (GA Y (GA Y (gnx ((c_seq (csr ((GM Y (g_y (y_neq Z Z) Z Z (gnx (?_)))))))))))))
    refine c_cond Z (fun a4=>?_) (fun a4=>?_)
    ·replace a4:=OT a4
     refine csr ((g_y (y_build ze_68 pl_68 (.nil _)) Z Z (GM Y (g_e (ev_store c4 Z Z Z sz_68 Z (.here _ _ (.here _ _ (.nil _))) (.hd _)) Z Z ?_))))
     rintro _ j3 ⟨c5,j4⟩
     refine GA Y (gnx ((c_ret ?_)))
     have f3:shLess a b=((⟨0,0⟩:Share),c3.2):=ET (BE a5) (ET (cond_t a0) (ET (BE a6) (ET (IN a2) (ET (BE a8) (ET (IN a3) (ET (BE b3) (ET (IP a4) (rfl))))))))
     refine x_thenR (x_ret ⟨_,_,_,rfl,rfl,blk_cells c5 m0,sh_68,⟨_,_,rfl,rfl,rfl⟩⟩ ?_)
     exact ⟨_,_,rfl,c5.fr,c5.grow,by rw [f3]; exact rfl⟩
    ·replace a4:=OF a4
     refine c_skip (x_next (csr ((GM Y ?_))))
     have d5:=pSides_c (p:=c3.1) c4.lt ⟨_,_,rfl,f1,f2⟩
     obtain ⟨a1,b7⟩:∃ r,pSides c3.1=r:=⟨_,rfl⟩
     rw [b7] at d5
     refine g_e (ev_pure c4 pf_302 Z d5) Z Z ?_
     rintro _ j5 ⟨j6,d6,j7,rfl⟩
     refine GM Y (g_y (y_extract Z Z) Z Z (g_y (y_extract Z Z) Z Z (g_y (y_extract Z Z) Z Z (GA Y (GA Y (GA Y (gnx ((c_seq (csr ((GM Y (g_y (y_neq Z Z) Z Z ?_)))))))))))))
     refine GM Y (g_split (t:=60) Z (fun a7=>?_) (fun a7=>?_))
     ·replace a7:=OT a7
      refine gsk Z Z (gsk Z Z (gsk Z Z (gsk Z Z (gsk Z Z (g_y (y_pickT Z Z) Z Z (gnx ((c_condT Z (csr ((g_y (y_build ze_68 pl_68 (.nil _)) Z Z (g_e (ev_store d6 Z Z Z sz_68 Z (.here _ _ (.here _ _ (.nil _))) (.hd _)) Z Z ?_))))))))))))
      rintro _ j8 ⟨c6,j9⟩
      refine GA Y (gnx ((c_ret ?_)))
      have f4:shLess a b=((⟨0,0⟩:Share),10):=ET (BE a5) (ET (cond_t a0) (ET (BE a6) (ET (IN a2) (ET (BE a8) (ET (IN a3) (ET (BE b3) (ET (IN a4) (ET (BE b7) (ET (IP a7) (rfl))))))))))
      refine x_thenR (x_ret ⟨_,_,_,rfl,rfl,blk_cells c6 m0,sh_68,⟨_,_,rfl,rfl,rfl⟩⟩ ?_)
      exact ⟨_,_,rfl,c6.fr,c6.grow,by rw [f4]; exact rfl⟩
     ·replace a7:=OF a7
      refine GM Y (GM Y (g_e (ev_buildSl (T:=intTy) (xs:=[a1.1,a1.2.1]) d6 el_174 ze_2 Z Z (ble Z) (ble Z) (.cons Z Z Z Z (.here _ _ (.nil _)) (ble Z) (.cons Z Z Z Z (.next _ (.here _ _ (.nil _))) (ble Z) (.nil _))) (.cons (x:=a1.1) (cs:=[.int .i64 a1.1]) Z (.cons (x:=a1.2.1) (cs:=[.int .i64 a1.2.1]) Z .nil))) Z Z ?_))
      rintro _ k0 ⟨k1,d7,k2,f5,k3,rfl⟩
      have d8:=mRight_c (list:=[a1.1,a1.2.1]) d7.lt f5
      obtain ⟨k4,c7⟩:∃ r,mRight ([a1.1,a1.2.1])=r:=⟨_,rfl⟩
      rw [c7] at d8
      refine g_e (ev_pure d7 pf_117 Z d8) Z Z ?_
      rintro _ k5 ⟨k6,d9,k7,rfl⟩
      refine g_y (y_not Z) Z Z (g_y (y_pickF Z Z) Z Z (gnx ((c_cond Z (fun a9=>?_) (fun a9=>?_)))))
      ·replace a9:=not_t a9
       refine csr ((g_y (y_build ze_68 pl_68 (.nil _)) Z Z (g_e (ev_store d9 Z Z Z sz_68 Z (.here _ _ (.here _ _ (.nil _))) (.hd _)) Z Z ?_)))
       rintro _ k8 ⟨c8,k9⟩
       refine GA Y (gnx ((c_ret ?_)))
       have f6:shLess a b=((⟨0,0⟩:Share),10):=ET (BE a5) (ET (cond_t a0) (ET (BE a6) (ET (IN a2) (ET (BE a8) (ET (IN a3) (ET (BE b3) (ET (IN a4) (ET (BE b7) (ET (IN a7) (ET (BE c7) (ET (cond_f a9) (rfl))))))))))))
       refine x_thenR (x_ret ⟨_,_,_,rfl,rfl,blk_cells c8 m0,sh_68,⟨_,_,rfl,rfl,rfl⟩⟩ ?_)
       exact ⟨_,_,rfl,c8.fr,c8.grow,by rw [f6]; exact rfl⟩
      ·replace a9:=not_f a9
       refine c_skip (x_next (csr ((GM Y (GM Y (g_y (y_build ze_68 pl_68 (.cons Z Z Z Z (.here _ _ (.nil _)) (ble Z) (.cons Z Z Z Z (.next _ (.here _ _ (.nil _))) (ble Z) (.nil _)))) Z Z (g_e (ev_store d9 Z Z Z sz_68 Z (.here _ _ (.here _ _ (.nil _))) (.hd _)) Z Z ?_)))))))
       rintro _ l0 ⟨c9,l1⟩
       refine GA Y (gnx ((c_ret ?_)))
       have f7:shLess a b=((⟨a1.1,a1.2.1⟩:Share),0):=ET (BE a5) (ET (cond_t a0) (ET (BE a6) (ET (IN a2) (ET (BE a8) (ET (IN a3) (ET (BE b3) (ET (IN a4) (ET (BE b7) (ET (IN a7) (ET (BE c7) (ET (cond_t a9) (rfl))))))))))))
       refine x_ret ⟨_,_,_,rfl,rfl,blk_cells c9 m0,sh_68,⟨_,_,rfl,rfl,rfl⟩⟩ (⟨_,_,rfl,c9.fr,c9.grow,by rw [f7]; exact rfl⟩)
def shDelta_m1 (posted:(List Share)) (a1:Nat) (a2:Share):Int × Int × Int:=
 (opt (posted)[a1]? fun a3=>
 (bnd (shLess a2 a3) fun a0=>
 (a0.2,a0.1.ee,a0.1.er)))
def shDelta_l1 (posted:(List Share)):List Share→Nat→(List Share)→Out (List Share) ((List Share) × Int)
 | [],a0,a1=>(Out.next a1)
 | a3 :: tl1,a0,a1=>(bnd (shDelta_m1 posted a0 a3) fun ⟨a2,a4,a5⟩=>
 (if (a2≠0) then (Out.ret ((([]:List Share),a2)))
 else (shDelta_l1 posted tl1 (a0 + 1) ((a1 ++ [(⟨a4,a5⟩:Share)])))))
def shDelta (due:(List Share)) (posted:(List Share)):(List Share) × Int:=
 (if ((due.length:Int)≠(posted.length:Int)) then (([]:List Share),3)
 else (out (shDelta_l1 posted due 0 (([]:List Share))) fun a0=>
 (a0,0)))
theorem shDelta_c {due:(List Share)} {v_due:Value} {posted:(List Share)} {v_posted:Value} {d:Dat} {w:World} (hd:∀ b,d b→b < w.heap.size) (h_due:Sl shareTy d w v_due due) (h_posted:Sl shareTy d w v_posted posted):Ret Tryz.prog 225 [v_due,v_posted] w [] d (fun u d' w'=>∃ (v0:Value),u=.tuple #[v0,.int .i64 ((shDelta due posted).2)]∧Sl shareTy d' w' v0 (shDelta due posted).1):=by
 obtain ⟨A1,c2,rfl,hn3,hb4⟩:=h_due.fm
 obtain ⟨A5,c6,rfl,hn7,hb8⟩:=h_posted.fm
 refine ret_enter (n:=41) Tryz.func225 Z Z (ble Z) ?_
 have hI0:=Inv.start hd
 refine csr ((GA Y (GA Y (gnx ((c_seq (csr ((GM Y (gln el_62 Z Z Z (GM Y (gln el_62 Z Z Z (g_y (y_neq Z Z) Z Z ?_)))))))))))))
 refine gnx ((c_cond Z (fun a4=>?_) (fun a4=>?_)))
 ·replace a4:=OT a4
  refine csr ((GA Y (GA Y (gnx ((c_ret ?_))))))
  have f3:shDelta due posted=(([]:List Share),3):=ET (IP a4) (rfl)
  refine x_thenR (x_ret ⟨_,_,rfl,rfl,⟨_,_,rfl,rfl,rfl⟩⟩ ?_)
  exact ⟨_,_,rfl,hI0.fr,hI0.grow,by rw [f3]; exact ⟨_,rfl,(Sl.nil_ _ _ _ none 0)⟩⟩
 ·replace a4:=OF a4
  refine c_skip (x_next (csr ((GA Y (gnx ((c_seq (csr ((GM Y (gln el_62 Z Z Z (GM Y (g_nil ?_)))))))))))))
  refine x_next ?_
  have f4:=nil_row shareTy 68 hI0
  refine c_cut1 (ι:=List Share × Option Addr × Nat × Dat) (fun ⟨a5,b5,b6,b7⟩=>[(6,.slice b5 a5.length b6)]) (fun ⟨a5,b5,b6,b7⟩ c5=>Inv [] d w b7 [row shareTy 68 (.slice b5 a5.length b6) (a5)] c5∧Le d w b7 c5∧shDelta_l1 posted due 0 (([]:List Share))=Out.next a5∧a5.length≤due.length) ?_ ?_
  ·refine c_block (c_loop (ι:=List Share × Option Addr × Nat × Nat × Dat) (fun ⟨a1,a6,a7,a0,a8⟩=>[(0,.slice A1 (due).length c2),(1,.slice A5 (posted).length c6),(6,.slice a6 a1.length a7),(16,.int .i64 (due.length:Int)),(17,.int .i64 (a0:Int))]) (fun ⟨a1,a6,a7,a0,a8⟩ b3=>Inv [] d w a8 [row shareTy 68 (.slice a6 a1.length a7) (a1)] b3∧Le d w a8 b3∧shDelta_l1 posted due 0 (([]:List Share))=shDelta_l1 posted (due.drop a0) a0 a1∧a0≤due.length∧a1.length≤a0) (fun ⟨a1,a6,a7,a0,a8⟩=>due.length - a0) (([]:List Share),none,0,0,d) (.cons Z (.cons Z (.cons Z (.cons Z (.cons Z (.nil _)))))) ⟨f4,Le.refl _ _,rfl,Nat.zero_le _,by simp⟩ ?_)
   rintro ⟨a1,a6,a7,a0,a8⟩ b3 ⟨c7,b8,c8,i9,j0⟩
   have f5:=row_len (c7.ok _ m0); unfold big at f5
   refine csr ((g_y (y_lss Z Z) Z Z (gnx ((c_seq (c_cond Z (fun b4=>?_) (fun b4=>?_)))))))
   ·replace b4:=OT b4
    obtain ⟨a9,c9⟩:=has (xs:=due) (k:=a0) (by omega)
    refine c_skip (x_next (c_seq (c_block (csr ((GM Y (GA Y (gnx ((c_cut (ι:=Int × Nat × Int × Int × Dat) (fun ⟨b1,b9,a2,a3,c0⟩=>[(0,.slice A1 (due).length c2),(1,.slice A5 (posted).length c6),(6,.slice a6 a1.length a7),(8,.pointer (some ⟨b9,0,none⟩)),(9,.int .i64 b1),(16,.int .i64 (due.length:Int)),(17,.int .i64 (a0:Int))]) (fun ⟨b1,b9,a2,a3,c0⟩ d0=>Inv [] d w c0 [blk b9 68 [.int .i64 a2,.int .i64 a3],row shareTy 68 (.slice a6 a1.length a7) (a1)] d0∧Le a8 b3 c0 d0∧shDelta_m1 posted a0 a9=(b1,a2,a3)) ?_ ?_))))))))))
    ·have c1:=c7.drew; have c3:=Le.drew a8 b3
     refine c_drawK 14 follows_mixed c1 (k_y 0 (by kernel_rfl) Z Z Z (fun _ _=>(y_move Z)) (k_y 1 (by kernel_rfl) Z Z Z (fun _ _=>(y_move Z)) ?_))
     obtain ⟨j1,j2,j3,f6,f7,f8,f9⟩:=Sl.at_ (h_due.mono (b8.t c3)) c9
     obtain rfl:=f7
     refine k_y 2 (by kernel_rfl) Z Z Z (fun _ _=>(y_indexAddr (i:=a0) el_62 Z f6 Z (rfl) (by omega))) (k_y 3 (by kernel_rfl) Z Z Z (fun j4 ⟨j5,j6,g0⟩=>(y_loadA (cs:=[.int .i64 a9.ee,.int .i64 a9.er]) sh_68 Z ((f8.keep ((g0).blk _ f9)).part (f:=0) (.take _ (.take _ (.nil _)))))) (k_y 4 (by kernel_rfl) Z Z Z (fun _ _=>(y_move Z)) (k_y 5 (by kernel_rfl) Z Z Z (fun _ _=>(y_move Z)) ?_)))
     obtain ⟨b2,d1⟩:=has (xs:=posted) (k:=a0) (by omega)
     obtain ⟨j7,j8,j9,g1,g2,g3,g4⟩:=Sl.at_ (h_posted.mono (b8.t c3)) d1
     obtain rfl:=g2
     refine k_y 6 (by kernel_rfl) Z Z Z (fun _ _=>(y_indexAddr (i:=a0) el_62 Z g1 Z (rfl) (by omega))) (k_y 7 (by kernel_rfl) Z Z Z (fun k0 ⟨k1,k2,g5⟩=>(y_loadA (cs:=[.int .i64 b2.ee,.int .i64 b2.er]) sh_68 Z ((g3.keep ((g5).blk _ g4)).part (f:=0) (.take _ (.take _ (.nil _)))))) (k_all (is:=[8,12]) (by kernel_rfl) (by simp) (.cons ?_ (.cons ?_ .nil))))
     ·have d5:=shLess_c (a:=a9) (b:=b2) c1.lt
      obtain ⟨d2,d6⟩:∃ r,shLess a9 b2=r:=⟨_,rfl⟩
      rw [d6] at d5
      refine k_op Z Z Z (ev_pure c1 pf_271 Z d5) ?_
      rintro _ k3 ⟨g6,d7,d8,rfl⟩
      refine k_next d7 d8 (k_y 9 (by kernel_rfl) Z Z Z (fun _ _=>(y_move Z)) (k_y 10 (by kernel_rfl) Z Z Z (fun _ _=>(y_extract Z Z)) (k_y 11 (by kernel_rfl) Z Z Z (fun _ _=>(y_extract Z Z)) (k_all (is:=[12]) (by kernel_rfl) (by simp) (.cons ?_ .nil)))))
      refine k_op Z Z Z (ev_alloc d7 ze_68) ?_
      rintro _ k4 ⟨g7,rfl,d9,e0⟩
      refine k_next (d9.drop (.hd _)) e0 (k_all (is:=[13]) (by kernel_rfl) (by simp) (.cons ?_ .nil))
      refine k_op Z Z Z (ev_store d9 Z Z Z sz_68 Z (.here _ _ (.here _ _ (.nil _))) (.hd _)) ?_
      rintro _ k5 ⟨e1,e2⟩
      refine k_next (e1.drop (.hd _)) e2 (k_all (is:=[14]) (by kernel_rfl) (by simp) (.cons ?_ .nil))
      refine k_op Z Z Z (Ev.of_y2 (y_assign Z)) ?_
      rintro _ _ ⟨rfl,rfl⟩
      refine k_bar (b_done (by kernel_rfl) (x_draw ?_) (by kernel_rfl))
      have g8:=e1.front (.hd _)
      refine x_cut (d2.2,g7,d2.1.ee,d2.1.er,g6) (.cons Z (.cons Z (.cons Z (.cons Z (.cons Z (.cons Z (.cons Z (.nil _)))))))) ⟨g8,(((c3.t d8).t e0).t e2),ET (opt_some d1) (ET (BE d6) (rfl))⟩
     ·refine k_op Z Z Z (ev_alloc c1 ze_68) ?_
      rintro _ k6 ⟨g9,rfl,d3,e3⟩
      refine k_next (d3.drop (.hd _)) e3 (k_all (is:=[8]) (by kernel_rfl) (by simp) (.cons ?_ .nil))
      have e4:=shLess_c (a:=a9) (b:=b2) d3.lt
      obtain ⟨d4,e5⟩:∃ r,shLess a9 b2=r:=⟨_,rfl⟩
      rw [e5] at e4
      refine k_op Z Z Z (ev_pure d3 pf_271 Z e4) ?_
      rintro _ k7 ⟨h0,e6,e7,rfl⟩
      refine k_next (e6.drop (.hd _)) e7 (k_y 9 (by kernel_rfl) Z Z Z (fun _ _=>(y_move Z)) (k_y 10 (by kernel_rfl) Z Z Z (fun _ _=>(y_extract Z Z)) (k_y 11 (by kernel_rfl) Z Z Z (fun _ _=>(y_extract Z Z)) (k_all (is:=[13]) (by kernel_rfl) (by simp) (.cons ?_ .nil)))))
      refine k_op Z Z Z (ev_store e6 Z Z Z sz_68 Z (.here _ _ (.here _ _ (.nil _))) (.hd _)) ?_
      rintro _ k8 ⟨e8,e9⟩
      refine k_next (e8.drop (.hd _)) e9 (k_all (is:=[14]) (by kernel_rfl) (by simp) (.cons ?_ .nil))
      refine k_op Z Z Z (Ev.of_y2 (y_assign Z)) ?_
      rintro _ _ ⟨rfl,rfl⟩
      refine k_bar (b_done (by kernel_rfl) (x_draw ?_) (by kernel_rfl))
      have h1:=e8.front (.hd _)
      refine x_cut (d4.2,g9,d4.1.ee,d4.1.er,h0) (.cons Z (.cons Z (.cons Z (.cons Z (.cons Z (.cons Z (.cons Z (.nil _)))))))) ⟨h1,(((c3.t e3).t e7).t e9),ET (opt_some d1) (ET (BE e5) (rfl))⟩
    ·rintro ⟨b1,b9,a2,a3,c0⟩ d0 ⟨c4,h2,f0⟩
     refine c_seq (csr ((GM Y (g_y (y_neq Z Z) Z Z (gnx ((c_cond Z (fun b0=>?_) (fun b0=>?_))))))))
     ·replace b0:=OT b0
      refine csr ((GM Y (GA Y (GA Y (gnx ((c_ret ?_)))))))
      have h3:shDelta_l1 posted due 0 (([]:List Share))=(Out.ret ((([]:List Share),b1))):=c8.trans (ET (congrArg (fun l=>shDelta_l1 posted l a0 a1) (drop_cons c9)) (ET (BE f0) (ET (IP b0) (rfl))))
      have h4:shDelta due posted=(([]:List Share),b1):=ET (IN a4) (ET (out_ret h3) (rfl))
      refine x_thenR (x_blockR (x_thenR (x_rndR (x_blockR (x_cutR (x_thenR (x_ret ⟨_,_,rfl,rfl,⟨_,_,rfl,rfl,rfl⟩⟩ ?_)))))))
      exact ⟨_,_,rfl,c4.fr,c4.grow,by rw [h4]; exact ⟨_,rfl,(Sl.nil_ _ _ _ none 0)⟩⟩
     ·replace b0:=OF b0
      refine c_skip (x_next (c_region (GM Y (g_y (y_loadA (cs:=[.int .i64 a2,.int .i64 a3]) sh_68 Z ((blk_cells c4 m0).part (f:=0) (.take _ (.take _ (.nil _))))) Z Z (g_e (ev_buildSl (T:=shareTy) (xs:=[(⟨a2,a3⟩:Share)]) c4 el_62 ze_68 Z Z (ble Z) (ble Z) (.cons Z Z Z Z (.here _ _ (.here _ _ (.nil _))) (ble Z) (.nil _)) (.cons (x:=(⟨a2,a3⟩:Share)) (cs:=[.int .i64 a2,.int .i64 a3]) Z .nil)) Z Z ?_)))))
      rintro _ k9 ⟨h5,h6,h7,h8,l0,rfl⟩
      refine g_e (ev_append h6 ei_62 Z Z m1 h8 (by simp only [LA,LC,LN,big] at *; omega) (by simp only [LA,LC,LN,big] at *; omega)) Z Z ?_
      rintro _ l1 ⟨h9,i0,i1,i2,rfl⟩
      have i3:=h9 _ (.tl _ (.hd _))
      refine GA Y (g_nil (x_blockN (x_next ?_)))
      refine c_region (g_y (y_add Z Z (by omega)) Z Z (GM Y (g_nil ?_)))
      have i4:=i3.drop (.hd _)
      refine x_round ((a1 ++ [(⟨a2,a3⟩:Share)]),i1,i2,a0 + 1,h5) (by dsimp only; omega) (.cons Z (.cons Z (.cons Z (.cons Z (.cons Z (.nil _)))))) ⟨i4,(((b8.t h2).t h7).t i0),c8.trans (ET (congrArg (fun l=>shDelta_l1 posted l a0 a1) (drop_cons c9)) (ET (BE f0) (ET (IN b0) (rfl)))),by omega,by first | omega | (simp only [LA,LC,LN] at *; omega)⟩
   ·replace b4:=OF b4
    refine c_exit (x_thenE (x_rndE (x_blockE (x_cut (a1,a6,a7,a8) (.cons Z (.nil _)) ⟨c7,b8,c8.trans (ET (congrArg (fun l=>shDelta_l1 posted l a0 a1) (drop_nil (by omega))) (rfl)),by first | omega | (simp only [LA,LC,LN] at *; omega)⟩))))
  ·rintro ⟨a5,b5,b6,b7⟩ c5 ⟨f1,l2,i5,l3⟩
   have i6:=row_len (f1.ok _ m0); unfold big at i6
   refine x_next (csr ((GM Y (GA Y (GA Y (gnx ((c_ret ?_))))))))
   obtain ⟨l4,f2,l5,i7⟩:=pub_row f1 (.hd _) (by simp)
   have i8:shDelta due posted=(a5,0):=ET (IN a4) (ET (out_next i5) (rfl))
   refine x_ret ⟨_,_,rfl,rfl,⟨_,_,rfl,rfl,rfl⟩⟩ (⟨_,_,rfl,f2.fr,f2.grow,by rw [i8]; exact ⟨_,rfl,i7⟩⟩)
def soPeriod_l1 (b:Bases) (ahead:(List Int)):List Contrib→Nat→(List Share)→(List Int)→Out (List Share × List Int) ((List Share) × (List Int) × Int)
 | [],a0,a2,a1=>(Out.next ((a2,a1)))
 | a3 :: tl1,a0,a2,a1=>(opt (ahead)[a0]? fun a6=>
 (bnd (baseOn a3 b) fun a8=>
 (bnd (baseUnder a3 a8 a6) fun a7=>
 (bnd (soDue a3 a7) fun a4=>
 (if (a4.2≠0) then (Out.ret ((([]:List Share),([]:List Int),a4.2)))
 else (bnd (mAdd a6 a7) fun a5=>
 (opt (a1)[a0]? fun a9=>
 (if (a5.2≠0) then (Out.ret ((([]:List Share),([]:List Int),a5.2)))
 else (soPeriod_l1 b ahead tl1 (a0 + 1) ((a2 ++ [a4.1])) ((a1.set a0 a5.1)))))))))))
def soPeriod (t:Table) (b:Bases) (ahead:(List Int)):(List Share) × (List Int) × Int:=
 (if ((ahead.length:Int)≠(t.contribs.length:Int)) then (([]:List Share),([]:List Int),3)
 else (bnd (baseRight b) fun a0=>
 (cond a0 ((bnd (mRight ahead) fun a1=>
 (cond a1 ((bnd (clInt ahead) fun a2=>
 (out (soPeriod_l1 b ahead t.contribs 0 (([]:List Share)) a2) fun ⟨a3,a4⟩=>
 (a3,a4,0))))
 ((([]:List Share),([]:List Int),10)))))
 ((([]:List Share),([]:List Int),10)))))
theorem soPeriod_c {t:Table} {cs_t:List Value} {b:Bases} {ahead:(List Int)} {v_ahead:Value} {d:Dat} {w:World} (hd:∀ b,d b→b < w.heap.size) (h_t:tableTy.rel d w t cs_t) (h_ahead:Sl intTy d w v_ahead ahead):Ret Tryz.prog 263 [.agg cs_t.toArray,.agg #[.int .i64 b.cash,.int .i64 b.taxable,.int .i64 b.social],v_ahead] w [] d (fun u d' w'=>∃ (v0:Value) (v1:Value),u=.tuple #[v0,v1,.int .i64 ((soPeriod t b ahead).2.2)]∧Sl shareTy d' w' v0 (soPeriod t b ahead).1∧Sl intTy d' w' v1 (soPeriod t b ahead).2.1):=by
 obtain ⟨v1,v2,v3,rfl,hS4,hS5,hS6⟩:=h_t
 obtain ⟨A7,c8,rfl,hn9,o9⟩:=hS4.fm
 obtain ⟨f6,f7,rfl,p0,p1⟩:=hS5.fm
 obtain ⟨g8,g9,rfl,p2,p3⟩:=hS6.fm
 obtain ⟨i6,i7,rfl,p4,p5⟩:=h_ahead.fm
 refine ret_enter (n:=80) Tryz.func263 Z Z (ble Z) ?_
 have hI0:=Inv.start hd
 refine csr ((g_e (ev_box hI0 Z) Z Z ?_))
 rintro _ p6 ⟨h0,rfl,i8,c1⟩
 refine g_e (ev_box i8 Z) Z Z ?_
 rintro _ p7 ⟨f8,rfl,b3,c2⟩
 refine GA Y (GA Y (GA Y (gnx ((c_seq (csr ((GM Y (gln el_174 Z Z Z (gfa fo_26_1 Z Z Z (gld sh_23 Z b3 m1 (i:=1) Z Z Z (gln el_23 Z Z Z (g_y (y_neq Z Z) Z Z ?_)))))))))))))
 refine gnx ((c_cond Z (fun a5=>?_) (fun a5=>?_)))
 ·replace a5:=OT a5
  refine csr ((GA Y (GA Y (GA Y (gnx ((c_ret ?_)))))))
  have i9:soPeriod t b ahead=(([]:List Share),([]:List Int),3):=ET (IP a5) (rfl)
  refine x_thenR (x_ret ⟨_,_,rfl,rfl,⟨_,_,rfl,rfl,⟨_,_,rfl,rfl,rfl⟩⟩⟩ ?_)
  exact ⟨_,_,rfl,b3.fr,b3.grow,by rw [i9]; exact ⟨_,_,rfl,(Sl.nil_ _ _ _ none 0),(Sl.nil_ _ _ _ none 0)⟩⟩
 ·replace a5:=OF a5
  refine c_skip (x_next (c_seq (csr ((g_y (y_loadA (cs:=[.int .i64 b.cash,.int .i64 b.taxable,.int .i64 b.social]) sh_47 Z ((blk_cells b3 m0).part (f:=0) (.take _ (.take _ (.take _ (.nil _)))))) Z Z ?_)))))
  have h1:=baseRight_c (b:=b) b3.lt
  obtain ⟨p8,b4⟩:∃ r,baseRight b=r:=⟨_,rfl⟩
  rw [b4] at h1
  refine g_e (ev_pure b3 pf_155 Z h1) Z Z ?_
  rintro _ p9 ⟨q0,d2,c3,rfl⟩
  refine g_y (y_not Z) Z Z (GM Y (g_split (t:=25) Z (fun a6=>?_) (fun a6=>?_)))
  ·replace a6:=not_t a6
   refine gsk Z Z (gsk Z Z (gsk Z Z (g_y (y_pickT Z Z) Z Z (gnx ((c_condT Z (csr ((GA Y (GA Y (GA Y (gnx (?_)))))))))))))
   refine c_ret ?_
   have j0:soPeriod t b ahead=(([]:List Share),([]:List Int),10):=ET (IN a5) (ET (BE b4) (ET (cond_f a6) (rfl)))
   refine x_thenR (x_ret ⟨_,_,rfl,rfl,⟨_,_,rfl,rfl,⟨_,_,rfl,rfl,rfl⟩⟩⟩ ?_)
   exact ⟨_,_,rfl,d2.fr,d2.grow,by rw [j0]; exact ⟨_,_,rfl,(Sl.nil_ _ _ _ none 0),(Sl.nil_ _ _ _ none 0)⟩⟩
  ·replace a6:=not_f a6
   refine GM Y ?_
   have h2:=mRight_c (list:=ahead) d2.lt (h_ahead.mono ((c1.t c2).t c3))
   obtain ⟨q1,c4⟩:∃ r,mRight ahead=r:=⟨_,rfl⟩
   rw [c4] at h2
   refine g_e (ev_pure d2 pf_117 Z h2) Z Z ?_
   rintro _ q2 ⟨q3,d3,d4,rfl⟩
   refine g_y (y_not Z) Z Z (g_y (y_pickF Z Z) Z Z (gnx ((c_cond Z (fun a7=>?_) (fun a7=>?_)))))
   ·replace a7:=not_t a7
    refine csr ((GA Y (GA Y (GA Y (gnx ((c_ret ?_)))))))
    have j1:soPeriod t b ahead=(([]:List Share),([]:List Int),10):=ET (IN a5) (ET (BE b4) (ET (cond_t a6) (ET (BE c4) (ET (cond_f a7) (rfl)))))
    refine x_thenR (x_ret ⟨_,_,rfl,rfl,⟨_,_,rfl,rfl,⟨_,_,rfl,rfl,rfl⟩⟩⟩ ?_)
    exact ⟨_,_,rfl,d3.fr,d3.grow,by rw [j1]; exact ⟨_,_,rfl,(Sl.nil_ _ _ _ none 0),(Sl.nil_ _ _ _ none 0)⟩⟩
   ·replace a7:=not_f a7
    refine c_skip (x_next (csr ((GA Y (gnx ((csr ((GM Y ?_)))))))))
    have h3:=clInt_c (s:=ahead) d3.lt (h_ahead.mono (((c1.t c2).t c3).t d4))
    obtain ⟨a4,c5⟩:∃ r,clInt ahead=r:=⟨_,rfl⟩
    rw [c5] at h3
    have h8r69:a4.length=ahead.length:=by rw [← c5,clInt_eq]
    refine g_e (ev_row d3 pf_295 Z h3) Z Z ?_
    rintro _ h4 ⟨f9,d5,d6,rfl,g0,g1⟩
    have j2:=row_len (g0.ok _ m0); unfold big at j2
    refine GA Y (gnx ((c_seq (csr ((gfa fo_26_1 Z Z Z (gld sh_23 Z g0 m2 (i:=1) Z Z Z (gln el_23 Z Z Z (GM Y (gnx (?_)))))))))))
    have j3:=nil_row shareTy 68 g0
    refine c_cut1 (ι:=List Share × Option Addr × Nat × List Int × Dat) (fun ⟨a9,d7,d8,b5,d9⟩=>[(9,.slice d7 a9.length d8),(10,.slice d5 a4.length d6)]) (fun ⟨a9,d7,d8,b5,d9⟩ g2=>Inv [] d w d9 [row shareTy 68 (.slice d7 a9.length d8) (a9),row intTy 2 (.slice d5 a4.length d6) (b5),blk f8 47 [.int .i64 b.cash,.int .i64 b.taxable,.int .i64 b.social],blk h0 26 [.slice A7 (t.schemes).length c8,.slice f6 (t.contribs).length f7,.slice g8 (t.kinds).length g9,.int .i64 t.limit,.int .i64 t.round]] g2∧Le f9 h4 d9 g2∧soPeriod_l1 b ahead t.contribs 0 (([]:List Share)) a4=Out.next ((a9,b5))∧b5.length=a4.length∧a9.length≤t.contribs.length) ?_ ?_
    ·refine c_block (c_loop (ι:=List Share × Option Addr × Nat × List Int × Nat × Dat) (fun ⟨a2,b6,b7,a3,a1,b1⟩=>[(2,.slice i6 (ahead).length i7),(4,.pointer (some ⟨f8,0,none⟩)),(9,.slice b6 a2.length b7),(10,.slice d5 a4.length d6),(33,.slice f6 (t.contribs).length f7),(34,.int .i64 (t.contribs.length:Int)),(35,.int .i64 (a1:Int))]) (fun ⟨a2,b6,b7,a3,a1,b1⟩ g3=>Inv [] d w b1 [row shareTy 68 (.slice b6 a2.length b7) (a2),row intTy 2 (.slice d5 a4.length d6) (a3),blk f8 47 [.int .i64 b.cash,.int .i64 b.taxable,.int .i64 b.social],blk h0 26 [.slice A7 (t.schemes).length c8,.slice f6 (t.contribs).length f7,.slice g8 (t.kinds).length g9,.int .i64 t.limit,.int .i64 t.round]] g3∧Le f9 h4 b1 g3∧soPeriod_l1 b ahead t.contribs 0 (([]:List Share)) a4=soPeriod_l1 b ahead (t.contribs.drop a1) a1 a2 a3∧a1≤t.contribs.length∧a2.length≤a1∧a3.length=a4.length) (fun ⟨a2,b6,b7,a3,a1,b1⟩=>t.contribs.length - a1) (([]:List Share),none,0,a4,0,f9) (.cons Z (.cons Z (.cons Z (.cons Z (.cons Z (.cons Z (.cons Z (.nil _)))))))) ⟨j3,Le.refl _ _,rfl,Nat.zero_le _,by simp,by omega⟩ ?_)
     rintro ⟨a2,b6,b7,a3,a1,b1⟩ g3 ⟨e0,c6,e1,q4,q5,q6⟩
     have j4:=row_len (e0.ok _ m0); unfold big at j4
     have j5:=row_len (e0.ok _ m1); unfold big at j5
     refine csr ((g_y (y_lss Z Z) Z Z (gnx ((c_seq (c_cond Z (fun c7=>?_) (fun c7=>?_)))))))
     ·replace c7:=OT c7
      obtain ⟨a0,e2⟩:=has (xs:=t.contribs) (k:=a1) (by omega)
      refine c_skip (x_next (c_seq (c_block (csr ((GM Y ?_))))))
      obtain ⟨q7,q8,q9,j6,j7,j8,r0⟩:=Sl.at_ (hS5.mono (((((c1.t c2).t c3).t d4).t g1).t c6)) e2
      obtain ⟨r1,rfl,e3⟩:=j7
      obtain ⟨e4,e5,rfl,r2,r3⟩:=e3.fm
      refine g_y (y_indexAddr (i:=a1) el_23 Z j6 Z (rfl) (by omega)) Z Z (g_y (y_loadA (cs:=[.string a0.name,.int .i64 a0.base,.slice e4 (a0.bands).length e5,.int .i64 a0.pceil,.int .i64 a0.yceil,.int .i64 a0.round]) sh_70 Z (j8.part (f:=0) (.take _ (.take _ (.take _ (.take _ (.take _ (.take _ (.nil _))))))))) Z Z (g_e (ev_alloc e0 ze_70) Z Z ?_))
      rintro _ r4 ⟨r5,rfl,j9,b8⟩
      refine GA Y (g_e (ev_store j9 Z Z Z sz_70 Z (.here _ _ (.here _ _ (.here _ _ (.here _ _ (.here _ _ (.here _ _ (.nil _))))))) (.hd _)) Z Z ?_)
      rintro _ k0 ⟨k1,b9⟩
      refine gnx ((c_seq ?_))
      have g4:=k1.drew; have c0:=Le.drew b1 k0
      refine c_drawK 9 follows_mixed g4 (k_y 0 (by kernel_rfl) Z Z Z (fun r6 ⟨r7,k2,r8⟩=>(y_loadA (cs:=[.string a0.name,.int .i64 a0.base,.slice e4 (a0.bands).length e5,.int .i64 a0.pceil,.int .i64 a0.yceil,.int .i64 a0.round]) sh_70 Z ((blk_cells k2 m0).part (f:=0) (.take _ (.take _ (.take _ (.take _ (.take _ (.take _ (.nil _)))))))))) (k_y 1 (by kernel_rfl) Z Z Z (fun r9 ⟨s0,k3,s1⟩=>(y_loadA (cs:=[.string a0.name,.int .i64 a0.base,.slice e4 (a0.bands).length e5,.int .i64 a0.pceil,.int .i64 a0.yceil,.int .i64 a0.round]) sh_70 Z ((blk_cells k3 m0).part (f:=0) (.take _ (.take _ (.take _ (.take _ (.take _ (.take _ (.nil _)))))))))) (k_y 2 (by kernel_rfl) Z Z Z (fun s2 ⟨s3,k4,s4⟩=>(y_loadA (cs:=[.int .i64 b.cash,.int .i64 b.taxable,.int .i64 b.social]) sh_47 Z ((blk_cells k4 m3).part (f:=0) (.take _ (.take _ (.take _ (.nil _))))))) (k_y 4 (by kernel_rfl) Z Z Z (fun _ _=>(y_move Z)) (k_y 5 (by kernel_rfl) Z Z Z (fun _ _=>(y_move Z)) ?_)))))
      obtain ⟨e6,c9⟩:=has (xs:=ahead) (k:=a1) (by omega)
      obtain ⟨s5,s6,s7,k5,k6,k7,k8⟩:=Sl.at_ (h_ahead.mono ((((((((c1.t c2).t c3).t d4).t g1).t c6).t b8).t b9).t c0)) c9
      obtain rfl:=k6
      refine k_y 6 (by kernel_rfl) Z Z Z (fun _ _=>(y_indexAddr (i:=a1) el_174 Z k5 Z (rfl) (by omega))) (k_y 7 (by kernel_rfl) Z Z Z (fun s8 ⟨s9,t0,k9⟩=>(y_load1 sh_2 Z ((k7.keep ((k9).blk _ k8)).nth_ (i:=0) Z))) (k_all (is:=[3]) (by kernel_rfl) (by simp) (.cons ?_ .nil)))
      have h5:=baseOn_c (c:=a0) (b:=b) g4.lt (show contribTy.rel _ _ a0 _ from ⟨_,rfl,(e3.mono ((b8.t b9).t c0))⟩)
      obtain ⟨h6,e7⟩:∃ r,baseOn a0 b=r:=⟨_,rfl⟩
      rw [e7] at h5
      refine k_op Z Z Z (ev_pure g4 pf_280 Z h5) ?_
      rintro _ t1 ⟨t2,g5,d0,rfl⟩
      refine k_next g5 d0 (k_all (is:=[8]) (by kernel_rfl) (by simp) (.cons ?_ .nil))
      have h7:=baseUnder_c (c:=a0) (x:=h6) (ahead:=e6) g5.lt (show contribTy.rel _ _ a0 _ from ⟨_,rfl,(e3.mono (((b8.t b9).t c0).t d0))⟩)
      obtain ⟨e8,e9⟩:∃ r,baseUnder a0 h6 e6=r:=⟨_,rfl⟩
      rw [e9] at h7
      refine k_op Z Z Z (ev_pure g5 pf_279 Z h7) ?_
      rintro _ t3 ⟨t4,f0,f1,rfl⟩
      refine k_next f0 f1 (k_all (is:=[9]) (by kernel_rfl) (by simp) (.cons ?_ .nil))
      refine k_op Z Z Z (Ev.of_y2 (y_assign Z)) ?_
      rintro _ _ ⟨rfl,rfl⟩
      refine k_bar (b_done (by kernel_rfl) (x_draw ?_) (by kernel_rfl))
      refine x_next (csr ((g_y (y_loadA (cs:=[.string a0.name,.int .i64 a0.base,.slice e4 (a0.bands).length e5,.int .i64 a0.pceil,.int .i64 a0.yceil,.int .i64 a0.round]) sh_70 Z ((blk_cells f0 m0).part (f:=0) (.take _ (.take _ (.take _ (.take _ (.take _ (.take _ (.nil _))))))))) Z Z (GM Y ?_))))
      have h8:=soDue_c (c:=a0) (x:=e8) f0.lt (show contribTy.rel _ _ a0 _ from ⟨_,rfl,(e3.mono ((((b8.t b9).t c0).t d0).t f1))⟩)
      obtain ⟨a8,f2⟩:∃ r,soDue a0 e8=r:=⟨_,rfl⟩
      rw [f2] at h8
      refine g_e (ev_pure f0 pf_296 Z h8) Z Z ?_
      rintro _ t5 ⟨t6,l0,h9,rfl⟩
      refine GM Y (g_y (y_extract Z Z) Z Z (g_y (y_extract Z Z) Z Z (g_e (ev_alloc l0 ze_68) Z Z ?_)))
      rintro _ t7 ⟨t8,rfl,l1,i0⟩
      refine g_e (ev_store l1 Z Z Z sz_68 Z (.here _ _ (.here _ _ (.nil _))) (.hd _)) Z Z ?_
      rintro _ t9 ⟨f3,i1⟩
      refine GA Y (gnx ((c_seq (csr ((GM Y (g_y (y_neq Z Z) Z Z (gnx ((c_cond Z (fun b0=>?_) (fun b0=>?_)))))))))))
      ·replace b0:=OT b0
       refine csr ((GM Y (GA Y (GA Y (GA Y (gnx ((c_ret ?_))))))))
       have l2:soPeriod_l1 b ahead t.contribs 0 (([]:List Share)) a4=(Out.ret ((([]:List Share),([]:List Int),a8.2))):=e1.trans (ET (congrArg (fun l=>soPeriod_l1 b ahead l a1 a2 a3) (drop_cons e2)) (ET (opt_some c9) (ET (BE e7) (ET (BE e9) (ET (BE f2) (ET (IP b0) (rfl)))))))
       have l3:soPeriod t b ahead=(([]:List Share),([]:List Int),a8.2):=ET (IN a5) (ET (BE b4) (ET (cond_t a6) (ET (BE c4) (ET (cond_t a7) (ET (BE c5) (ET (out_ret l2) (rfl)))))))
       refine x_thenR (x_blockR (x_thenR (x_rndR (x_blockR (x_cutR (x_thenR (x_ret ⟨_,_,rfl,rfl,⟨_,_,rfl,rfl,⟨_,_,rfl,rfl,rfl⟩⟩⟩ ?_)))))))
       exact ⟨_,_,rfl,f3.fr,f3.grow,by rw [l3]; exact ⟨_,_,rfl,(Sl.nil_ _ _ _ none 0),(Sl.nil_ _ _ _ none 0)⟩⟩
      ·replace b0:=OF b0
       refine c_skip (x_next (c_seq (csr ((GM Y (GM Y (GM Y (GM Y ?_))))))))
       obtain ⟨u0,u1,u2,l4,l5,l6,u3⟩:=Sl.at_ (h_ahead.mono (((((((((((((c1.t c2).t c3).t d4).t g1).t c6).t b8).t b9).t c0).t d0).t f1).t h9).t i0).t i1)) c9
       obtain rfl:=l5
       refine g_y (y_indexAddr (i:=a1) el_174 Z l4 Z (rfl) (by omega)) Z Z (g_y (y_load1 sh_2 Z (l6.nth_ (i:=0) Z)) Z Z (GM Y ?_))
       have i2:=mAdd_c (a:=e6) (b:=e8) f3.lt
       obtain ⟨d1,g6⟩:∃ r,mAdd e6 e8=r:=⟨_,rfl⟩
       rw [g6] at i2
       refine g_e (ev_pure f3 pf_116 Z i2) Z Z ?_
       rintro _ u4 ⟨u5,i3,l7,rfl⟩
       refine GM Y (g_y (y_extract Z Z) Z Z (g_y (y_extract Z Z) Z Z ?_))
       obtain ⟨l8,f4⟩:=has (xs:=a3) (k:=a1) (by omega)
       obtain ⟨u6,u7,i4,l9,m6⟩:=row_at0 (i3.ok _ m3) f4
       obtain rfl:=l9
       refine g_y (y_indexAddr (i:=a1) el_174 Z i4 Z (rfl) (by omega)) Z Z (g_e (ev_storeRow (i:=a1) (off:=0) (cs:=[.int .i64 l8]) (y':=d1.1) i3 i4 Z Z Z sz_2 Z (.here _ _ (.nil _)) (.tl _ (.tl _ (.tl _ (.hd _)))) f4 m6 Z Z (ble Z)) Z Z ?_)
       rintro _ u8 ⟨f5,m7⟩
       have u9:(a3.set a1 d1.1).length=a4.length:=by (try simp only [LS]); omega
       refine GA Y (gnx ((csr ((GM Y (g_y (y_neq Z Z) Z Z (gnx ((c_cond Z (fun b2=>?_) (fun b2=>?_))))))))))
       ·replace b2:=OT b2
        refine csr ((GM Y (GA Y (GA Y (GA Y (gnx ((c_ret ?_))))))))
        have m8:soPeriod_l1 b ahead t.contribs 0 (([]:List Share)) a4=(Out.ret ((([]:List Share),([]:List Int),d1.2))):=e1.trans (ET (congrArg (fun l=>soPeriod_l1 b ahead l a1 a2 a3) (drop_cons e2)) (ET (opt_some c9) (ET (BE e7) (ET (BE e9) (ET (BE f2) (ET (IN b0) (ET (BE g6) (ET (opt_some f4) (ET (IP b2) (rfl))))))))))
        have m9:soPeriod t b ahead=(([]:List Share),([]:List Int),d1.2):=ET (IN a5) (ET (BE b4) (ET (cond_t a6) (ET (BE c4) (ET (cond_t a7) (ET (BE c5) (ET (out_ret m8) (rfl)))))))
        refine x_thenR (x_blockR (x_thenR (x_rndR (x_blockR (x_cutR (x_thenR (x_ret ⟨_,_,rfl,rfl,⟨_,_,rfl,rfl,⟨_,_,rfl,rfl,rfl⟩⟩⟩ ?_)))))))
        exact ⟨_,_,rfl,f5.fr,f5.grow,by rw [m9]; exact ⟨_,_,rfl,(Sl.nil_ _ _ _ none 0),(Sl.nil_ _ _ _ none 0)⟩⟩
       ·replace b2:=OF b2
        refine c_skip (x_next (c_region (GM Y (g_y (y_loadA (cs:=[.int .i64 a8.1.ee,.int .i64 a8.1.er]) sh_68 Z ((blk_cells f5 m0).part (f:=0) (.take _ (.take _ (.nil _))))) Z Z (g_e (ev_buildSl (T:=shareTy) (xs:=[a8.1]) f5 el_62 ze_68 Z Z (ble Z) (ble Z) (.cons Z Z Z Z (.here _ _ (.here _ _ (.nil _))) (ble Z) (.nil _)) (.cons (x:=a8.1) (cs:=[.int .i64 a8.1.ee,.int .i64 a8.1.er]) Z .nil)) Z Z ?_)))))
        rintro _ v4 ⟨n0,n1,n2,n3,v5,rfl⟩
        refine g_e (ev_append n1 ei_62 Z Z m2 n3 (by simp only [LA,LC,LN,big] at *; omega) (by simp only [LA,LC,LN,big] at *; omega)) Z Z ?_
        rintro _ v6 ⟨n4,n5,n6,n7,rfl⟩
        have n8:=n4 _ (.tl _ (.tl _ (.hd _)))
        refine GA Y (g_nil (x_blockN (x_next ?_)))
        refine c_region (g_y (y_add Z Z (by omega)) Z Z (GM Y (g_nil ?_)))
        have n9:=n8.drop (.hd _)
        have o0:=n9.drop (.hd _)
        refine x_round ((a2 ++ [a8.1]),n6,n7,(a3.set a1 d1.1),a1 + 1,n0) (by dsimp only; omega) (.cons Z (.cons Z (.cons Z (.cons Z (.cons Z (.cons Z (.cons Z (.nil _)))))))) ⟨o0,((((((((((((c6.t b8).t b9).t c0).t d0).t f1).t h9).t i0).t i1).t l7).t m7).t n2).t n5),e1.trans (ET (congrArg (fun l=>soPeriod_l1 b ahead l a1 a2 a3) (drop_cons e2)) (ET (opt_some c9) (ET (BE e7) (ET (BE e9) (ET (BE f2) (ET (IN b0) (ET (BE g6) (ET (opt_some f4) (ET (IN b2) (rfl)))))))))),by omega,by first | omega | (simp only [LA,LC,LN] at *; omega),by omega⟩
     ·replace c7:=OF c7
      refine c_exit (x_thenE (x_rndE (x_blockE (x_cut (a2,b6,b7,a3,b1) (.cons Z (.cons Z (.nil _))) ⟨e0,c6,e1.trans (ET (congrArg (fun l=>soPeriod_l1 b ahead l a1 a2 a3) (drop_nil (by omega))) (rfl)),by omega,by first | omega | (simp only [LA,LC,LN] at *; omega)⟩))))
    ·rintro ⟨a9,d7,d8,b5,d9⟩ g2 ⟨g7,v7,o1,v8,v9⟩
     have o2:=row_len (g7.ok _ m0); unfold big at o2
     have o3:=row_len (g7.ok _ m1); unfold big at o3
     refine x_next (csr ((GM Y (GM Y (GA Y (GA Y (GA Y (gnx ((c_ret ?_))))))))))
     obtain ⟨w0,o4,w1,o5⟩:=pub_row g7 (.hd _) (by simp)
     obtain ⟨w2,i5,o6,o7⟩:=pub_row o4 (.hd _) (by simp)
     have o8:soPeriod t b ahead=(a9,b5,0):=ET (IN a5) (ET (BE b4) (ET (cond_t a6) (ET (BE c4) (ET (cond_t a7) (ET (BE c5) (ET (out_next o1) (rfl)))))))
     refine x_ret ⟨_,_,rfl,rfl,⟨_,_,rfl,rfl,⟨_,_,rfl,rfl,rfl⟩⟩⟩ (⟨_,_,rfl,i5.fr,i5.grow,by rw [o8]; exact ⟨_,_,rfl,(o5.mono o6),o7⟩⟩)
def soYear_l1 (t:Table):List Bases→Nat→(List (List Share))→(List Int)→Out (List (List Share)) ((List (List Share)) × Int)
 | [],a2,a1,a3=>(Out.next a1)
 | a4 :: tl1,a2,a1,a3=>(bnd (soPeriod t a4 a3) fun a0=>
 (if (a0.2.2≠0) then (Out.ret ((([]:List (List Share)),a0.2.2)))
 else (soYear_l1 t tl1 (a2 + 1) ((a1 ++ [a0.1])) a0.2.1)))
def soYear (t:Table) (list:(List Bases)):(List (List Share)) × Int:=
 (out (soYear_l1 t list 0 (([]:List (List Share))) ((List.replicate (((t.contribs.length:Int)).toNat) 0))) fun a0=>
 (a0,0))
theorem soYear_c {t:Table} {cs_t:List Value} {list:(List Bases)} {v_list:Value} {d:Dat} {w:World} (hd:∀ b,d b→b < w.heap.size) (h_t:tableTy.rel d w t cs_t) (h_list:Sl basesTy d w v_list list):Ret Tryz.prog 208 [.agg cs_t.toArray,v_list] w [] d (fun u d' w'=>∃ (v0:Value),u=.tuple #[v0,.int .i64 ((soYear t list).2)]∧Sl (Ty.slice shareTy) d' w' v0 (soYear t list).1):=by
 obtain ⟨v1,v2,v3,rfl,hS4,hS5,hS6⟩:=h_t
 obtain ⟨A7,c8,rfl,hn9,h9⟩:=hS4.fm
 obtain ⟨c4,c5,rfl,i0,i1⟩:=hS5.fm
 obtain ⟨c6,c7,rfl,i2,i3⟩:=hS6.fm
 obtain ⟨e7,e8,rfl,i4,i5⟩:=h_list.fm
 refine ret_enter (n:=41) Tryz.func208 Z Z (ble Z) ?_
 have hI0:=Inv.start hd
 refine csr ((g_e (ev_box hI0 Z) Z Z ?_))
 rintro _ i6 ⟨c9,rfl,d7,b6⟩
 refine GA Y (GA Y (gnx ((csr ((gfa fo_26_1 Z Z Z (gld sh_23 Z d7 m0 (i:=1) Z Z Z (gln el_23 Z Z Z (g_e (ev_makeRow2 (T:=intTy) (z:=0) (m:=((t.contribs.length:Int)).toNat) d7 ei_174 ze_2 Z ((Int.toNat_of_nonneg (by omega)).symm) (by unfold big; omega) (ble Z) Z) Z Z ?_)))))))))
 rintro _ d8 ⟨e9,rfl,f0,b7⟩
 have i7:(List.replicate (((t.contribs.length:Int)).toNat) 0).length=((t.contribs.length:Int)).toNat:=by simp
 refine GA Y (gnx ((csr ((GA Y (gnx ((c_seq (csr ((GM Y (gln el_95 Z Z Z (GM Y ?_)))))))))))))
 refine gnx (?_)
 have f1:=nil_row (Ty.slice shareTy) 62 f0
 obtain ⟨d0,f2,b8,f3⟩:=pub_row f1 (.tl _ (.hd _)) (by simp)
 refine c_cut1 (ι:=List (List Share) × Option Addr × Nat × Dat) (fun ⟨a3,b9,c0,c1⟩=>[(7,.slice b9 a3.length c0)]) (fun ⟨a3,b9,c0,c1⟩ d1=>Inv [] d w c1 [row (Ty.slice shareTy) 62 (.slice b9 a3.length c0) (a3),blk c9 26 [.slice A7 (t.schemes).length c8,.slice c4 (t.contribs).length c5,.slice c6 (t.kinds).length c7,.int .i64 t.limit,.int .i64 t.round]] d1∧Le d0 d8 c1 d1∧soYear_l1 t list 0 (([]:List (List Share))) ((List.replicate (((t.contribs.length:Int)).toNat) 0))=Out.next a3∧a3.length≤list.length) ?_ ?_
 ·refine c_block (c_loop (ι:=List (List Share) × Option Addr × Nat × List Int × Option Addr × Nat × Nat × Dat) (fun ⟨a1,a8,a9,a2,b1,b2,a0,a5⟩=>[(2,.pointer (some ⟨c9,0,none⟩)),(6,.slice b1 (a2).length b2),(7,.slice a8 a1.length a9),(17,.slice e7 (list).length e8),(18,.int .i64 (list.length:Int)),(19,.int .i64 (a0:Int))]) (fun ⟨a1,a8,a9,a2,b1,b2,a0,a5⟩ c2=>Inv [] d w a5 [row (Ty.slice shareTy) 62 (.slice a8 a1.length a9) (a1),blk c9 26 [.slice A7 (t.schemes).length c8,.slice c4 (t.contribs).length c5,.slice c6 (t.kinds).length c7,.int .i64 t.limit,.int .i64 t.round]] c2∧Le d0 d8 a5 c2∧soYear_l1 t list 0 (([]:List (List Share))) ((List.replicate (((t.contribs.length:Int)).toNat) 0))=soYear_l1 t (list.drop a0) a0 a1 a2∧a0≤list.length∧a1.length≤a0∧Sl intTy a5 c2 (.slice b1 a2.length b2) a2) (fun ⟨a1,a8,a9,a2,b1,b2,a0,a5⟩=>list.length - a0) (([]:List (List Share)),none,0,(List.replicate (((t.contribs.length:Int)).toNat) 0),e9,(((t.contribs.length:Int)).toNat),0,d0) (.cons Z (.cons Z (.cons Z (.cons Z (.cons Z (.cons Z (.nil _))))))) ⟨f2,Le.refl _ _,rfl,Nat.zero_le _,by simp,f3⟩ ?_)
  rintro ⟨a1,a8,a9,a2,b1,b2,a0,a5⟩ c2 ⟨d2,b0,d3,i8,i9,d9⟩
  have f4:=row_len (d2.ok _ m0); unfold big at f4
  have f5:=d9.len.2.2; unfold big at f5
  refine csr ((g_y (y_lss Z Z) Z Z (gnx ((c_seq (c_cond Z (fun b3=>?_) (fun b3=>?_)))))))
  ·replace b3:=OT b3
   obtain ⟨a4,d4⟩:=has (xs:=list) (k:=a0) (by omega)
   refine c_skip (x_next (c_seq (c_block (csr (?_)))))
   obtain ⟨j0,j1,j2,f6,f7,f8,j3⟩:=Sl.at_ (h_list.mono (((b6.t b7).t b8).t b0)) d4
   obtain rfl:=f7
   refine g_y (y_indexAddr (i:=a0) el_95 Z f6 Z (rfl) (by omega)) Z Z (g_y (y_loadA (cs:=[.int .i64 a4.cash,.int .i64 a4.taxable,.int .i64 a4.social]) sh_47 Z (f8.part (f:=0) (.take _ (.take _ (.take _ (.nil _)))))) Z Z (g_e (ev_alloc d2 ze_47) Z Z ?_))
   rintro _ j4 ⟨j5,rfl,f9,b4⟩
   refine g_e (ev_store f9 Z Z Z sz_47 Z (.here _ _ (.here _ _ (.here _ _ (.nil _)))) (.hd _)) Z Z ?_
   rintro _ j6 ⟨c3,b5⟩
   refine gnx ((csr ((g_y (y_loadA (cs:=[.slice A7 (t.schemes).length c8,.slice c4 (t.contribs).length c5,.slice c6 (t.kinds).length c7,.int .i64 t.limit,.int .i64 t.round]) sh_26 Z ((blk_cells c3 m2).part (f:=0) (.take _ (.take _ (.take _ (.take _ (.take _ (.nil _)))))))) Z Z (g_y (y_loadA (cs:=[.int .i64 a4.cash,.int .i64 a4.taxable,.int .i64 a4.social]) sh_47 Z ((blk_cells c3 m0).part (f:=0) (.take _ (.take _ (.take _ (.nil _)))))) Z Z (GM Y ?_))))))
   have e0:=soPeriod_c (t:=t) (b:=a4) (ahead:=a2) c3.lt (show tableTy.rel _ _ t _ from ⟨_,_,_,rfl,(hS4.mono (((((b6.t b7).t b8).t b0).t b4).t b5)),(hS5.mono (((((b6.t b7).t b8).t b0).t b4).t b5)),(hS6.mono (((((b6.t b7).t b8).t b0).t b4).t b5))⟩) (d9.mono (b4.t b5))
   obtain ⟨a6,d5⟩:∃ r,soPeriod t a4 a2=r:=⟨_,rfl⟩
   rw [d5] at e0
   refine g_e (ev_pure c3 pf_263 Z e0) Z Z ?_
   rintro _ j7 ⟨j8,d6,g0,⟨j9,k0,rfl,e1,e2⟩⟩
   obtain ⟨g1,g2,rfl,k1,k2⟩:=e1.fm
   obtain ⟨g3,g4,rfl,k3,k4⟩:=e2.fm
   refine GM Y (g_y (y_extract Z Z) Z Z (g_y (y_extract Z Z) Z Z (g_y (y_extract Z Z) Z Z (GA Y (GA Y (GA Y (gnx ((c_seq (csr ((GM Y (g_y (y_neq Z Z) Z Z ?_)))))))))))))
   refine gnx ((c_cond Z (fun a7=>?_) (fun a7=>?_)))
   ·replace a7:=OT a7
    refine csr ((GM Y (GA Y (GA Y (gnx ((c_ret ?_)))))))
    have g5:soYear_l1 t list 0 (([]:List (List Share))) ((List.replicate (((t.contribs.length:Int)).toNat) 0))=(Out.ret ((([]:List (List Share)),a6.2.2))):=d3.trans (ET (congrArg (fun l=>soYear_l1 t l a0 a1 a2) (drop_cons d4)) (ET (BE d5) (ET (IP a7) (rfl))))
    have g6:soYear t list=(([]:List (List Share)),a6.2.2):=ET (out_ret g5) (rfl)
    refine x_thenR (x_blockR (x_thenR (x_rndR (x_blockR (x_cutR (x_thenR (x_ret ⟨_,_,rfl,rfl,⟨_,_,rfl,rfl,rfl⟩⟩ ?_)))))))
    exact ⟨_,_,rfl,d6.fr,d6.grow,by rw [g6]; exact ⟨_,rfl,(Sl.nil_ _ _ _ none 0)⟩⟩
   ·replace a7:=OF a7
    refine c_skip (x_next (c_region (GM Y (GM Y (g_e (ev_buildSl (T:=(Ty.slice shareTy)) (xs:=[a6.1]) d6 el_332 ze_62 Z Z (ble Z) (ble Z) (.cons Z Z Z Z (.here _ _ (.nil _)) (ble Z) (.nil _)) (.cons (x:=a6.1) (cs:=[.slice g1 (a6.1).length g2]) ⟨_,rfl,e1⟩ .nil)) Z Z ?_)))))
    rintro _ k5 ⟨g7,g8,e3,g9,k6,rfl⟩
    refine g_e (ev_append g8 ei_332 Z Z m1 g9 (by simp only [LA,LC,LN,big] at *; omega) (by simp only [LA,LC,LN,big] at *; omega)) Z Z ?_
    rintro _ k7 ⟨h0,e4,h1,h2,rfl⟩
    have h3:=h0 _ (.tl _ (.hd _))
    refine GM Y (GA Y (GA Y (g_nil (x_blockN (x_next ?_)))))
    refine c_region (g_y (y_add Z Z (by omega)) Z Z (GM Y (g_nil ?_)))
    have h4:=h3.drop (.hd _)
    refine x_round ((a1 ++ [a6.1]),h1,h2,a6.2.1,g3,g4,a0 + 1,g7) (by dsimp only; omega) (.cons Z (.cons Z (.cons Z (.cons Z (.cons Z (.cons Z (.nil _))))))) ⟨h4,(((((b0.t b4).t b5).t g0).t e3).t e4),d3.trans (ET (congrArg (fun l=>soYear_l1 t l a0 a1 a2) (drop_cons d4)) (ET (BE d5) (ET (IN a7) (rfl)))),by omega,by first | omega | (simp only [LA,LC,LN] at *; omega),(e2.mono (e3.t e4))⟩
  ·replace b3:=OF b3
   refine c_exit (x_thenE (x_rndE (x_blockE (x_cut (a1,a8,a9,a5) (.cons Z (.nil _)) ⟨d2,b0,d3.trans (ET (congrArg (fun l=>soYear_l1 t l a0 a1 a2) (drop_nil (by omega))) (rfl)),by first | omega | (simp only [LA,LC,LN] at *; omega)⟩))))
 ·rintro ⟨a3,b9,c0,c1⟩ d1 ⟨e5,k8,h5,k9⟩
  have h6:=row_len (e5.ok _ m0); unfold big at h6
  refine x_next (csr ((GM Y (GA Y (GA Y (gnx ((c_ret ?_))))))))
  obtain ⟨l0,e6,l1,h7⟩:=pub_row e5 (.hd _) (by simp)
  have h8:soYear t list=(a3,0):=ET (out_next h5) (rfl)
  refine x_ret ⟨_,_,rfl,rfl,⟨_,_,rfl,rfl,rfl⟩⟩ (⟨_,_,rfl,e6.fr,e6.grow,by rw [h8]; exact ⟨_,rfl,h7⟩⟩)
def soToDate (t:Table) (list:(List Bases)):(List Share) × Int:=
 (bnd (soYear t list) fun a0=>
 (if (a0.2≠0) then (([]:List Share),a0.2)
 else (bnd (sSum ((t.contribs.length:Int)) a0.1) fun a1=>
 (a1.1,a1.2))))
theorem soToDate_c {t:Table} {cs_t:List Value} {list:(List Bases)} {v_list:Value} {d:Dat} {w:World} (hd:∀ b,d b→b < w.heap.size) (h_t:tableTy.rel d w t cs_t) (h_list:Sl basesTy d w v_list list):Ret Tryz.prog 134 [.agg cs_t.toArray,v_list] w [] d (fun u d' w'=>∃ (v0:Value),u=.tuple #[v0,.int .i64 ((soToDate t list).2)]∧Sl shareTy d' w' v0 (soToDate t list).1):=by
 obtain ⟨v1,v2,v3,rfl,hS4,hS5,hS6⟩:=h_t
 obtain ⟨A7,c8,rfl,hn9,b9⟩:=hS4.fm
 obtain ⟨b3,b4,rfl,c0,c1⟩:=hS5.fm
 obtain ⟨b5,b6,rfl,c2,c3⟩:=hS6.fm
 obtain ⟨c4,c5,rfl,c6,c7⟩:=h_list.fm
 refine ret_enter (n:=24) Tryz.func134 Z Z (ble Z) ?_
 have hI0:=Inv.start hd
 refine csr ((g_e (ev_box hI0 Z) Z Z ?_))
 rintro _ c9 ⟨d0,rfl,a3,a2⟩
 refine GA Y (GA Y (gnx ((csr ((g_y (y_loadA (cs:=[.slice A7 (t.schemes).length c8,.slice b3 (t.contribs).length b4,.slice b5 (t.kinds).length b6,.int .i64 t.limit,.int .i64 t.round]) sh_26 Z ((blk_cells a3 m0).part (f:=0) (.take _ (.take _ (.take _ (.take _ (.take _ (.nil _)))))))) Z Z (GM Y ?_)))))))
 have a6:=soYear_c (t:=t) (list:=list) a3.lt (show tableTy.rel _ _ t _ from ⟨_,_,_,rfl,(hS4.mono a2),(hS5.mono a2),(hS6.mono a2)⟩) (h_list.mono a2)
 obtain ⟨a4,a5⟩:∃ r,soYear t list=r:=⟨_,rfl⟩
 rw [a5] at a6
 refine g_e (ev_pure a3 pf_208 Z a6) Z Z ?_
 rintro _ d1 ⟨d2,a1,d3,⟨d4,rfl,a7⟩⟩
 obtain ⟨d5,d6,rfl,d7,d8⟩:=a7.fm
 refine GM Y (g_y (y_extract Z Z) Z Z (g_y (y_extract Z Z) Z Z (GA Y (GA Y (gnx ((c_seq (csr ((GM Y (g_y (y_neq Z Z) Z Z (gnx (?_)))))))))))))
 refine c_cond Z (fun a0=>?_) (fun a0=>?_)
 ·replace a0:=OT a0
  refine csr ((GM Y (GA Y (GA Y (gnx ((c_ret ?_)))))))
  have b7:soToDate t list=(([]:List Share),a4.2):=ET (BE a5) (ET (IP a0) (rfl))
  refine x_thenR (x_ret ⟨_,_,rfl,rfl,⟨_,_,rfl,rfl,rfl⟩⟩ ?_)
  exact ⟨_,_,rfl,a1.fr,a1.grow,by rw [b7]; exact ⟨_,rfl,(Sl.nil_ _ _ _ none 0)⟩⟩
 ·replace a0:=OF a0
  refine c_skip (x_next (csr ((gfa fo_26_1 Z Z Z (gld sh_23 Z a1 m0 (i:=1) Z Z Z (gln el_23 Z Z Z (GM Y ?_)))))))
  have a8:=sSum_c (n:=(t.contribs.length:Int)) (list:=a4.1) a1.lt a7
  obtain ⟨a9,b0⟩:∃ r,sSum ((t.contribs.length:Int)) a4.1=r:=⟨_,rfl⟩
  rw [b0] at a8
  refine g_e (ev_pure a1 pf_137 Z a8) Z Z ?_
  rintro _ d9 ⟨e0,b1,e1,⟨e2,rfl,b2⟩⟩
  obtain ⟨e3,e4,rfl,e5,e6⟩:=b2.fm
  refine g_y (y_extract Z Z) Z Z (g_y (y_extract Z Z) Z Z (GA Y (GA Y (gnx ((c_ret ?_))))))
  have b8:soToDate t list=(a9.1,a9.2):=ET (BE a5) (ET (IN a0) (ET (BE b0) (rfl)))
  refine x_ret ⟨_,_,rfl,rfl,⟨_,_,rfl,rfl,rfl⟩⟩ (⟨_,_,rfl,b1.fr,b1.grow,by rw [b8]; exact ⟨_,rfl,b2⟩⟩)
def rReckon_m1 (gross:Int) (list:(List Input)) (a2:Nat) (a1:Bases × Int):Out (Int × Int × Int) (Out (List Bases × List TStep) (Clean × Int)):=
 (if ((a2:Int)=((list.length:Int) - 1)) then (bnd (baseMore a1.1 gross) fun a0=>
 (if (a0.2≠0) then (Out.ret ((Out.ret (((⟨([]:List Bases),(⟨0,0,0⟩:Bases),0,([]:List Share)⟩:Clean),a0.2)))))
 else (Out.next ((a0.1.cash,a0.1.taxable,a0.1.social)))))
 else (Out.next ((a1.1.cash,a1.1.taxable,a1.1.social))))
def rReckon_l1 (t:Table) (gross:Int) (list:(List Input)):List Input→Nat→(List Bases)→(List TStep)→Out (List Bases × List TStep) (Clean × Int)
 | [],a0,a1,a2=>(Out.next ((a1,a2)))
 | a4 :: tl1,a0,a1,a2=>(bnd (baseOf t a4.elements) fun a3=>
 (if (a3.2≠0) then (Out.ret (((⟨([]:List Bases),(⟨0,0,0⟩:Bases),0,([]:List Share)⟩:Clean),a3.2)))
 else (out (rReckon_m1 gross list a0 a3) fun ⟨a6,a5,a7⟩=>
 (rReckon_l1 t gross list tl1 (a0 + 1) ((a1 ++ [(⟨a6,a5,a7⟩:Bases)])) ((a2 ++ [(⟨a4.code,a5⟩:TStep)]))))))
def rReckon_m2 (a0:(List Int) × Int):Int:=
 (if (0 < (a0.1.length:Int)) then (opt (a0.1)[(((a0.1.length:Int) - 1)).toNat]? fun a1=>
 a1)
 else 0)
def rReckon (t:Table) (y:PYear) (gross:Int) (list:(List Input)):Clean × Int:=
 (out (rReckon_l1 t gross list list 0 (([]:List Bases)) (([]:List TStep))) fun ⟨a0,a4⟩=>
 (bnd (tYear t y a4) fun a1=>
 (if (a1.2≠0) then ((⟨([]:List Bases),(⟨0,0,0⟩:Bases),0,([]:List Share)⟩:Clean),a1.2)
 else (bnd (rReckon_m2 a1) fun a5=>
 (bnd (baseYear a0) fun a2=>
 (if (a2.2≠0) then ((⟨([]:List Bases),(⟨0,0,0⟩:Bases),0,([]:List Share)⟩:Clean),a2.2)
 else (bnd (soToDate t a0) fun a3=>
 (if (a3.2≠0) then ((⟨([]:List Bases),(⟨0,0,0⟩:Bases),0,([]:List Share)⟩:Clean),a3.2)
 else ((⟨a0,a2.1,a5,a3.1⟩:Clean),0)))))))))
theorem rReckon_c {t:Table} {cs_t:List Value} {y:PYear} {v_y:Value} {gross:Int} {list:(List Input)} {v_list:Value} {d:Dat} {w:World} (hd:∀ b,d b→b < w.heap.size) (h_t:tableTy.rel d w t cs_t) (h_y:PtrD pYearTy d w v_y y) (h_list:Sl inputTy d w v_list list):Ret Tryz.prog 42 [.agg cs_t.toArray,v_y,.int .i64 gross,v_list] w [] d (fun u d' w'=>∃ (cs0:List Value),u=.tuple #[.agg cs0.toArray,.int .i64 ((rReckon t y gross list).2)]∧cleanTy.rel d' w' (rReckon t y gross list).1 cs0):=by
 obtain ⟨v1,v2,v3,rfl,hS4,hS5,hS6⟩:=h_t
 obtain ⟨A7,c8,rfl,hn9,s5⟩:=hS4.fm
 obtain ⟨c4,c5,rfl,s6,s7⟩:=hS5.fm
 obtain ⟨c6,c7,rfl,s8,s9⟩:=hS6.fm
 obtain ⟨g5,t0,rfl,l0,l1⟩:=h_y
 obtain rfl:=l1
 obtain ⟨f0,f1,rfl,t1,t2⟩:=h_list.fm
 refine ret_enter (n:=111) Tryz.func42 Z Z (ble Z) ?_
 have hI0:=Inv.start hd
 refine csr ((g_e (ev_box hI0 Z) Z Z ?_))
 rintro _ t3 ⟨b4,rfl,l2,a7⟩
 refine g_e (ev_alloc l2 ze_97) Z Z ?_
 rintro _ t4 ⟨b5,rfl,l3,a8⟩
 refine GA Y (gnx ((csr ((g_e (ev_alloc l3 ze_97) Z Z ?_)))))
 rintro _ i9 ⟨b6,rfl,l4,a9⟩
 refine gnx ((csr ((GA Y (gnx ((c_seq (csr ((GM Y (gln el_79 Z Z Z (GM Y (g_nil ?_)))))))))))))
 refine x_next ?_
 have l5:=nil_row tStepTy 248 l4
 have l6:=nil_row basesTy 47 l5
 refine c_cut1 (ι:=List Bases × Option Addr × Nat × List TStep × Option Addr × Nat × Dat) (fun ⟨a4,c9,d0,b0,f2,f3,f4⟩=>[(1,.pointer (some ⟨g5,0,none⟩)),(4,.pointer (some ⟨b4,0,none⟩)),(8,.pointer (some ⟨b5,0,none⟩)),(10,.pointer (some ⟨b6,0,none⟩)),(11,.slice f2 b0.length f3)]) (fun ⟨a4,c9,d0,b0,f2,f3,f4⟩ g6=>Inv [] d w f4 [row basesTy 47 (.slice c9 a4.length d0) (a4),row tStepTy 248 (.slice f2 b0.length f3) (b0),blk b6 97 [.slice c9 a4.length d0,.int .i64 0,.int .i64 0,.int .i64 0,.int .i64 0,.slice none 0 0],blk b5 97 [.slice none 0 0,.int .i64 0,.int .i64 0,.int .i64 0,.int .i64 0,.slice none 0 0],blk b4 26 [.slice A7 (t.schemes).length c8,.slice c4 (t.contribs).length c5,.slice c6 (t.kinds).length c7,.int .i64 t.limit,.int .i64 t.round]] g6∧Le d i9 f4 g6∧rReckon_l1 t gross list list 0 (([]:List Bases)) (([]:List TStep))=Out.next ((a4,b0))∧a4.length≤list.length∧b0.length≤list.length) ?_ ?_
 ·refine c_block (c_loop (ι:=List Bases × Option Addr × Nat × List TStep × Option Addr × Nat × Nat × Dat) (fun ⟨a2,b7,b8,a3,b9,c0,a1,d6⟩=>[(1,.pointer (some ⟨g5,0,none⟩)),(2,.int .i64 gross),(3,.slice f0 (list).length f1),(4,.pointer (some ⟨b4,0,none⟩)),(8,.pointer (some ⟨b5,0,none⟩)),(10,.pointer (some ⟨b6,0,none⟩)),(11,.slice b9 a3.length c0),(18,.slice f0 (list).length f1),(19,.int .i64 (list.length:Int)),(20,.int .i64 (a1:Int))]) (fun ⟨a2,b7,b8,a3,b9,c0,a1,d6⟩ g7=>Inv [] d w d6 [row basesTy 47 (.slice b7 a2.length b8) (a2),row tStepTy 248 (.slice b9 a3.length c0) (a3),blk b6 97 [.slice b7 a2.length b8,.int .i64 0,.int .i64 0,.int .i64 0,.int .i64 0,.slice none 0 0],blk b5 97 [.slice none 0 0,.int .i64 0,.int .i64 0,.int .i64 0,.int .i64 0,.slice none 0 0],blk b4 26 [.slice A7 (t.schemes).length c8,.slice c4 (t.contribs).length c5,.slice c6 (t.kinds).length c7,.int .i64 t.limit,.int .i64 t.round]] g7∧Le d i9 d6 g7∧rReckon_l1 t gross list list 0 (([]:List Bases)) (([]:List TStep))=rReckon_l1 t gross list (list.drop a1) a1 a2 a3∧a1≤list.length∧a2.length≤a1∧a3.length≤a1) (fun ⟨a2,b7,b8,a3,b9,c0,a1,d6⟩=>list.length - a1) (([]:List Bases),none,0,([]:List TStep),none,0,0,d) (.cons Z (.cons Z (.cons Z (.cons Z (.cons Z (.cons Z (.cons Z (.cons Z (.cons Z (.cons Z (.nil _))))))))))) ⟨l6,Le.refl _ _,rfl,Nat.zero_le _,by simp,by simp⟩ ?_)
  rintro ⟨a2,b7,b8,a3,b9,c0,a1,d6⟩ g7 ⟨f5,d7,f6,t5,t6,t7⟩
  have l7:=row_len (f5.ok _ m0); unfold big at l7
  have l8:=row_len (f5.ok _ m1); unfold big at l8
  refine csr ((g_y (y_lss Z Z) Z Z (gnx ((c_seq (c_cond Z (fun e0=>?_) (fun e0=>?_)))))))
  ·replace e0:=OT e0
   obtain ⟨a0,f7⟩:=has (xs:=list) (k:=a1) (by omega)
   refine c_skip (x_next (c_seq (c_block (csr ((GM Y ?_))))))
   obtain ⟨t8,t9,u0,l9,m6,m7,u1⟩:=Sl.at_ (h_list.mono (((a7.t a8).t a9).t d7)) f7
   obtain ⟨u2,rfl,j0⟩:=m6
   obtain ⟨j1,j2,rfl,u3,u4⟩:=j0.fm
   refine g_y (y_indexAddr (i:=a1) el_79 Z l9 Z (rfl) (by omega)) Z Z (g_y (y_loadA (cs:=[.int .i64 a0.code.scheme,.int .i64 a0.code.kind,.int .i64 a0.code.amount,.int .i64 a0.code.flat,.bool a0.code.alone,.slice j1 (a0.elements).length j2]) sh_112 Z (m7.part (f:=0) (.take _ (.take _ (.take _ (.take _ (.take _ (.take _ (.nil _))))))))) Z Z (g_e (ev_alloc f5 ze_112) Z Z ?_))
   rintro _ u5 ⟨j3,rfl,m8,e1⟩
   refine GA Y (g_e (ev_store m8 Z Z Z sz_112 Z (.here _ _ (.here _ _ (.here _ _ (.here _ _ (.here _ _ (.here _ _ (.nil _))))))) (.hd _)) Z Z ?_)
   rintro _ u6 ⟨f8,e2⟩
   refine gnx ((csr ((g_y (y_loadA (cs:=[.slice A7 (t.schemes).length c8,.slice c4 (t.contribs).length c5,.slice c6 (t.kinds).length c7,.int .i64 t.limit,.int .i64 t.round]) sh_26 Z ((blk_cells f8 m5).part (f:=0) (.take _ (.take _ (.take _ (.take _ (.take _ (.nil _)))))))) Z Z (gfa fo_112_1 Z Z Z (gld sh_43 Z f8 m0 (i:=5) Z Z Z ?_))))))
   have j4:=baseOf_c (t:=t) (list:=a0.elements) f8.lt (show tableTy.rel _ _ t _ from ⟨_,_,_,rfl,(hS4.mono (((((a7.t a8).t a9).t d7).t e1).t e2)),(hS5.mono (((((a7.t a8).t a9).t d7).t e1).t e2)),(hS6.mono (((((a7.t a8).t a9).t d7).t e1).t e2))⟩) (j0.mono (e1.t e2))
   obtain ⟨a6,f9⟩:∃ r,baseOf t a0.elements=r:=⟨_,rfl⟩
   rw [f9] at j4
   refine g_e (ev_pure f8 pf_130 Z j4) Z Z ?_
   rintro _ u7 ⟨j5,m9,n0,rfl⟩
   refine GM Y (g_y (y_extract Z Z) Z Z (g_y (y_extract Z Z) Z Z (g_e (ev_alloc m9 ze_47) Z Z ?_)))
   rintro _ u8 ⟨j6,rfl,n1,n2⟩
   refine g_e (ev_store n1 Z Z Z sz_47 Z (.here _ _ (.here _ _ (.here _ _ (.nil _)))) (.hd _)) Z Z ?_
   rintro _ n3 ⟨e3,n4⟩
   refine GA Y (gnx ((c_seq (csr ((GM Y (g_y (y_neq Z Z) Z Z (gnx ((c_cond Z (fun c1=>?_) (fun c1=>?_)))))))))))
   ·replace c1:=OT c1
    refine csr ((g_y (y_build ze_97 pl_97 (.nil _)) Z Z (GM Y (g_e (ev_store e3 Z Z Z sz_97 Z (.here _ _ (.here _ _ (.here _ _ (.here _ _ (.here _ _ (.here _ _ (.nil _))))))) (.tl _ (.tl _ (.tl _ (.tl _ (.tl _ (.hd _))))))) Z Z ?_))))
    rintro _ u9 ⟨g8,v0⟩
    refine GA Y (gnx ((c_ret ?_)))
    have n5:rReckon_l1 t gross list list 0 (([]:List Bases)) (([]:List TStep))=(Out.ret (((⟨([]:List Bases),(⟨0,0,0⟩:Bases),0,([]:List Share)⟩:Clean),a6.2))):=f6.trans (ET (congrArg (fun l=>rReckon_l1 t gross list l a1 a2 a3) (drop_cons f7)) (ET (BE f9) (ET (IP c1) (rfl))))
    have n6:rReckon t y gross list=((⟨([]:List Bases),(⟨0,0,0⟩:Bases),0,([]:List Share)⟩:Clean),a6.2):=ET (out_ret n5) (rfl)
    refine x_thenR (x_blockR (x_thenR (x_rndR (x_blockR (x_cutR (x_thenR (x_ret ⟨_,_,_,rfl,rfl,blk_cells g8 m5,sh_97,⟨_,_,rfl,rfl,rfl⟩⟩ ?_)))))))
    exact ⟨_,_,rfl,g8.fr,g8.grow,by rw [n6]; exact ⟨_,rfl,⟨_,_,rfl,(Sl.nil_ _ _ _ none 0),(Sl.nil_ _ _ _ none 0)⟩⟩⟩
   ·replace c1:=OF c1
    refine c_skip (x_next (c_cut (ι:=Int × Int × Int × Dat) (fun ⟨b1,a5,b2,g0⟩=>[(1,.pointer (some ⟨g5,0,none⟩)),(2,.int .i64 gross),(3,.slice f0 (list).length f1),(4,.pointer (some ⟨b4,0,none⟩)),(8,.pointer (some ⟨b5,0,none⟩)),(10,.pointer (some ⟨b6,0,none⟩)),(11,.slice b9 a3.length c0),(13,.pointer (some ⟨j3,0,none⟩)),(14,.pointer (some ⟨j6,0,none⟩)),(18,.slice f0 (list).length f1),(19,.int .i64 (list.length:Int)),(20,.int .i64 (a1:Int))]) (fun ⟨b1,a5,b2,g0⟩ g9=>Inv [] d w g0 [blk j6 47 [.int .i64 b1,.int .i64 a5,.int .i64 b2],blk j3 112 [.int .i64 a0.code.scheme,.int .i64 a0.code.kind,.int .i64 a0.code.amount,.int .i64 a0.code.flat,.bool a0.code.alone,.slice j1 (a0.elements).length j2],row basesTy 47 (.slice b7 a2.length b8) (a2),row tStepTy 248 (.slice b9 a3.length c0) (a3),blk b6 97 [.slice b7 a2.length b8,.int .i64 0,.int .i64 0,.int .i64 0,.int .i64 0,.slice none 0 0],blk b5 97 [.slice none 0 0,.int .i64 0,.int .i64 0,.int .i64 0,.int .i64 0,.slice none 0 0],blk b4 26 [.slice A7 (t.schemes).length c8,.slice c4 (t.contribs).length c5,.slice c6 (t.kinds).length c7,.int .i64 t.limit,.int .i64 t.round]] g9∧Le j5 n3 g0 g9∧rReckon_m1 gross list a1 a6=Out.next ((b1,a5,b2))) ?_ ?_))
    ·refine csr ((GM Y (GM Y (gln el_79 Z Z Z (g_y (y_sub Z Z (by omega)) Z Z (g_y (y_eql Z Z) Z Z (gnx ((c_cond Z (fun c2=>?_) (fun c2=>?_))))))))))
     ·replace c2:=OT c2
      refine csr ((g_y (y_loadA (cs:=[.int .i64 a6.1.cash,.int .i64 a6.1.taxable,.int .i64 a6.1.social]) sh_47 Z ((blk_cells e3 m0).part (f:=0) (.take _ (.take _ (.take _ (.nil _)))))) Z Z (GM Y ?_)))
      have j7:=baseMore_c (b:=a6.1) (gross:=gross) e3.lt
      obtain ⟨d8,h0⟩:∃ r,baseMore a6.1 gross=r:=⟨_,rfl⟩
      rw [h0] at j7
      refine g_e (ev_pure e3 pf_131 Z j7) Z Z ?_
      rintro _ v4 ⟨n7,n8,n9,rfl⟩
      refine GM Y (g_y (y_extract Z Z) Z Z (g_y (y_extract Z Z) Z Z (g_e (ev_store n8 Z Z Z sz_47 Z (.here _ _ (.here _ _ (.here _ _ (.nil _)))) (.hd _)) Z Z ?_)))
      rintro _ v5 ⟨j8,o0⟩
      refine GA Y (gnx ((csr ((GM Y (g_y (y_neq Z Z) Z Z (gnx ((c_cond Z (fun d1=>?_) (fun d1=>?_))))))))))
      ·replace d1:=OT d1
       refine csr ((g_y (y_build ze_97 pl_97 (.nil _)) Z Z (GM Y (g_e (ev_store j8 Z Z Z sz_97 Z (.here _ _ (.here _ _ (.here _ _ (.here _ _ (.here _ _ (.here _ _ (.nil _))))))) (.tl _ (.tl _ (.tl _ (.tl _ (.tl _ (.hd _))))))) Z Z ?_))))
       rintro _ v6 ⟨h1,v7⟩
       refine GA Y (gnx ((c_ret ?_)))
       have o1:rReckon_m1 gross list a1 a6=(Out.ret ((Out.ret (((⟨([]:List Bases),(⟨0,0,0⟩:Bases),0,([]:List Share)⟩:Clean),d8.2))))):=ET (IP c2) (ET (BE h0) (ET (IP d1) (rfl)))
       have o2:rReckon_l1 t gross list list 0 (([]:List Bases)) (([]:List TStep))=(Out.ret (((⟨([]:List Bases),(⟨0,0,0⟩:Bases),0,([]:List Share)⟩:Clean),d8.2))):=f6.trans (ET (congrArg (fun l=>rReckon_l1 t gross list l a1 a2 a3) (drop_cons f7)) (ET (BE f9) (ET (IN c1) (ET (out_ret o1) (rfl)))))
       have o3:rReckon t y gross list=((⟨([]:List Bases),(⟨0,0,0⟩:Bases),0,([]:List Share)⟩:Clean),d8.2):=ET (out_ret o2) (rfl)
       refine x_cutR (x_blockR (x_thenR (x_rndR (x_blockR (x_cutR (x_thenR (x_ret ⟨_,_,_,rfl,rfl,blk_cells h1 m5,sh_97,⟨_,_,rfl,rfl,rfl⟩⟩ ?_)))))))
       exact ⟨_,_,rfl,h1.fr,h1.grow,by rw [o3]; exact ⟨_,rfl,⟨_,_,rfl,(Sl.nil_ _ _ _ none 0),(Sl.nil_ _ _ _ none 0)⟩⟩⟩
      ·replace d1:=OF d1
       refine c_skip (x_cut (d8.1.cash,d8.1.taxable,d8.1.social,n7) (.cons Z (.cons Z (.cons Z (.cons Z (.cons Z (.cons Z (.cons Z (.cons Z (.cons Z (.cons Z (.cons Z (.cons Z (.nil _))))))))))))) ⟨j8,(n9.t o0),ET (IP c2) (ET (BE h0) (ET (IN d1) (rfl)))⟩)
     ·replace c2:=OF c2
      refine c_skip (x_cut (a6.1.cash,a6.1.taxable,a6.1.social,j5) (.cons Z (.cons Z (.cons Z (.cons Z (.cons Z (.cons Z (.cons Z (.cons Z (.cons Z (.cons Z (.cons Z (.cons Z (.nil _))))))))))))) ⟨e3,(Le.refl _ _),ET (IN c2) (rfl)⟩)
    ·rintro ⟨b1,a5,b2,g0⟩ g9 ⟨h2,o4,o5⟩
     refine csr ((gfa fo_97_0 Z Z Z (gld sh_95 Z h2 m4 (i:=0) Z Z Z (g_y (y_loadA (cs:=[.int .i64 b1,.int .i64 a5,.int .i64 b2]) sh_47 Z ((blk_cells h2 m0).part (f:=0) (.take _ (.take _ (.take _ (.nil _)))))) Z Z (g_e (ev_buildSl (T:=basesTy) (xs:=[(⟨b1,a5,b2⟩:Bases)]) h2 el_95 ze_47 Z Z (ble Z) (ble Z) (.cons Z Z Z Z (.here _ _ (.here _ _ (.here _ _ (.nil _)))) (ble Z) (.nil _)) (.cons (x:=(⟨b1,a5,b2⟩:Bases)) (cs:=[.int .i64 b1,.int .i64 a5,.int .i64 b2]) Z .nil)) Z Z ?_)))))
     rintro _ v8 ⟨v9,o6,o7,o8,w0,rfl⟩
     refine g_e (ev_append o6 ei_95 Z Z m2 o8 (by simp only [LA,LC,LN,big] at *; omega) (by simp only [LA,LC,LN,big] at *; omega)) Z Z ?_
     rintro _ w1 ⟨o9,p0,p1,p2,rfl⟩
     have p3:=o9 _ (.tl _ (.tl _ (.hd _)))
     refine gfa fo_97_0 Z Z Z (g_e (ev_store p3 Z Z Z sz_95 Z (.here _ _ (.nil _)) (.tl _ (.tl _ (.tl _ (.tl _ (.hd _)))))) Z Z ?_)
     rintro _ w2 ⟨h3,p4⟩
     refine gnx ((c_region (GM Y (gfa fo_112_0 Z Z Z (g_y (y_loadA (cs:=[.int .i64 a0.code.scheme,.int .i64 a0.code.kind,.int .i64 a0.code.amount,.int .i64 a0.code.flat,.bool a0.code.alone]) sh_28 Z ((blk_cells h3 m1).part (f:=0) (.take _ (.take _ (.take _ (.take _ (.take _ (.nil _)))))))) Z Z (gfa fo_47_1 Z Z Z (gld sh_2 Z h3 m0 (i:=1) Z Z Z (g_y (y_build ze_248 pl_248 (.cons Z Z Z Z (.here _ _ (.here _ _ (.here _ _ (.here _ _ (.here _ _ (.nil _)))))) (ble Z) (.cons Z Z Z Z (.next _ (.next _ (.next _ (.next _ (.next _ (.here _ _ (.nil _))))))) (ble Z) (.nil _)))) Z Z (g_e (ev_buildSl (T:=tStepTy) (xs:=[(⟨a0.code,a5⟩:TStep)]) h3 el_243 ze_248 Z Z (ble Z) (ble Z) (.cons Z Z Z Z (.here _ _ (.here _ _ (.here _ _ (.here _ _ (.here _ _ (.here _ _ (.nil _))))))) (ble Z) (.nil _)) (.cons (x:=(⟨a0.code,a5⟩:TStep)) (cs:=[.int .i64 a0.code.scheme,.int .i64 a0.code.kind,.int .i64 a0.code.amount,.int .i64 a0.code.flat,.bool a0.code.alone,.int .i64 a5]) Z .nil)) Z Z ?_)))))))))
     rintro _ w3 ⟨p5,p6,p7,p8,w4,rfl⟩
     refine g_e (ev_append p6 ei_243 Z Z m3 p8 (by simp only [LA,LC,LN,big] at *; omega) (by simp only [LA,LC,LN,big] at *; omega)) Z Z ?_
     rintro _ w5 ⟨p9,q0,q1,q2,rfl⟩
     have q3:=p9 _ (.tl _ (.tl _ (.tl _ (.hd _))))
     refine GA Y (g_nil (x_blockN (x_next ?_)))
     refine c_region (g_y (y_add Z Z (by omega)) Z Z (GM Y (g_nil ?_)))
     have q4:=q3.drop (.hd _)
     have q5:=q4.drop (.hd _)
     refine x_round ((a2 ++ [(⟨b1,a5,b2⟩:Bases)]),p1,p2,(a3 ++ [(⟨a0.code,a5⟩:TStep)]),q1,q2,a1 + 1,p5) (by dsimp only; omega) (.cons Z (.cons Z (.cons Z (.cons Z (.cons Z (.cons Z (.cons Z (.cons Z (.cons Z (.cons Z (.nil _))))))))))) ⟨q5,(((((((((((d7.t e1).t e2).t n0).t n2).t n4).t o4).t o7).t p0).t p4).t p7).t q0),f6.trans (ET (congrArg (fun l=>rReckon_l1 t gross list l a1 a2 a3) (drop_cons f7)) (ET (BE f9) (ET (IN c1) (ET (out_next o5) (rfl))))),by omega,by first | omega | (simp only [LA,LC,LN] at *; omega),by first | omega | (simp only [LA,LC,LN] at *; omega)⟩
  ·replace e0:=OF e0
   refine c_exit (x_thenE (x_rndE (x_blockE (x_cut (a2,b7,b8,a3,b9,c0,d6) (.cons Z (.cons Z (.cons Z (.cons Z (.cons Z (.nil _)))))) ⟨f5,d7,f6.trans (ET (congrArg (fun l=>rReckon_l1 t gross list l a1 a2 a3) (drop_nil (by omega))) (rfl)),by first | omega | (simp only [LA,LC,LN] at *; omega),by first | omega | (simp only [LA,LC,LN] at *; omega)⟩))))
 ·rintro ⟨a4,c9,d0,b0,f2,f3,f4⟩ g6 ⟨g1,d2,g2,w6,w7⟩
  have q6:=row_len (g1.ok _ m0); unfold big at q6
  have q7:=row_len (g1.ok _ m1); unfold big at q7
  refine x_next (csr ((g_y (y_loadA (cs:=[.slice A7 (t.schemes).length c8,.slice c4 (t.contribs).length c5,.slice c6 (t.kinds).length c7,.int .i64 t.limit,.int .i64 t.round]) sh_26 Z ((blk_cells g1 m4).part (f:=0) (.take _ (.take _ (.take _ (.take _ (.take _ (.nil _)))))))) Z Z (GM Y (GM Y ?_)))))
  obtain ⟨w8,j9,d3,q8⟩:=pub_row g1 (.tl _ (.hd _)) (by simp)
  have k0:=tYear_c (t:=t) (y:=y) (list:=b0) j9.lt (show tableTy.rel _ _ t _ from ⟨_,_,_,rfl,(hS4.mono ((((a7.t a8).t a9).t d2).t d3)),(hS5.mono ((((a7.t a8).t a9).t d2).t d3)),(hS6.mono ((((a7.t a8).t a9).t d2).t d3))⟩) (show PtrD pYearTy _ _ _ y from ⟨_,_,rfl,(l0.mono ((((a7.t a8).t a9).t d2).t d3)),rfl⟩) q8
  obtain ⟨e4,e5⟩:∃ r,tYear t y b0=r:=⟨_,rfl⟩
  rw [e5] at k0
  refine g_e (ev_pure j9 pf_132 Z k0) Z Z ?_
  rintro _ q9 ⟨h4,h5,h6,⟨w9,rfl,k1⟩⟩
  obtain ⟨x0,x1,rfl,x2,x3⟩:=k1.fm
  refine GM Y (g_y (y_extract Z Z) Z Z (g_y (y_extract Z Z) Z Z (GA Y (GA Y (gnx ((c_seq (csr ((GM Y (g_y (y_neq Z Z) Z Z (gnx (?_)))))))))))))
  refine c_cond Z (fun b3=>?_) (fun b3=>?_)
  ·replace b3:=OT b3
   refine csr ((g_y (y_build ze_97 pl_97 (.nil _)) Z Z (GM Y (g_e (ev_store h5 Z Z Z sz_97 Z (.here _ _ (.here _ _ (.here _ _ (.here _ _ (.here _ _ (.here _ _ (.nil _))))))) (.tl _ (.tl _ (.hd _)))) Z Z ?_))))
   rintro _ x4 ⟨h7,x5⟩
   refine GA Y (gnx ((c_ret ?_)))
   have r0:rReckon t y gross list=((⟨([]:List Bases),(⟨0,0,0⟩:Bases),0,([]:List Share)⟩:Clean),e4.2):=ET (out_next g2) (ET (BE e5) (ET (IP b3) (rfl)))
   refine x_thenR (x_ret ⟨_,_,_,rfl,rfl,blk_cells h7 m2,sh_97,⟨_,_,rfl,rfl,rfl⟩⟩ ?_)
   exact ⟨_,_,rfl,h7.fr,h7.grow,by rw [r0]; exact ⟨_,rfl,⟨_,_,rfl,(Sl.nil_ _ _ _ none 0),(Sl.nil_ _ _ _ none 0)⟩⟩⟩
  ·replace b3:=OF b3
   refine c_skip (x_next (c_cut (ι:=Int × Dat) (fun ⟨d9,g3⟩=>[(4,.pointer (some ⟨b4,0,none⟩)),(8,.pointer (some ⟨b5,0,none⟩)),(10,.pointer (some ⟨b6,0,none⟩))]) (fun ⟨d9,g3⟩ h8=>Inv [] d w g3 [row basesTy 47 (.slice c9 a4.length d0) (a4),blk b6 97 [.slice c9 a4.length d0,.int .i64 0,.int .i64 0,.int .i64 0,.int .i64 d9,.slice none 0 0],blk b5 97 [.slice none 0 0,.int .i64 0,.int .i64 0,.int .i64 0,.int .i64 0,.slice none 0 0],blk b4 26 [.slice A7 (t.schemes).length c8,.slice c4 (t.contribs).length c5,.slice c6 (t.kinds).length c7,.int .i64 t.limit,.int .i64 t.round]] h8∧Le h4 q9 g3 h8∧rReckon_m2 e4=d9) ?_ ?_))
   ·refine csr ((GM Y (gln el_174 Z Z Z (g_y (y_gtr Z Z) Z Z (gnx ((c_cond Z (fun d4=>?_) (fun d4=>?_))))))))
    ·replace d4:=OT d4
     refine c_region (GM Y (GM Y (gln el_174 Z Z Z (g_y (y_sub Z Z (by omega)) Z Z ?_))))
     obtain ⟨r1,k2⟩:=has (xs:=e4.1) (k:=(((e4.1.length:Int) - 1)).toNat) (by omega)
     obtain ⟨x6,x7,x8,r2,r3,r4,x9⟩:=Sl.at_ k1 k2
     obtain rfl:=r3
     refine g_y (y_indexAddr (i:=(((e4.1.length:Int) - 1)).toNat) el_174 Z r2 Z ((Int.toNat_of_nonneg (by omega)).symm) (by omega)) Z Z (g_y (y_load1 sh_2 Z (r4.nth_ (i:=0) Z)) Z Z (gfa fo_97_2 Z Z Z (g_e (ev_store h5 Z Z Z sz_2 Z (.next _ (.next _ (.next _ (.next _ (.here _ _ (.nil _)))))) (.tl _ (.hd _))) Z Z ?_)))
     rintro _ y0 ⟨r5,r6⟩
     refine g_nil (x_cut (r1,h4) (.cons Z (.cons Z (.cons Z (.nil _)))) ⟨r5,r6,ET (IP d4) (ET (opt_some k2) (rfl))⟩)
    ·replace d4:=OF d4
     refine c_skip (x_cut (0,h4) (.cons Z (.cons Z (.cons Z (.nil _)))) ⟨h5,(Le.refl _ _),ET (IN d4) (rfl)⟩)
   ·rintro ⟨d9,g3⟩ h8 ⟨k3,h9,i0⟩
    refine c_seq (csr ((gfa fo_97_0 Z Z Z (gld sh_95 Z k3 m1 (i:=0) Z Z Z ?_))))
    obtain ⟨y1,k4,i1,i2⟩:=pub_row k3 (.hd _) (by simp)
    have k5:=baseYear_c (list:=a4) k4.lt i2
    obtain ⟨e6,g4⟩:∃ r,baseYear a4=r:=⟨_,rfl⟩
    rw [g4] at k5
    refine g_e (ev_pure k4 pf_133 Z k5) Z Z ?_
    rintro _ y2 ⟨y3,r7,e7,rfl⟩
    refine GM Y (g_y (y_extract Z Z) Z Z (g_y (y_extract Z Z) Z Z (gfa fo_97_1 Z Z Z (g_e (ev_store r7 Z Z Z sz_47 Z (.next _ (.here _ _ (.here _ _ (.here _ _ (.nil _))))) (.hd _)) Z Z ?_))))
    rintro _ y4 ⟨e8,e9⟩
    refine GA Y (gnx ((csr ((GM Y (g_y (y_neq Z Z) Z Z (gnx ((c_cond Z (fun c3=>?_) (fun c3=>?_))))))))))
    ·replace c3:=OT c3
     refine csr ((g_y (y_build ze_97 pl_97 (.nil _)) Z Z (GM Y (g_e (ev_store e8 Z Z Z sz_97 Z (.here _ _ (.here _ _ (.here _ _ (.here _ _ (.here _ _ (.here _ _ (.nil _))))))) (.tl _ (.hd _))) Z Z ?_))))
     rintro _ y5 ⟨i3,y6⟩
     refine GA Y (gnx ((c_ret ?_)))
     have r8:rReckon t y gross list=((⟨([]:List Bases),(⟨0,0,0⟩:Bases),0,([]:List Share)⟩:Clean),e6.2):=ET (out_next g2) (ET (BE e5) (ET (IN b3) (ET (BE i0) (ET (BE g4) (ET (IP c3) (rfl))))))
     refine x_thenR (x_ret ⟨_,_,_,rfl,rfl,blk_cells i3 m1,sh_97,⟨_,_,rfl,rfl,rfl⟩⟩ ?_)
     exact ⟨_,_,rfl,i3.fr,i3.grow,by rw [r8]; exact ⟨_,rfl,⟨_,_,rfl,(Sl.nil_ _ _ _ none 0),(Sl.nil_ _ _ _ none 0)⟩⟩⟩
    ·replace c3:=OF c3
     refine c_skip (x_next (c_seq (csr ((g_y (y_loadA (cs:=[.slice A7 (t.schemes).length c8,.slice c4 (t.contribs).length c5,.slice c6 (t.kinds).length c7,.int .i64 t.limit,.int .i64 t.round]) sh_26 Z ((blk_cells e8 m2).part (f:=0) (.take _ (.take _ (.take _ (.take _ (.take _ (.nil _)))))))) Z Z (gfa fo_97_0 Z Z Z (gld sh_95 Z e8 m0 (i:=0) Z Z Z ?_)))))))
     have k6:=soToDate_c (t:=t) (list:=a4) e8.lt (show tableTy.rel _ _ t _ from ⟨_,_,_,rfl,(hS4.mono (((((((((a7.t a8).t a9).t d2).t d3).t h6).t h9).t i1).t e7).t e9)),(hS5.mono (((((((((a7.t a8).t a9).t d2).t d3).t h6).t h9).t i1).t e7).t e9)),(hS6.mono (((((((((a7.t a8).t a9).t d2).t d3).t h6).t h9).t i1).t e7).t e9))⟩) (i2.mono (e7.t e9))
     obtain ⟨i4,i5⟩:∃ r,soToDate t a4=r:=⟨_,rfl⟩
     rw [i5] at k6
     refine g_e (ev_pure e8 pf_134 Z k6) Z Z ?_
     rintro _ y7 ⟨y8,r9,s0,⟨y9,rfl,k7⟩⟩
     obtain ⟨s1,s2,rfl,z0,z1⟩:=k7.fm
     refine GM Y (g_y (y_extract Z Z) Z Z (g_y (y_extract Z Z) Z Z (gfa fo_97_3 Z Z Z (g_e (ev_store r9 Z Z Z sz_62 Z (.next _ (.next _ (.next _ (.next _ (.next _ (.here _ _ (.nil _))))))) (.hd _)) Z Z ?_))))
     rintro _ z2 ⟨i6,k8⟩
     refine GA Y (gnx ((csr ((GM Y (g_y (y_neq Z Z) Z Z (gnx ((c_cond Z (fun d5=>?_) (fun d5=>?_))))))))))
     ·replace d5:=OT d5
      refine csr ((g_y (y_build ze_97 pl_97 (.nil _)) Z Z (GM Y (g_e (ev_store i6 Z Z Z sz_97 Z (.here _ _ (.here _ _ (.here _ _ (.here _ _ (.here _ _ (.here _ _ (.nil _))))))) (.tl _ (.hd _))) Z Z ?_))))
      rintro _ z3 ⟨i7,z4⟩
      refine GA Y (gnx ((c_ret ?_)))
      have s3:rReckon t y gross list=((⟨([]:List Bases),(⟨0,0,0⟩:Bases),0,([]:List Share)⟩:Clean),i4.2):=ET (out_next g2) (ET (BE e5) (ET (IN b3) (ET (BE i0) (ET (BE g4) (ET (IN c3) (ET (BE i5) (ET (IP d5) (rfl))))))))
      refine x_thenR (x_ret ⟨_,_,_,rfl,rfl,blk_cells i7 m1,sh_97,⟨_,_,rfl,rfl,rfl⟩⟩ ?_)
      exact ⟨_,_,rfl,i7.fr,i7.grow,by rw [s3]; exact ⟨_,rfl,⟨_,_,rfl,(Sl.nil_ _ _ _ none 0),(Sl.nil_ _ _ _ none 0)⟩⟩⟩
     ·replace d5:=OF d5
      refine c_skip (x_next (csr ((g_y (y_loadA (cs:=[.slice c9 (a4).length d0,.int .i64 e6.1.cash,.int .i64 e6.1.taxable,.int .i64 e6.1.social,.int .i64 d9,.slice s1 (i4.1).length s2]) sh_97 Z ((blk_cells i6 m0).part (f:=0) (.take _ (.take _ (.take _ (.take _ (.take _ (.take _ (.nil _))))))))) Z Z (g_e (ev_store i6 Z Z Z sz_97 Z (.here _ _ (.here _ _ (.here _ _ (.here _ _ (.here _ _ (.here _ _ (.nil _))))))) (.tl _ (.hd _))) Z Z ?_)))))
      rintro _ z5 ⟨i8,k9⟩
      refine GA Y (gnx ((c_ret ?_)))
      have s4:rReckon t y gross list=((⟨a4,e6.1,d9,i4.1⟩:Clean),0):=ET (out_next g2) (ET (BE e5) (ET (IN b3) (ET (BE i0) (ET (BE g4) (ET (IN c3) (ET (BE i5) (ET (IN d5) (rfl))))))))
      refine x_ret ⟨_,_,_,rfl,rfl,blk_cells i8 m1,sh_97,⟨_,_,rfl,rfl,rfl⟩⟩ (⟨_,_,rfl,i8.fr,i8.grow,by rw [s4]; exact ⟨_,rfl,⟨_,_,rfl,(i2.mono ((((e7.t e9).t s0).t k8).t k9)),(k7.mono (k8.t k9))⟩⟩⟩)
def rSlip (t:Table) (was:Totals) (c:Clean) (k:Int) (back:Bool):Slip × Int:=
 (bnd (baseSub c.sum was.bases) fun a0=>
 (if (a0.2≠0) then ((⟨0,(⟨0,0,0⟩:Bases),0,0,([]:List Share),0,([]:List Taken),0⟩:Slip),a0.2)
 else (bnd (hStep t ((⟨was.tax,was.shortfall⟩:HState)) a0.1.cash c.tax back) fun a1=>
 (if (a1.2.2≠0) then ((⟨0,(⟨0,0,0⟩:Bases),0,0,([]:List Share),0,([]:List Taken),0⟩:Slip),a1.2.2)
 else (bnd (shDelta c.shares was.shares) fun a2=>
 (if (a2.2≠0) then ((⟨0,(⟨0,0,0⟩:Bases),0,0,([]:List Share),0,([]:List Taken),0⟩:Slip),a2.2)
 else (bnd (sMake k a0.1 a1.1 a1.2.1.shortfall a2.1 (([]:List Taken))) fun a3=>
 (a3.1,a3.2))))))))
theorem rSlip_c {t:Table} {cs_t:List Value} {was:Totals} {cs_was:List Value} {c:Clean} {cs_c:List Value} {k:Int} {back:Bool} {d:Dat} {w:World} (hd:∀ b,d b→b < w.heap.size) (h_t:tableTy.rel d w t cs_t) (h_was:totalsTy.rel d w was cs_was) (h_c:cleanTy.rel d w c cs_c):Ret Tryz.prog 157 [.agg cs_t.toArray,.agg cs_was.toArray,.agg cs_c.toArray,.int .i64 k,.bool back] w [] d (fun u d' w'=>∃ (cs0:List Value),u=.tuple #[.agg cs0.toArray,.int .i64 ((rSlip t was c k back).2)]∧slipTy.rel d' w' (rSlip t was c k back).1 cs0):=by
 obtain ⟨v1,v2,v3,rfl,hS4,hS5,hS6⟩:=h_t
 obtain ⟨A7,c8,rfl,hn9,f8⟩:=hS4.fm
 obtain ⟨e0,e1,rfl,f9,g0⟩:=hS5.fm
 obtain ⟨e2,e3,rfl,g1,g2⟩:=hS6.fm
 obtain ⟨g3,rfl,c4⟩:=h_was
 obtain ⟨g4,g5,rfl,g6,g7⟩:=c4.fm
 obtain ⟨g8,g9,rfl,e4,c5⟩:=h_c
 obtain ⟨h0,h1,rfl,h2,h3⟩:=e4.fm
 obtain ⟨h4,h5,rfl,h6,h7⟩:=c5.fm
 refine ret_enter (n:=70) Tryz.func157 Z Z (ble Z) ?_
 have hI0:=Inv.start hd
 refine csr ((g_e (ev_box hI0 Z) Z Z ?_))
 rintro _ h8 ⟨h9,rfl,e5,a5⟩
 refine g_e (ev_box e5 Z) Z Z ?_
 rintro _ i0 ⟨i1,rfl,e6,a6⟩
 refine g_e (ev_box e6 Z) Z Z ?_
 rintro _ i2 ⟨i3,rfl,e7,a7⟩
 refine g_e (ev_alloc e7 ze_51) Z Z ?_
 rintro _ i4 ⟨i5,rfl,b6,a8⟩
 refine GA Y (gnx ((csr ((gfa fo_97_1 Z Z Z (g_y (y_loadA (cs:=[.int .i64 c.sum.cash,.int .i64 c.sum.taxable,.int .i64 c.sum.social]) sh_47 Z ((blk_cells b6 m1).part (f:=1) (.skip _ (.take _ (.take _ (.take _ (.nil _))))))) Z Z (gfa fo_64_0 Z Z Z (g_y (y_loadA (cs:=[.int .i64 was.bases.cash,.int .i64 was.bases.taxable,.int .i64 was.bases.social]) sh_47 Z ((blk_cells b6 m2).part (f:=0) (.take _ (.take _ (.take _ (.nil _)))))) Z Z ?_))))))))
 have c6:=baseSub_c (a:=c.sum) (b:=was.bases) b6.lt
 obtain ⟨a1,a9⟩:∃ r,baseSub c.sum was.bases=r:=⟨_,rfl⟩
 rw [a9] at c6
 refine g_e (ev_pure b6 pf_223 Z c6) Z Z ?_
 rintro _ i6 ⟨i7,e8,b0,rfl⟩
 refine GM Y (g_y (y_extract Z Z) Z Z (g_y (y_extract Z Z) Z Z (g_e (ev_alloc e8 ze_47) Z Z ?_)))
 rintro _ i8 ⟨i9,rfl,e9,b1⟩
 refine g_e (ev_store e9 Z Z Z sz_47 Z (.here _ _ (.here _ _ (.here _ _ (.nil _)))) (.hd _)) Z Z ?_
 rintro _ j0 ⟨a2,b2⟩
 refine GA Y (gnx ((c_seq (csr ((GM Y (g_y (y_neq Z Z) Z Z (gnx ((c_cond Z (fun a0=>?_) (fun a0=>?_)))))))))))
 ·replace a0:=OT a0
  refine csr ((g_y (y_build ze_51 pl_51 (.nil _)) Z Z (GM Y (g_e (ev_store a2 Z Z Z sz_51 Z (.here _ _ (.here _ _ (.here _ _ (.here _ _ (.here _ _ (.here _ _ (.here _ _ (.here _ _ (.here _ _ (.here _ _ (.nil _))))))))))) (.tl _ (.hd _))) Z Z ?_))))
  rintro _ j1 ⟨b8,j2⟩
  refine GA Y (gnx ((c_ret ?_)))
  have f0:rSlip t was c k back=((⟨0,(⟨0,0,0⟩:Bases),0,0,([]:List Share),0,([]:List Taken),0⟩:Slip),a1.2):=ET (BE a9) (ET (IP a0) (rfl))
  refine x_thenR (x_ret ⟨_,_,_,rfl,rfl,blk_cells b8 m1,sh_51,⟨_,_,rfl,rfl,rfl⟩⟩ ?_)
  exact ⟨_,_,rfl,b8.fr,b8.grow,by rw [f0]; exact ⟨_,rfl,⟨_,_,rfl,(Sl.nil_ _ _ _ none 0),(Sl.nil_ _ _ _ none 0)⟩⟩⟩
 ·replace a0:=OF a0
  refine c_skip (x_next (csr ((g_y (y_loadA (cs:=[.slice A7 (t.schemes).length c8,.slice e0 (t.contribs).length e1,.slice e2 (t.kinds).length e3,.int .i64 t.limit,.int .i64 t.round]) sh_26 Z ((blk_cells a2 m4).part (f:=0) (.take _ (.take _ (.take _ (.take _ (.take _ (.nil _)))))))) Z Z (gfa fo_64_1 Z Z Z (gld sh_2 Z a2 m3 (i:=3) Z Z Z (gfa fo_64_2 Z Z Z (gld sh_2 Z a2 m3 (i:=4) Z Z Z (g_y (y_build ze_351 pl_351 (.cons Z Z Z Z (.here _ _ (.nil _)) (ble Z) (.cons Z Z Z Z (.next _ (.here _ _ (.nil _))) (ble Z) (.nil _)))) Z Z (gfa fo_47_0 Z Z Z (gld sh_2 Z a2 m0 (i:=0) Z Z Z (gfa fo_97_2 Z Z Z (gld sh_2 Z a2 m2 (i:=4) Z Z Z ?_)))))))))))))
  refine GM Y ?_
  have c7:=hStep_c (t:=t) (s:=(⟨was.tax,was.shortfall⟩:HState)) (cash:=a1.1.cash) (due:=c.tax) (back:=back) a2.lt (show tableTy.rel _ _ t _ from ⟨_,_,_,rfl,(hS4.mono ((((((a5.t a6).t a7).t a8).t b0).t b1).t b2)),(hS5.mono ((((((a5.t a6).t a7).t a8).t b0).t b1).t b2)),(hS6.mono ((((((a5.t a6).t a7).t a8).t b0).t b1).t b2))⟩)
  obtain ⟨b3,b7⟩:∃ r,hStep t ((⟨was.tax,was.shortfall⟩:HState)) a1.1.cash c.tax back=r:=⟨_,rfl⟩
  rw [b7] at c7
  refine g_e (ev_pure a2 pf_224 Z c7) Z Z ?_
  rintro _ j3 ⟨j4,f1,c9,rfl⟩
  refine GM Y (g_y (y_extract Z Z) Z Z (g_y (y_extract Z Z) Z Z (g_y (y_extract Z Z) Z Z (g_e (ev_alloc f1 ze_351) Z Z ?_))))
  rintro _ j5 ⟨j6,rfl,f2,d0⟩
  refine GA Y (g_e (ev_store f2 Z Z Z sz_351 Z (.here _ _ (.here _ _ (.nil _))) (.hd _)) Z Z ?_)
  rintro _ j7 ⟨b4,d1⟩
  refine GA Y (gnx ((c_seq (csr ((GM Y (g_y (y_neq Z Z) Z Z (gnx ((c_cond Z (fun a3=>?_) (fun a3=>?_)))))))))))
  ·replace a3:=OT a3
   refine csr ((g_y (y_build ze_51 pl_51 (.nil _)) Z Z (GM Y (g_e (ev_store b4 Z Z Z sz_51 Z (.here _ _ (.here _ _ (.here _ _ (.here _ _ (.here _ _ (.here _ _ (.here _ _ (.here _ _ (.here _ _ (.here _ _ (.nil _))))))))))) (.tl _ (.tl _ (.hd _)))) Z Z ?_))))
   rintro _ j8 ⟨b9,j9⟩
   refine GA Y (gnx ((c_ret ?_)))
   have f3:rSlip t was c k back=((⟨0,(⟨0,0,0⟩:Bases),0,0,([]:List Share),0,([]:List Taken),0⟩:Slip),b3.2.2):=ET (BE a9) (ET (IN a0) (ET (BE b7) (ET (IP a3) (rfl))))
   refine x_thenR (x_ret ⟨_,_,_,rfl,rfl,blk_cells b9 m2,sh_51,⟨_,_,rfl,rfl,rfl⟩⟩ ?_)
   exact ⟨_,_,rfl,b9.fr,b9.grow,by rw [f3]; exact ⟨_,rfl,⟨_,_,rfl,(Sl.nil_ _ _ _ none 0),(Sl.nil_ _ _ _ none 0)⟩⟩⟩
  ·replace a3:=OF a3
   refine c_skip (x_next (csr ((gfa fo_97_3 Z Z Z (gld sh_62 Z b4 m3 (i:=5) Z Z Z (gfa fo_64_3 Z Z Z (gld sh_62 Z b4 m4 (i:=5) Z Z Z ?_)))))))
   have d2:=shDelta_c (due:=c.shares) (posted:=was.shares) b4.lt (c5.mono (((((((((a5.t a6).t a7).t a8).t b0).t b1).t b2).t c9).t d0).t d1)) (c4.mono (((((((((a5.t a6).t a7).t a8).t b0).t b1).t b2).t c9).t d0).t d1))
   obtain ⟨c0,c1⟩:∃ r,shDelta c.shares was.shares=r:=⟨_,rfl⟩
   rw [c1] at d2
   refine g_e (ev_pure b4 pf_225 Z d2) Z Z ?_
   rintro _ k0 ⟨k1,b5,k2,⟨k3,rfl,d3⟩⟩
   obtain ⟨k4,k5,rfl,k6,k7⟩:=d3.fm
   refine GM Y (g_y (y_extract Z Z) Z Z (g_y (y_extract Z Z) Z Z (GA Y (GA Y (gnx ((c_seq (csr ((GM Y (g_y (y_neq Z Z) Z Z (gnx (?_)))))))))))))
   refine c_cond Z (fun a4=>?_) (fun a4=>?_)
   ·replace a4:=OT a4
    refine csr ((g_y (y_build ze_51 pl_51 (.nil _)) Z Z (GM Y (g_e (ev_store b5 Z Z Z sz_51 Z (.here _ _ (.here _ _ (.here _ _ (.here _ _ (.here _ _ (.here _ _ (.here _ _ (.here _ _ (.here _ _ (.here _ _ (.nil _))))))))))) (.tl _ (.tl _ (.hd _)))) Z Z ?_))))
    rintro _ k8 ⟨c2,k9⟩
    refine GA Y (gnx ((c_ret ?_)))
    have f4:rSlip t was c k back=((⟨0,(⟨0,0,0⟩:Bases),0,0,([]:List Share),0,([]:List Taken),0⟩:Slip),c0.2):=ET (BE a9) (ET (IN a0) (ET (BE b7) (ET (IN a3) (ET (BE c1) (ET (IP a4) (rfl))))))
    refine x_thenR (x_ret ⟨_,_,_,rfl,rfl,blk_cells c2 m2,sh_51,⟨_,_,rfl,rfl,rfl⟩⟩ ?_)
    exact ⟨_,_,rfl,c2.fr,c2.grow,by rw [f4]; exact ⟨_,rfl,⟨_,_,rfl,(Sl.nil_ _ _ _ none 0),(Sl.nil_ _ _ _ none 0)⟩⟩⟩
   ·replace a4:=OF a4
    refine c_skip (x_next (csr ((GM Y (g_y (y_loadA (cs:=[.int .i64 a1.1.cash,.int .i64 a1.1.taxable,.int .i64 a1.1.social]) sh_47 Z ((blk_cells b5 m1).part (f:=0) (.take _ (.take _ (.take _ (.nil _)))))) Z Z (GM Y (gfa fo_351_1 Z Z Z (gld sh_2 Z b5 m0 (i:=1) Z Z Z (GM Y ?_)))))))))
    have d4:=sMake_c (period:=k) (b:=a1.1) (tax:=b3.1) (short:=b3.2.1.shortfall) (rw:=c0.1) (taken:=([]:List Taken)) b5.lt d3 (Sl.nil_ _ _ _ none 0)
    obtain ⟨d5,d6⟩:∃ r,sMake k a1.1 b3.1 b3.2.1.shortfall c0.1 (([]:List Taken))=r:=⟨_,rfl⟩
    rw [d6] at d4
    refine g_e (ev_pure b5 pf_111 Z d4) Z Z ?_
    rintro _ l0 ⟨l1,f5,l2,⟨l3,rfl,f6⟩⟩
    obtain ⟨l4,l5,rfl,d7,d8⟩:=f6
    obtain ⟨l6,l7,rfl,l8,l9⟩:=d7.fm
    obtain ⟨m6,m7,rfl,m8,m9⟩:=d8.fm
    refine g_y (y_extract Z Z) Z Z (g_y (y_extract Z Z) Z Z (g_e (ev_store f5 Z Z Z sz_51 Z (.here _ _ (.here _ _ (.here _ _ (.here _ _ (.here _ _ (.here _ _ (.here _ _ (.here _ _ (.here _ _ (.here _ _ (.nil _))))))))))) (.tl _ (.tl _ (.hd _)))) Z Z ?_))
    rintro _ n0 ⟨c3,d9⟩
    refine GA Y (gnx ((c_ret ?_)))
    have f7:rSlip t was c k back=(d5.1,d5.2):=ET (BE a9) (ET (IN a0) (ET (BE b7) (ET (IN a3) (ET (BE c1) (ET (IN a4) (ET (BE d6) (rfl)))))))
    refine x_ret ⟨_,_,_,rfl,rfl,blk_cells c3 m2,sh_51,⟨_,_,rfl,rfl,rfl⟩⟩ (⟨_,_,rfl,c3.fr,c3.grow,by rw [f7]; exact ⟨_,rfl,⟨_,_,rfl,(d7.mono d9),(d8.mono d9)⟩⟩⟩)
end Go.Proofs.YtclblpmjamcknaaGreat
