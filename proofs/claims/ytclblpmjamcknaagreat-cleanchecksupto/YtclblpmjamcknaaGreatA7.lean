import Derived.Test.YtclblpmjamcknaaGreatA6
import Derived.Test.YtclblpmjamcknaaGreatCore15
set_option linter.unusedVariables false
set_option linter.unusedSimpArgs false
set_option maxRecDepth 8000
set_option maxHeartbeats 1000000
namespace Go.Proofs.YtclblpmjamcknaaGreat
open Go.Sx
structure YearS where
 contribs:Int
 slips:(List Slip)
 totals:Totals
 deriving DecidableEq,Inhabited
def yearTy :Ty YearS where
 size:=11
 rel:=fun d w x cs=>∃ v0 v1:Value,cs=[.int .i64 x.contribs,v0,.int .i64 x.totals.bases.cash,.int .i64 x.totals.bases.taxable,.int .i64 x.totals.bases.social,.int .i64 x.totals.tax,.int .i64 x.totals.shortfall,v1,.int .i64 x.totals.net,.int .i64 x.totals.taken,.int .i64 x.totals.pay]∧Sl slipTy d w v0 x.slips∧Sl shareTy d w v1 x.totals.shares∧(x.slips.length≤53)
 len:=by rintro d w x cs ⟨v0,v1,rfl,_,_,_⟩; rfl
 mono:=by rintro d w d' w' x cs hle ⟨v0,v1,rfl,h0,h1,hi0⟩; exact ⟨v0,v1,rfl,h0.mono hle,h1.mono hle,hi0⟩
 one:=by
  rintro d w x cs ⟨v0,v1,rfl,h0,h1,hi0⟩
  obtain ⟨_,_,rfl,_,_⟩:=h0.fm
  obtain ⟨_,_,rfl,_,_⟩:=h1.fm
  exact fun u hu=>List.all_eq_true.1 (show List.all _ (·.oneCell')=true from rfl) u hu
def yearR (r:Nat) (x:YearS):Res:=obj r 231 yearTy x
structure BookS where
 list:(List OState)
 deriving DecidableEq,Inhabited
def bookTy :Ty BookS where
 size:=1
 rel:=fun d w x cs=>∃ v0:Value,cs=[v0]∧Sl oStateTy d w v0 x.list∧(x.list.length≤8)
 len:=by rintro d w x cs ⟨v0,rfl,_,_⟩; rfl
 mono:=by rintro d w d' w' x cs hle ⟨v0,rfl,h0,hi0⟩; exact ⟨v0,rfl,h0.mono hle,hi0⟩
 one:=by
  rintro d w x cs ⟨v0,rfl,h0,hi0⟩
  obtain ⟨_,_,rfl,_,_⟩:=h0.fm
  exact fun u hu=>List.all_eq_true.1 (show List.all _ (·.oneCell')=true from rfl) u hu
def bookR (r:Nat) (x:BookS):Res:=obj r 265 bookTy x
structure EmpS where
 table:Table
 year:PYear
 code:Code
 prot:Int
 next:(List Elem)
 inputs:(List Input)
 posted:YearS
 orders:BookS
 deriving DecidableEq,Inhabited
def empTy (posted:Nat) (orders:Nat):Ty EmpS where
 size:=16
 rel:=fun d w x cs=>∃ v0 v1 v2 v3 v4 v5:Value,cs=[v0,v1,v2,.int .i64 x.table.limit,.int .i64 x.table.round,v3,.int .i64 x.code.scheme,.int .i64 x.code.kind,.int .i64 x.code.amount,.int .i64 x.code.flat,.bool x.code.alone,.int .i64 x.prot,v4,v5,.pointer (some ⟨posted,0,none⟩),.pointer (some ⟨orders,0,none⟩)]∧Sl (Ty.slice bandTy) d w v0 x.table.schemes∧Sl contribTy d w v1 x.table.contribs∧Sl kindTy d w v2 x.table.kinds∧PtrD pYearTy d w v3 x.year∧Sl elemTy d w v4 x.next∧Sl inputTy d w v5 x.inputs∧(x.inputs.length≤x.posted.slips.length)∧(x.inputs.length≤53)∧(x.next.length≤32)∧(∀ i ∈ x.inputs,i.elements.length≤32)
 len:=by rintro d w x cs ⟨v0,v1,v2,v3,v4,v5,rfl,_,_,_,_,_,_,_,_,_,_⟩; rfl
 mono:=by rintro d w d' w' x cs hle ⟨v0,v1,v2,v3,v4,v5,rfl,h0,h1,h2,h3,h4,h5,hi0,hi1,hi2,hi3⟩; exact ⟨v0,v1,v2,v3,v4,v5,rfl,h0.mono hle,h1.mono hle,h2.mono hle,h3.mono hle,h4.mono hle,h5.mono hle,hi0,hi1,hi2,hi3⟩
 one:=by
  rintro d w x cs ⟨v0,v1,v2,v3,v4,v5,rfl,h0,h1,h2,h3,h4,h5,hi0,hi1,hi2,hi3⟩
  obtain ⟨_,_,rfl,_,_⟩:=h0.fm
  obtain ⟨_,_,rfl,_,_⟩:=h1.fm
  obtain ⟨_,_,rfl,_,_⟩:=h2.fm
  obtain ⟨_,_,rfl,_,_⟩:=h3
  obtain ⟨_,_,rfl,_,_⟩:=h4.fm
  obtain ⟨_,_,rfl,_,_⟩:=h5.fm
  exact fun u hu=>List.all_eq_true.1 (show List.all _ (·.oneCell')=true from rfl) u hu
def empR (r:Nat) (posted:Nat) (orders:Nat) (x:EmpS):Res:=star (obj r 214 (empTy posted orders) x) (star (yearR posted x.posted) (bookR orders x.orders))
structure DeskS where
 emp:EmpS
 fixes:(List Fix)
 first:(List Input)
 deriving DecidableEq,Inhabited
def deskTy (emp:Nat) (fixesA:Option Addr) (fixesc:Nat) (firstA:Option Addr) (firstc:Nat):Ty DeskS where
 size:=3
 rel:=fun d w x cs=>cs=[.pointer (some ⟨emp,0,none⟩),.slice fixesA x.fixes.length fixesc,.slice firstA x.first.length firstc]∧(x.first.length=x.emp.inputs.length)∧(x.first.length≤53)∧(x.fixes.length≤256)∧(∀ f ∈ x.fixes,1≤f.period∧f.period≤(x.first.length:Int))∧(∀ f ∈ x.fixes,f.elements.length≤32)∧(∀ i ∈ x.first,i.elements.length≤32)
 len:=by rintro d w x cs ⟨rfl,_,_,_,_,_,_⟩; rfl
 mono:=by rintro d w d' w' x cs hle ⟨rfl,hi0,hi1,hi2,hi3,hi4,hi5⟩; exact ⟨rfl,hi0,hi1,hi2,hi3,hi4,hi5⟩
 one:=by
  rintro d w x cs ⟨rfl,hi0,hi1,hi2,hi3,hi4,hi5⟩
  exact fun u hu=>List.all_eq_true.1 (show List.all _ (·.oneCell')=true from rfl) u hu
def deskR (r:Nat) (emp:Nat) (emp_posted:Nat) (emp_orders:Nat) (fixesA:Option Addr) (fixesc:Nat) (firstA:Option Addr) (firstc:Nat) (x:DeskS):Res:=star (obj r 81 (deskTy emp fixesA fixesc firstA firstc) x) (star (empR emp emp_posted emp_orders x.emp) (star (row fixTy 156 (.slice fixesA x.fixes.length fixesc) x.fixes) (row inputTy 112 (.slice firstA x.first.length firstc) x.first)))
theorem yearR_inv {r:Nat} {x:YearS} {d:Dat} {w:World} (h:(yearR r x).ok d w):x.slips.length≤53:=by
 obtain ⟨cs,_,v0,v1,rfl,_,_,hi⟩:=h
 exact hi
theorem empR_inv {r a b:Nat} {x:EmpS} {d:Dat} {w:World} (h:(empR r a b x).ok d w):x.inputs.length≤x.posted.slips.length∧x.inputs.length≤53∧x.next.length≤32∧(∀ i ∈ x.inputs,i.elements.length≤32):=by
 obtain ⟨⟨cs,_,v0,v1,v2,v3,v4,v5,rfl,_,_,_,_,_,_,h0,h1,h2,h3⟩,_⟩:=h
 exact ⟨h0,h1,h2,h3⟩
def yNew (contribs:Int):(Option YearS) × Int:=
 (bnd (sSum contribs (([]:List (List Share)))) fun r2=>
 (if (r2.2≠0) then (none,r2.2)
 else ((some ((⟨contribs,([]:List Slip),(⟨(⟨0,0,0⟩:Bases),0,0,r2.1,0,0,0⟩:Totals)⟩:YearS))),0)))
theorem yNew_c {contribs:Int} {d:Dat} {w:World} (hd:∀ b,d b→b < w.heap.size):Ret Tryz.prog 141 [.int .i64 contribs] w [] d (fun u d' w'=>((yNew contribs).1=none→u=.tuple #[.pointer none,.int .i64 ((yNew contribs).2)])∧(∀ x,(yNew contribs).1=some x→∃ (b:Nat),u=.tuple #[.pointer (some ⟨b,0,none⟩),.int .i64 ((yNew contribs).2)]∧Fresh (yearR b x) d' w w')):=by
 refine ret_enter (n:=19) Tryz.func141 Z Z (ble Z) ?_
 have hI0:=Inv.start hd
 refine csr ((GA Y (GA Y (gnx ((csr ((GM Y ?_))))))))
 have hq1:=sSum_c (n:=contribs) (list:=([]:List (List Share))) hI0.lt (Sl.nil_ _ _ _ none 0)
 obtain ⟨r2,hr3⟩:∃ r,sSum contribs (([]:List (List Share)))=r:=⟨_,rfl⟩
 rw [hr3] at hq1
 refine g_e (ev_pure hI0 pf_137 Z hq1) Z Z ?_
 rintro _ w5 ⟨d4,hI6,hle7,⟨v8,rfl,hS9⟩⟩
 obtain ⟨b0,b1,rfl,b2,b3⟩:=hS9.fm
 refine GM Y (g_y (y_extract Z Z) Z Z (g_y (y_extract Z Z) Z Z (GA Y (GA Y (gnx ((c_seq (csr ((GM Y (g_y (y_neq Z Z) Z Z (gnx (?_)))))))))))))
 refine c_cond Z (fun a0=>?_) (fun a0=>?_)
 ·replace a0:=OT a0
  refine csr ((GM Y (GA Y (GA Y (gnx ((c_ret ?_)))))))
  have a2:yNew contribs=(none,r2.2):=ET (BE hr3) (ET (IP a0) (rfl))
  refine x_thenR (x_ret ⟨_,_,rfl,rfl,⟨_,_,rfl,rfl,rfl⟩⟩ ?_)
  exact ⟨_,_,rfl,hI6.fr,hI6.grow,by rw [a2]; exact ⟨(fun _=>rfl),(fun x h=>by cases h)⟩⟩
 ·replace a0:=OF a0
  refine c_skip (x_next (csr ((GM Y (GM Y (g_y (y_build ze_64 pl_64 (.cons Z Z Z Z (.next _ (.next _ (.next _ (.next _ (.next _ (.here _ _ (.nil _))))))) (ble Z) (.nil _))) Z Z (g_y (y_build ze_231 pl_231 (.cons Z Z Z Z (.here _ _ (.nil _)) (ble Z) (.cons Z Z Z Z (.next _ (.next _ (.here _ _ (.here _ _ (.here _ _ (.here _ _ (.here _ _ (.here _ _ (.here _ _ (.here _ _ (.here _ _ (.nil _)))))))))))) (ble Z) (.nil _)))) Z Z (g_e (ev_box hI6 Z) Z Z ?_))))))))
  rintro _ a3 ⟨a4,rfl,a5,a6⟩
  refine GA Y (GA Y (gnx ((c_ret ?_))))
  have a7:((⟨contribs,([]:List Slip),(⟨(⟨0,0,0⟩:Bases),0,0,r2.1,0,0,0⟩:Totals)⟩:YearS)).slips.length≤53:=by (try dsimp only); first | assumption | omega | (simp only [LA,LC,LN,LS]; omega)
  have a8:=a5.closeObj (ty:=yearTy) (x:=(⟨contribs,([]:List Slip),(⟨(⟨0,0,0⟩:Bases),0,0,r2.1,0,0,0⟩:Totals)⟩:YearS)) ⟨_,_,rfl,(Sl.nil_ _ _ _ none 0),(hS9.mono a6),a7⟩
  have a1:Inv [] d w d4 (yearR a4 ((⟨contribs,([]:List Slip),(⟨(⟨0,0,0⟩:Bases),0,0,r2.1,0,0,0⟩:Totals)⟩:YearS)) :: _) a3:=a8
  have a9:yNew contribs=((some ((⟨contribs,([]:List Slip),(⟨(⟨0,0,0⟩:Bases),0,0,r2.1,0,0,0⟩:Totals)⟩:YearS))),0):=ET (BE hr3) (ET (IN a0) (rfl))
  refine x_ret ⟨_,_,rfl,rfl,⟨_,_,rfl,rfl,rfl⟩⟩ (⟨_,_,rfl,a1.fr,a1.grow,by rw [a9]; exact ⟨(fun h=>by cases h),(fun x h=>by cases h; exact ⟨_,rfl,a1.fresh m0⟩)⟩⟩)
theorem yNew_opt {n:Int}:((yNew n).1=none→(yNew n).2≠0)∧(∀ x,(yNew n).1=some x→(yNew n).2=0):=by
 unfold yNew
 simp only [bnd]
 split
 ·exact ⟨(fun _=>by assumption),(fun x h=>by cases h)⟩
 ·exact ⟨(fun h=>by cases h),(fun x h=>rfl)⟩
theorem yNew_slips {n:Int} {x:YearS} (h:(yNew n).1=some x):x.slips=[]:=by
 unfold yNew at h
 simp only [bnd] at h
 split at h
 ·cases h
 ·cases h; rfl
def yCount (y:YearS):Int:=
 (y.slips.length:Int)
theorem yCount_c {y:YearS} {y_r:Nat} {d:Dat} {w:World} (hd:∀ b,d b→b < w.heap.size) (h_y:(yearR y_r y).ok d w):Ret Tryz.prog 35 [.pointer (some ⟨y_r,0,none⟩)] w [] d (fun u d' w'=>u=.int .i64 ((yCount y))):=by
 refine ret_enter (n:=8) Tryz.func35 Z Z (ble Z) ?_
 have hI0:=Inv.start hd
 refine csr ((GA Y (gnx ((csr ((GM Y (g_y (y_nilCheck Z) Z Z (gfa fo_231_1 Z Z Z ?_)))))))))
 obtain ⟨cs1,hk2,hr3⟩:=obj_kp (M:=[]) h_y (by simp)
 obtain ⟨v5,v6,rfl,hS7,hS8,hi4⟩:=hr3
 obtain ⟨A9,a1,rfl,a2,a3⟩:=hS7.fm
 obtain ⟨a4,a5,rfl,a6,a7⟩:=hS8.fm
 refine g_y (y_load1 sh_102 Z ((hk2.at_ hI0).nth_ (i:=1) Z)) Z Z (gln el_102 Z Z Z (GA Y (gnx ((c_ret ?_)))))
 have a0:yCount y=(y.slips.length:Int):=rfl
 refine x_ret ⟨_,_,rfl,rfl,rfl⟩ (⟨_,_,rfl,hI0.fr,hI0.grow,by rw [a0]; exact rfl⟩)
def yTotals (y:YearS):Totals:=
 (bnd (clShareR y.totals.shares) fun a0=>
 (⟨y.totals.bases,y.totals.tax,y.totals.shortfall,a0,y.totals.net,y.totals.taken,y.totals.pay⟩:Totals))
theorem yTotals_c {y:YearS} {y_r:Nat} {d:Dat} {w:World} (hd:∀ b,d b→b < w.heap.size) (h_y:(yearR y_r y).ok d w):Ret Tryz.prog 30 [.pointer (some ⟨y_r,0,none⟩)] w [] d (fun u d' w'=>∃ (cs0:List Value),u=.agg cs0.toArray∧totalsTy.rel d' w' (yTotals y) cs0):=by
 refine ret_enter (n:=13) Tryz.func30 Z Z (ble Z) ?_
 have hI0:=Inv.start hd
 refine csr ((g_e (ev_alloc hI0 ze_64) Z Z ?_))
 rintro _ w1 ⟨b4,rfl,hI2,hle3⟩
 refine gnx ((csr ((GM Y (g_y (y_nilCheck Z) Z Z (gfa fo_231_2 Z Z Z ?_))))))
 obtain ⟨cs5,hk6,hr7⟩:=obj_kp (M:=[]) h_y (by simp)
 obtain ⟨v9,c1,rfl,a8,a4,hi8⟩:=hr7
 obtain ⟨c2,c3,rfl,c4,c5⟩:=a8.fm
 obtain ⟨a9,b0,rfl,c6,c7⟩:=a4.fm
 refine g_y (y_loadA (cs:=[.int .i64 y.totals.bases.cash,.int .i64 y.totals.bases.taxable,.int .i64 y.totals.bases.social,.int .i64 y.totals.tax,.int .i64 y.totals.shortfall,.slice a9 (y.totals.shares).length b0,.int .i64 y.totals.net,.int .i64 y.totals.taken,.int .i64 y.totals.pay]) sh_64 Z ((hk6.at_ hI2).part (f:=2) (.skip _ (.skip _ (.take _ (.take _ (.take _ (.take _ (.take _ (.take _ (.take _ (.take _ (.take _ (.nil _)))))))))))))) Z Z (g_e (ev_alloc hI2 ze_64) Z Z ?_)
 rintro _ c8 ⟨c9,rfl,b1,b2⟩
 refine g_e (ev_store b1 Z Z Z sz_64 Z (.here _ _ (.here _ _ (.here _ _ (.here _ _ (.here _ _ (.here _ _ (.here _ _ (.here _ _ (.here _ _ (.nil _)))))))))) (.hd _)) Z Z ?_
 rintro _ d0 ⟨a0,b3⟩
 refine gnx ((csr ((gfa fo_64_3 Z Z Z (gld sh_62 Z a0 m0 (i:=5) Z Z Z ?_)))))
 have a5:=clShareR_c (s:=y.totals.shares) a0.lt (a4.mono ((hle3.t b2).t b3))
 obtain ⟨a1,a2⟩:∃ r,clShareR y.totals.shares=r:=⟨_,rfl⟩
 rw [a2] at a5
 have h8r29:a1.length=y.totals.shares.length:=by rw [← a2,clShareR_eq]
 refine g_e (ev_row a0 pf_125 Z a5) Z Z ?_
 rintro _ d1 ⟨d2,b5,b6,rfl,a6,d3⟩
 have b7:=row_len (a6.ok _ m0); unfold big at b7
 refine gfa fo_64_3 Z Z Z (g_e (ev_store a6 Z Z Z sz_62 Z (.next _ (.next _ (.next _ (.next _ (.next _ (.here _ _ (.nil _))))))) (.tl _ (.hd _))) Z Z ?_)
 rintro _ d4 ⟨a7,d5⟩
 refine gnx ((csr ((g_y (y_loadA (cs:=[.int .i64 y.totals.bases.cash,.int .i64 y.totals.bases.taxable,.int .i64 y.totals.bases.social,.int .i64 y.totals.tax,.int .i64 y.totals.shortfall,.slice b5 a1.length b6,.int .i64 y.totals.net,.int .i64 y.totals.taken,.int .i64 y.totals.pay]) sh_64 Z ((blk_cells a7 m1).part (f:=0) (.take _ (.take _ (.take _ (.take _ (.take _ (.take _ (.take _ (.take _ (.take _ (.nil _)))))))))))) Z Z (g_e (ev_store a7 Z Z Z sz_64 Z (.here _ _ (.here _ _ (.here _ _ (.here _ _ (.here _ _ (.here _ _ (.here _ _ (.here _ _ (.here _ _ (.nil _)))))))))) (.tl _ (.tl _ (.hd _)))) Z Z ?_)))))
 rintro _ d6 ⟨b8,d7⟩
 refine gnx ((c_ret ?_))
 obtain ⟨d8,a3,d9,b9⟩:=pub_row b8 (.hd _) (by simp)
 have c0:yTotals y=(⟨y.totals.bases,y.totals.tax,y.totals.shortfall,a1,y.totals.net,y.totals.taken,y.totals.pay⟩:Totals):=ET (BE a2) (rfl)
 refine x_ret ⟨_,_,_,rfl,rfl,blk_cells a3 m1,sh_64,rfl⟩ (⟨_,_,rfl,a3.fr,a3.grow,by rw [c0]; exact ⟨_,rfl,⟨_,rfl,b9⟩⟩⟩)
def yTry_m1 (y:YearS) (s:Slip):Int × Int × Int × Int × Int × Int × List Share × Int × Int × Int:=
 (bnd (yAdd y.totals s) fun a0=>
 (a0.2,a0.1.bases.cash,a0.1.bases.taxable,a0.1.bases.social,a0.1.tax,a0.1.shortfall,a0.1.shares,a0.1.net,a0.1.taken,a0.1.pay))
def yTry (y:YearS) (s:Slip):Totals × Int:=
 (bnd (yCheck s y.contribs) fun a0=>
 (if (a0≠0) then ((⟨(⟨0,0,0⟩:Bases),0,0,([]:List Share),0,0,0⟩:Totals),a0)
 else (if (s.period≠((y.slips.length:Int) + 1)) then ((⟨(⟨0,0,0⟩:Bases),0,0,([]:List Share),0,0,0⟩:Totals),6)
 else (bnd (yTry_m1 y s) fun ⟨a1,a2,a3,a4,a5,a6,a7,a8,a9,b0⟩=>
 (if (a1≠0) then ((⟨(⟨0,0,0⟩:Bases),0,0,([]:List Share),0,0,0⟩:Totals),a1)
 else ((⟨(⟨a2,a3,a4⟩:Bases),a5,a6,a7,a8,a9,b0⟩:Totals),0))))))
theorem yTry_c {y:YearS} {y_r:Nat} {s:Slip} {cs_s:List Value} {d:Dat} {w:World} (hd:∀ b,d b→b < w.heap.size) (h_y:(yearR y_r y).ok d w) (h_s:slipTy.rel d w s cs_s):Ret Tryz.prog 158 [.pointer (some ⟨y_r,0,none⟩),.agg cs_s.toArray] w [] d (fun u d' w'=>∃ (cs0:List Value),u=.tuple #[.agg cs0.toArray,.int .i64 ((yTry y s).2)]∧totalsTy.rel d' w' (yTry y s).1 cs0):=by
 obtain ⟨v1,v2,rfl,hS3,hS4⟩:=h_s
 obtain ⟨A5,c6,rfl,hn7,hb8⟩:=hS3.fm
 obtain ⟨A9,d0,rfl,j7,j8⟩:=hS4.fm
 refine ret_enter (n:=43) Tryz.func158 Z Z (ble Z) ?_
 have hI0:=Inv.start hd
 refine csr ((g_e (ev_box hI0 Z) Z Z ?_))
 rintro _ j9 ⟨g4,rfl,g5,a3⟩
 refine g_e (ev_alloc g5 ze_64) Z Z ?_
 rintro _ g6 ⟨e7,rfl,g7,a4⟩
 refine GA Y (gnx ((c_seq (c_seq ?_))))
 have d1:=g7.drew; have a5:=Le.drew d g6
 refine c_drawK 6 follows_mixed d1 (k_y 0 (by kernel_rfl) Z Z Z (fun k0 ⟨k1,g8,k2⟩=>(y_loadA (cs:=[.int .i64 s.period,.int .i64 s.bases.cash,.int .i64 s.bases.taxable,.int .i64 s.bases.social,.int .i64 s.tax,.int .i64 s.shortfall,.slice A5 (s.shares).length c6,.int .i64 s.net,.slice A9 (s.taken).length d0,.int .i64 s.pay]) sh_51 Z ((blk_cells g8 m1).part (f:=0) (.take _ (.take _ (.take _ (.take _ (.take _ (.take _ (.take _ (.take _ (.take _ (.take _ (.nil _)))))))))))))) (k_y 1 (by kernel_rfl) Z Z Z (fun _ _=>(y_move Z)) (k_y 2 (by kernel_rfl) Z Z Z (fun _ _=>(y_nilCheck Z)) (k_y 3 (by kernel_rfl) Z Z Z (fun _ _=>(y_fieldAddr fo_231_0 Z)) ?_))))
 obtain ⟨k3,d2,g9⟩:=obj_kp (M:=[]) h_y (by simp)
 obtain ⟨k4,k5,rfl,h0,d3,k6⟩:=g9
 obtain ⟨k7,k8,rfl,k9,l0⟩:=h0.fm
 obtain ⟨h1,h2,rfl,l1,l2⟩:=d3.fm
 refine k_y 4 (by kernel_rfl) Z Z Z (fun l3 ⟨l4,h3,l5⟩=>(y_load1 sh_3 Z ((d2.at_ h3).nth_ (i:=0) Z))) (k_all (is:=[5]) (by kernel_rfl) (by simp) (.cons ?_ .nil))
 have e8:=yCheck_c (s:=s) (n:=y.contribs) d1.lt (show slipTy.rel _ _ s _ from ⟨_,_,rfl,(hS3.mono ((a3.t a4).t a5)),(hS4.mono ((a3.t a4).t a5))⟩)
 obtain ⟨h4,c0⟩:∃ r,yCheck s y.contribs=r:=⟨_,rfl⟩
 rw [c0] at e8
 refine k_op Z Z Z (ev_pure d1 pf_73 Z e8) ?_
 rintro _ d4 ⟨d5,d6,a9,rfl⟩
 refine k_next d6 a9 (k_all (is:=[6]) (by kernel_rfl) (by simp) (.cons ?_ .nil))
 refine k_op Z Z Z (Ev.of_y2 (y_assign Z)) ?_
 rintro _ _ ⟨rfl,rfl⟩
 refine k_bar (b_done (by kernel_rfl) (x_draw ?_) (by kernel_rfl))
 refine x_next (csr ((GM Y (g_y (y_neq Z Z) Z Z (gnx ((c_cond Z (fun a2=>?_) (fun a2=>?_))))))))
 ·replace a2:=OT a2
  refine csr ((g_y (y_build ze_64 pl_64 (.nil _)) Z Z (GM Y (g_e (ev_store d6 Z Z Z sz_64 Z (.here _ _ (.here _ _ (.here _ _ (.here _ _ (.here _ _ (.here _ _ (.here _ _ (.here _ _ (.here _ _ (.nil _)))))))))) (.hd _)) Z Z ?_))))
  rintro _ l6 ⟨d7,l7⟩
  refine GA Y (gnx ((c_ret ?_)))
  have h5:yTry y s=((⟨(⟨0,0,0⟩:Bases),0,0,([]:List Share),0,0,0⟩:Totals),h4):=ET (BE c0) (ET (IP a2) (rfl))
  refine x_thenR (x_ret ⟨_,_,_,rfl,rfl,blk_cells d7 m0,sh_64,⟨_,_,rfl,rfl,rfl⟩⟩ ?_)
  exact ⟨_,_,rfl,d7.fr,d7.grow,by rw [h5]; exact ⟨_,rfl,⟨_,rfl,(Sl.nil_ _ _ _ none 0)⟩⟩⟩
 ·replace a2:=OF a2
  refine c_skip (x_next (c_seq (c_seq ?_)))
  have d8:=d6.drew; have b1:=Le.drew d5 d4
  refine c_drawK 9 follows_mixed d8 (k_y 0 (by kernel_rfl) Z Z Z (fun _ _=>(y_fieldAddr fo_51_0 Z)) (k_y 1 (by kernel_rfl) Z Z Z (fun l8 ⟨l9,h6,m6⟩=>(y_load1 sh_3 Z ((blk_cells h6 m1).nth_ (i:=0) Z))) (k_y 2 (by kernel_rfl) Z Z Z (fun _ _=>(y_move Z)) (k_y 3 (by kernel_rfl) Z Z Z (fun _ _=>(y_nilCheck Z)) (k_y 4 (by kernel_rfl) Z Z Z (fun _ _=>(y_fieldAddr fo_231_1 Z)) (k_y 5 (by kernel_rfl) Z Z Z (fun m7 ⟨m8,h7,m9⟩=>(y_load1 sh_102 Z ((d2.at_ h7).nth_ (i:=1) Z))) (k_y 6 (by kernel_rfl) Z Z Z (fun _ _=>(y_lenS (by rw [el_102]; rfl) Z)) (k_y 7 (by kernel_rfl) Z Z Z (fun _ _=>(y_add Z Z (by omega))) (k_y 8 (by kernel_rfl) Z Z Z (fun _ _=>(y_neq Z Z)) (k_done (by kernel_rfl) (x_draw ?_)))))))))))
  refine x_next (c_cond Z (fun a6=>?_) (fun a6=>?_))
  ·replace a6:=OT a6
   refine csr ((g_y (y_build ze_64 pl_64 (.nil _)) Z Z (g_e (ev_store d8 Z Z Z sz_64 Z (.here _ _ (.here _ _ (.here _ _ (.here _ _ (.here _ _ (.here _ _ (.here _ _ (.here _ _ (.here _ _ (.nil _)))))))))) (.hd _)) Z Z ?_)))
   rintro _ n0 ⟨d9,n1⟩
   refine GA Y (gnx ((c_ret ?_)))
   have h8:yTry y s=((⟨(⟨0,0,0⟩:Bases),0,0,([]:List Share),0,0,0⟩:Totals),6):=ET (BE c0) (ET (IN a2) (ET (IP a6) (rfl)))
   refine x_thenR (x_ret ⟨_,_,_,rfl,rfl,blk_cells d9 m0,sh_64,⟨_,_,rfl,rfl,rfl⟩⟩ ?_)
   exact ⟨_,_,rfl,d9.fr,d9.grow,by rw [h8]; exact ⟨_,rfl,⟨_,rfl,(Sl.nil_ _ _ _ none 0)⟩⟩⟩
  ·replace a6:=OF a6
   refine c_skip (x_next (c_cut (ι:=Int × Nat × Int × Int × Int × Int × Int × List Share × Option Addr × Nat × Int × Int × Int × Dat) (fun ⟨c1,c7,b2,b3,b4,b5,b6,a7,c2,c3,b7,b8,b9,c4⟩=>[(4,.pointer (some ⟨e7,0,none⟩)),(7,.pointer (some ⟨c7,0,none⟩)),(8,.int .i64 c1)]) (fun ⟨c1,c7,b2,b3,b4,b5,b6,a7,c2,c3,b7,b8,b9,c4⟩ c8=>Inv [] d w c4 [blk c7 64 [.int .i64 b2,.int .i64 b3,.int .i64 b4,.int .i64 b5,.int .i64 b6,.slice c2 (a7).length c3,.int .i64 b7,.int .i64 b8,.int .i64 b9],blk e7 64 [.int .i64 0,.int .i64 0,.int .i64 0,.int .i64 0,.int .i64 0,.slice none 0 0,.int .i64 0,.int .i64 0,.int .i64 0],blk g4 51 [.int .i64 s.period,.int .i64 s.bases.cash,.int .i64 s.bases.taxable,.int .i64 s.bases.social,.int .i64 s.tax,.int .i64 s.shortfall,.slice A5 (s.shares).length c6,.int .i64 s.net,.slice A9 (s.taken).length d0,.int .i64 s.pay]] c8∧Le d5 d4.drew c4 c8∧yTry_m1 y s=(c1,b2,b3,b4,b5,b6,a7,b7,b8,b9)∧Sl shareTy c4 c8 (.slice c2 a7.length c3) a7) ?_ ?_))
   ·have c9:=d8.drew; have a8:=Le.drew d5 d4.drew
    refine c_drawK 11 follows_mixed c9 (k_y 0 (by kernel_rfl) Z Z Z (fun _ _=>(y_move Z)) (k_y 1 (by kernel_rfl) Z Z Z (fun _ _=>(y_nilCheck Z)) (k_y 2 (by kernel_rfl) Z Z Z (fun _ _=>(y_fieldAddr fo_231_2 Z)) (k_y 3 (by kernel_rfl) Z Z Z (fun n2 ⟨n3,h9,n4⟩=>(y_loadA (cs:=[.int .i64 y.totals.bases.cash,.int .i64 y.totals.bases.taxable,.int .i64 y.totals.bases.social,.int .i64 y.totals.tax,.int .i64 y.totals.shortfall,.slice h1 (y.totals.shares).length h2,.int .i64 y.totals.net,.int .i64 y.totals.taken,.int .i64 y.totals.pay]) sh_64 Z ((d2.at_ h9).part (f:=2) (.skip _ (.skip _ (.take _ (.take _ (.take _ (.take _ (.take _ (.take _ (.take _ (.take _ (.take _ (.nil _))))))))))))))) (k_y 4 (by kernel_rfl) Z Z Z (fun n5 ⟨n6,i0,n7⟩=>(y_loadA (cs:=[.int .i64 s.period,.int .i64 s.bases.cash,.int .i64 s.bases.taxable,.int .i64 s.bases.social,.int .i64 s.tax,.int .i64 s.shortfall,.slice A5 (s.shares).length c6,.int .i64 s.net,.slice A9 (s.taken).length d0,.int .i64 s.pay]) sh_51 Z ((blk_cells i0 m1).part (f:=0) (.take _ (.take _ (.take _ (.take _ (.take _ (.take _ (.take _ (.take _ (.take _ (.take _ (.nil _)))))))))))))) (k_all (is:=[5,9]) (by kernel_rfl) (by simp) (.cons ?_ (.cons ?_ .nil))))))))
    ·have e9:=yAdd_c (t:=y.totals) (s:=s) c9.lt (show totalsTy.rel _ _ y.totals _ from ⟨_,rfl,(d3.mono (((((a3.t a4).t a5).t a9).t b1).t a8))⟩) (show slipTy.rel _ _ s _ from ⟨_,_,rfl,(hS3.mono (((((a3.t a4).t a5).t a9).t b1).t a8)),(hS4.mono (((((a3.t a4).t a5).t a9).t b1).t a8))⟩)
     obtain ⟨a0,f0⟩:∃ r,yAdd y.totals s=r:=⟨_,rfl⟩
     rw [f0] at e9
     refine k_op Z Z Z (ev_pure c9 pf_138 Z e9) ?_
     rintro _ n8 ⟨i1,f1,f2,⟨n9,rfl,i2⟩⟩
     obtain ⟨o0,rfl,f3⟩:=i2
     obtain ⟨i3,i4,rfl,o1,o2⟩:=f3.fm
     refine k_next f1 f2 (k_y 6 (by kernel_rfl) Z Z Z (fun _ _=>(y_move Z)) (k_y 7 (by kernel_rfl) Z Z Z (fun _ _=>(y_extract Z Z)) (k_y 8 (by kernel_rfl) Z Z Z (fun _ _=>(y_extract Z Z)) (k_all (is:=[9]) (by kernel_rfl) (by simp) (.cons ?_ .nil)))))
     refine k_op Z Z Z (ev_alloc f1 ze_64) ?_
     rintro _ o3 ⟨i5,rfl,f4,e0⟩
     refine k_next (f4.drop (.hd _)) e0 (k_all (is:=[10]) (by kernel_rfl) (by simp) (.cons ?_ .nil))
     refine k_op Z Z Z (ev_store f4 Z Z Z sz_64 Z (.here _ _ (.here _ _ (.here _ _ (.here _ _ (.here _ _ (.here _ _ (.here _ _ (.here _ _ (.here _ _ (.nil _)))))))))) (.hd _)) ?_
     rintro _ o4 ⟨f5,e1⟩
     refine k_next (f5.drop (.hd _)) e1 (k_all (is:=[11]) (by kernel_rfl) (by simp) (.cons ?_ .nil))
     refine k_op Z Z Z (Ev.of_y2 (y_assign Z)) ?_
     rintro _ _ ⟨rfl,rfl⟩
     refine k_bar (b_done (by kernel_rfl) (x_draw ?_) (by kernel_rfl))
     have i6:=f5.front (.hd _)
     refine x_cut (a0.2,i5,a0.1.bases.cash,a0.1.bases.taxable,a0.1.bases.social,a0.1.tax,a0.1.shortfall,a0.1.shares,i3,i4,a0.1.net,a0.1.taken,a0.1.pay,i1) (.cons Z (.cons Z (.cons Z (.nil _)))) ⟨i6,(((a8.t f2).t e0).t e1),ET (BE f0) (rfl),(f3.mono (e0.t e1))⟩
    ·refine k_op Z Z Z (ev_alloc c9 ze_64) ?_
     rintro _ o5 ⟨i7,rfl,e2,c5⟩
     refine k_next (e2.drop (.hd _)) c5 (k_all (is:=[5]) (by kernel_rfl) (by simp) (.cons ?_ .nil))
     have f6:=yAdd_c (t:=y.totals) (s:=s) e2.lt (show totalsTy.rel _ _ y.totals _ from ⟨_,rfl,(d3.mono ((((((a3.t a4).t a5).t a9).t b1).t a8).t c5))⟩) (show slipTy.rel _ _ s _ from ⟨_,_,rfl,(hS3.mono ((((((a3.t a4).t a5).t a9).t b1).t a8).t c5)),(hS4.mono ((((((a3.t a4).t a5).t a9).t b1).t a8).t c5))⟩)
     obtain ⟨a1,f7⟩:∃ r,yAdd y.totals s=r:=⟨_,rfl⟩
     rw [f7] at f6
     refine k_op Z Z Z (ev_pure e2 pf_138 Z f6) ?_
     rintro _ o6 ⟨i8,f8,f9,⟨o7,rfl,i9⟩⟩
     obtain ⟨o8,rfl,g0⟩:=i9
     obtain ⟨j0,j1,rfl,o9,p0⟩:=g0.fm
     refine k_next (f8.drop (.hd _)) f9 (k_y 6 (by kernel_rfl) Z Z Z (fun _ _=>(y_move Z)) (k_y 7 (by kernel_rfl) Z Z Z (fun _ _=>(y_extract Z Z)) (k_y 8 (by kernel_rfl) Z Z Z (fun _ _=>(y_extract Z Z)) (k_all (is:=[10]) (by kernel_rfl) (by simp) (.cons ?_ .nil)))))
     refine k_op Z Z Z (ev_store f8 Z Z Z sz_64 Z (.here _ _ (.here _ _ (.here _ _ (.here _ _ (.here _ _ (.here _ _ (.here _ _ (.here _ _ (.here _ _ (.nil _)))))))))) (.hd _)) ?_
     rintro _ p1 ⟨g1,e3⟩
     refine k_next (g1.drop (.hd _)) e3 (k_all (is:=[11]) (by kernel_rfl) (by simp) (.cons ?_ .nil))
     refine k_op Z Z Z (Ev.of_y2 (y_assign Z)) ?_
     rintro _ _ ⟨rfl,rfl⟩
     refine k_bar (b_done (by kernel_rfl) (x_draw ?_) (by kernel_rfl))
     have j2:=g1.front (.hd _)
     refine x_cut (a1.2,i7,a1.1.bases.cash,a1.1.bases.taxable,a1.1.bases.social,a1.1.tax,a1.1.shortfall,a1.1.shares,j0,j1,a1.1.net,a1.1.taken,a1.1.pay,i8) (.cons Z (.cons Z (.cons Z (.nil _)))) ⟨j2,(((a8.t c5).t f9).t e3),ET (BE f7) (rfl),(g0.mono e3)⟩
   ·rintro ⟨c1,c7,b2,b3,b4,b5,b6,a7,c2,c3,b7,b8,b9,c4⟩ c8 ⟨e4,p2,g2,g3⟩
    have j3:=g3.len.2.2; unfold big at j3
    refine c_seq (csr ((GM Y (g_y (y_neq Z Z) Z Z (gnx ((c_cond Z (fun b0=>?_) (fun b0=>?_))))))))
    ·replace b0:=OT b0
     refine csr ((g_y (y_build ze_64 pl_64 (.nil _)) Z Z (GM Y (g_e (ev_store e4 Z Z Z sz_64 Z (.here _ _ (.here _ _ (.here _ _ (.here _ _ (.here _ _ (.here _ _ (.here _ _ (.here _ _ (.here _ _ (.nil _)))))))))) (.tl _ (.hd _))) Z Z ?_))))
     rintro _ p3 ⟨e5,p4⟩
     refine GA Y (gnx ((c_ret ?_)))
     have j4:yTry y s=((⟨(⟨0,0,0⟩:Bases),0,0,([]:List Share),0,0,0⟩:Totals),c1):=ET (BE c0) (ET (IN a2) (ET (IN a6) (ET (BE g2) (ET (IP b0) (rfl)))))
     refine x_thenR (x_ret ⟨_,_,_,rfl,rfl,blk_cells e5 m1,sh_64,⟨_,_,rfl,rfl,rfl⟩⟩ ?_)
     exact ⟨_,_,rfl,e5.fr,e5.grow,by rw [j4]; exact ⟨_,rfl,⟨_,rfl,(Sl.nil_ _ _ _ none 0)⟩⟩⟩
    ·replace b0:=OF b0
     refine c_skip (x_next (csr ((g_y (y_loadA (cs:=[.int .i64 b2,.int .i64 b3,.int .i64 b4,.int .i64 b5,.int .i64 b6,.slice c2 (a7).length c3,.int .i64 b7,.int .i64 b8,.int .i64 b9]) sh_64 Z ((blk_cells e4 m0).part (f:=0) (.take _ (.take _ (.take _ (.take _ (.take _ (.take _ (.take _ (.take _ (.take _ (.nil _)))))))))))) Z Z (g_e (ev_store e4 Z Z Z sz_64 Z (.here _ _ (.here _ _ (.here _ _ (.here _ _ (.here _ _ (.here _ _ (.here _ _ (.here _ _ (.here _ _ (.nil _)))))))))) (.tl _ (.hd _))) Z Z ?_)))))
     rintro _ p5 ⟨e6,j5⟩
     refine GA Y (gnx ((c_ret ?_)))
     have j6:yTry y s=((⟨(⟨b2,b3,b4⟩:Bases),b5,b6,a7,b7,b8,b9⟩:Totals),0):=ET (BE c0) (ET (IN a2) (ET (IN a6) (ET (BE g2) (ET (IN b0) (rfl)))))
     refine x_ret ⟨_,_,_,rfl,rfl,blk_cells e6 m1,sh_64,⟨_,_,rfl,rfl,rfl⟩⟩ (⟨_,_,rfl,e6.fr,e6.grow,by rw [j6]; exact ⟨_,rfl,⟨_,rfl,(g3.mono j5)⟩⟩⟩)
def ySlips_l1:List Slip→Nat→(List Slip)→List Slip
 | [],a1,a0=>a0
 | a2 :: tl1,a1,a0=>(bnd (yCopied a2) fun a3=>
 (ySlips_l1 tl1 (a1 + 1) ((a0 ++ [a3]))))
def ySlips (y:YearS):(List Slip):=
 (bnd (ySlips_l1 y.slips 0 (([]:List Slip))) fun a0=>
 a0)
theorem ySlips_c {y:YearS} {y_r:Nat} {d:Dat} {w:World} (hd:∀ b,d b→b < w.heap.size) (h_y:(yearR y_r y).ok d w):Ret Tryz.prog 45 [.pointer (some ⟨y_r,0,none⟩)] w [] d (fun u d' w'=>∃ (v0:Value),u=v0∧Sl slipTy d' w' v0 (ySlips y)):=by
 refine ret_enter (n:=22) Tryz.func45 Z Z (ble Z) ?_
 have hI0:=Inv.start hd
 refine csr ((GA Y (gnx ((csr ((GA Y (gnx ((c_seq (csr ((GM Y ?_)))))))))))))
 refine g_y (y_nilCheck Z) Z Z (gfa fo_231_1 Z Z Z ?_)
 obtain ⟨cs1,hk2,hr3⟩:=obj_kp (M:=[]) h_y (by simp)
 obtain ⟨v5,v6,rfl,hS7,hS8,hi4⟩:=hr3
 obtain ⟨A9,d3,rfl,g1,g2⟩:=hS7.fm
 obtain ⟨g3,g4,rfl,g5,g6⟩:=hS8.fm
 refine g_y (y_load1 sh_102 Z ((hk2.at_ hI0).nth_ (i:=1) Z)) Z Z (gln el_102 Z Z Z (GM Y (gnx (?_))))
 have d4:=nil_row slipTy 51 hI0
 refine c_cut1 (ι:=List Slip × Option Addr × Nat × Dat) (fun ⟨a4,a9,b0,b1⟩=>[(3,.slice a9 a4.length b0)]) (fun ⟨a4,a9,b0,b1⟩ b2=>Inv [] d w b1 [row slipTy 51 (.slice a9 a4.length b0) (a4)] b2∧Le d w b1 b2∧ySlips_l1 y.slips 0 (([]:List Slip))=a4∧a4.length≤y.slips.length) ?_ ?_
 ·refine c_block (c_loop (ι:=List Slip × Option Addr × Nat × Nat × Dat) (fun ⟨a3,a5,a6,a1,a7⟩=>[(3,.slice a5 a3.length a6),(9,.slice A9 (y.slips).length d3),(10,.int .i64 (y.slips.length:Int)),(11,.int .i64 (a1:Int))]) (fun ⟨a3,a5,a6,a1,a7⟩ b3=>Inv [] d w a7 [row slipTy 51 (.slice a5 a3.length a6) (a3)] b3∧Le d w a7 b3∧ySlips_l1 y.slips 0 (([]:List Slip))=ySlips_l1 (y.slips.drop a1) a1 a3∧a1≤y.slips.length∧a3.length≤a1) (fun ⟨a3,a5,a6,a1,a7⟩=>y.slips.length - a1) (([]:List Slip),none,0,0,d) (.cons Z (.cons Z (.cons Z (.cons Z (.nil _))))) ⟨d4,Le.refl _ _,rfl,Nat.zero_le _,by simp⟩ ?_)
  rintro ⟨a3,a5,a6,a1,a7⟩ b3 ⟨b4,b5,b9,g7,g8⟩
  have d5:=row_len (b4.ok _ m0); unfold big at d5
  refine csr ((g_y (y_lss Z Z) Z Z (gnx ((c_seq (c_cond Z (fun a8=>?_) (fun a8=>?_)))))))
  ·replace a8:=OT a8
   obtain ⟨a0,c0⟩:=has (xs:=y.slips) (k:=a1) (by omega)
   refine c_skip (x_next (c_seq (c_block (csr (?_)))))
   obtain ⟨g9,h0,h1,d6,d7,d8,h2⟩:=Sl.at_ (hS7.mono b5) c0
   obtain ⟨h3,h4,rfl,c1,c2⟩:=d7
   obtain ⟨c3,c4,rfl,h5,h6⟩:=c1.fm
   obtain ⟨c5,c6,rfl,h7,h8⟩:=c2.fm
   refine g_y (y_indexAddr (i:=a1) el_102 Z d6 Z (rfl) (by omega)) Z Z (g_y (y_loadA (cs:=[.int .i64 a0.period,.int .i64 a0.bases.cash,.int .i64 a0.bases.taxable,.int .i64 a0.bases.social,.int .i64 a0.tax,.int .i64 a0.shortfall,.slice c3 (a0.shares).length c4,.int .i64 a0.net,.slice c5 (a0.taken).length c6,.int .i64 a0.pay]) sh_51 Z (d8.part (f:=0) (.take _ (.take _ (.take _ (.take _ (.take _ (.take _ (.take _ (.take _ (.take _ (.take _ (.nil _))))))))))))) Z Z (g_e (ev_alloc b4 ze_51) Z Z ?_))
   rintro _ h9 ⟨i0,rfl,d9,b6⟩
   refine g_e (ev_store d9 Z Z Z sz_51 Z (.here _ _ (.here _ _ (.here _ _ (.here _ _ (.here _ _ (.here _ _ (.here _ _ (.here _ _ (.here _ _ (.here _ _ (.nil _))))))))))) (.hd _)) Z Z ?_
   rintro _ i1 ⟨b7,b8⟩
   refine gnx ((c_region (GM Y (g_y (y_loadA (cs:=[.int .i64 a0.period,.int .i64 a0.bases.cash,.int .i64 a0.bases.taxable,.int .i64 a0.bases.social,.int .i64 a0.tax,.int .i64 a0.shortfall,.slice c3 (a0.shares).length c4,.int .i64 a0.net,.slice c5 (a0.taken).length c6,.int .i64 a0.pay]) sh_51 Z ((blk_cells b7 m0).part (f:=0) (.take _ (.take _ (.take _ (.take _ (.take _ (.take _ (.take _ (.take _ (.take _ (.take _ (.nil _))))))))))))) Z Z ?_))))
   have c7:=yCopied_c (s:=a0) b7.lt (show slipTy.rel _ _ a0 _ from ⟨_,_,rfl,(c1.mono (b6.t b8)),(c2.mono (b6.t b8))⟩)
   obtain ⟨a2,c8⟩:∃ r,yCopied a0=r:=⟨_,rfl⟩
   rw [c8] at c7
   refine g_e (ev_pure b7 pf_122 Z c7) Z Z ?_
   rintro _ i2 ⟨i3,e0,e1,⟨i4,rfl,e2⟩⟩
   obtain ⟨i5,i6,rfl,c9,d0⟩:=e2
   obtain ⟨e3,e4,rfl,i7,i8⟩:=c9.fm
   obtain ⟨e5,e6,rfl,i9,j0⟩:=d0.fm
   refine g_e (ev_buildSl (T:=slipTy) (xs:=[a2]) e0 el_102 ze_51 Z Z (ble Z) (ble Z) (.cons Z Z Z Z (.here _ _ (.here _ _ (.here _ _ (.here _ _ (.here _ _ (.here _ _ (.here _ _ (.here _ _ (.here _ _ (.here _ _ (.nil _))))))))))) (ble Z) (.nil _)) (.cons (x:=a2) (cs:=[.int .i64 a2.period,.int .i64 a2.bases.cash,.int .i64 a2.bases.taxable,.int .i64 a2.bases.social,.int .i64 a2.tax,.int .i64 a2.shortfall,.slice e3 (a2.shares).length e4,.int .i64 a2.net,.slice e5 (a2.taken).length e6,.int .i64 a2.pay]) ⟨_,_,rfl,c9,d0⟩ .nil)) Z Z ?_
   rintro _ j1 ⟨e7,e8,e9,f0,j2,rfl⟩
   refine g_e (ev_append e8 ei_102 Z Z m1 f0 (by simp only [LA,LC,LN,big] at *; omega) (by simp only [LA,LC,LN,big] at *; omega)) Z Z ?_
   rintro _ j3 ⟨f1,f2,f3,f4,rfl⟩
   have f5:=f1 _ (.tl _ (.hd _))
   refine GA Y (g_nil (x_blockN (x_next ?_)))
   refine c_region (g_y (y_add Z Z (by omega)) Z Z (GM Y (g_nil ?_)))
   have f6:=f5.drop (.hd _)
   refine x_round ((a3 ++ [a2]),f3,f4,a1 + 1,e7) (by dsimp only; omega) (.cons Z (.cons Z (.cons Z (.cons Z (.nil _))))) ⟨f6,(((((b5.t b6).t b8).t e1).t e9).t f2),b9.trans (ET (congrArg (fun l=>ySlips_l1 l a1 a3) (drop_cons c0)) (ET (BE c8) (rfl))),by omega,by first | omega | (simp only [LA,LC,LN] at *; omega)⟩
  ·replace a8:=OF a8
   refine c_exit (x_thenE (x_rndE (x_blockE (x_cut (a3,a5,a6,a7) (.cons Z (.nil _)) ⟨b4,b5,b9.trans (ET (congrArg (fun l=>ySlips_l1 l a1 a3) (drop_nil (by omega))) (rfl)),by first | omega | (simp only [LA,LC,LN] at *; omega)⟩))))
 ·rintro ⟨a4,a9,b0,b1⟩ b2 ⟨d1,j4,f7,j5⟩
  have f8:=row_len (d1.ok _ m0); unfold big at f8
  refine x_next (csr ((GM Y (GA Y (gnx ((c_ret ?_)))))))
  obtain ⟨j6,d2,j7,f9⟩:=pub_row d1 (.hd _) (by simp)
  have g0:ySlips y=a4:=ET (BE f7) (rfl)
  refine x_ret ⟨_,_,rfl,rfl,rfl⟩ (⟨_,_,rfl,d2.fr,d2.grow,by rw [g0]; exact ⟨_,rfl,f9⟩⟩)
def yUpto_l1:List Slip→Nat→Int→Int→Int→Int→Int→(List Share)→Int→Int→Int→Out (Int × Int × Int × Int × Int × List Share × Int × Int × Int) (Totals × Int)
 | [],b0,a1,a2,a3,a4,a5,a6,a7,a8,a9=>(Out.next ((a1,a2,a3,a4,a5,a6,a7,a8,a9)))
 | b1 :: tl1,b0,a1,a2,a3,a4,a5,a6,a7,a8,a9=>(bnd (yAdd ((⟨(⟨a1,a2,a3⟩:Bases),a4,a5,a6,a7,a8,a9⟩:Totals)) b1) fun a0=>
 (if (a0.2≠0) then (Out.ret (((⟨(⟨0,0,0⟩:Bases),0,0,([]:List Share),0,0,0⟩:Totals),a0.2)))
 else (yUpto_l1 tl1 (b0 + 1) a0.1.bases.cash a0.1.bases.taxable a0.1.bases.social a0.1.tax a0.1.shortfall a0.1.shares a0.1.net a0.1.taken a0.1.pay)))
def yUpto (y:YearS) (k:Int):Totals × Int:=
 (if (k < 0) then ((⟨(⟨0,0,0⟩:Bases),0,0,([]:List Share),0,0,0⟩:Totals),3)
 else (if ((y.slips.length:Int) < k) then ((⟨(⟨0,0,0⟩:Bases),0,0,([]:List Share),0,0,0⟩:Totals),3)
 else (bnd (sSum y.contribs (([]:List (List Share)))) fun a0=>
 (if (a0.2≠0) then ((⟨(⟨0,0,0⟩:Bases),0,0,([]:List Share),0,0,0⟩:Totals),a0.2)
 else (out (yUpto_l1 ((y.slips.take k.toNat)) 0 0 0 0 0 0 a0.1 0 0 0) fun ⟨a1,a2,a3,a4,a5,a6,a7,a8,a9⟩=>
 ((⟨(⟨a1,a2,a3⟩:Bases),a4,a5,a6,a7,a8,a9⟩:Totals),0))))))
theorem yUpto_c {y:YearS} {y_r:Nat} {k:Int} {d:Dat} {w:World} (hd:∀ b,d b→b < w.heap.size) (h_y:(yearR y_r y).ok d w):Ret Tryz.prog 47 [.pointer (some ⟨y_r,0,none⟩),.int .i64 k] w [] d (fun u d' w'=>∃ (cs0:List Value),u=.tuple #[.agg cs0.toArray,.int .i64 ((yUpto y k).2)]∧totalsTy.rel d' w' (yUpto y k).1 cs0):=by
 refine ret_enter (n:=60) Tryz.func47 Z Z (ble Z) ?_
 have hI0:=Inv.start hd
 refine csr ((g_e (ev_alloc hI0 ze_64) Z Z ?_))
 rintro _ w1 ⟨b4,rfl,hI2,hle3⟩
 refine GA Y (gnx ((c_seq (csr ((GM Y (g_y (y_lss Z Z) Z Z (GM Y (g_split (t:=13) Z (fun b2=>?_) (fun b2=>?_))))))))))
 ·replace b2:=OT b2
  refine gsk Z Z (gsk Z Z (gsk Z Z (gsk Z Z (gsk Z Z (gsk Z Z (gsk Z Z (g_y (y_pickT Z Z) Z Z (gnx ((c_condT Z (csr ((g_y (y_build ze_64 pl_64 (.nil _)) Z Z ?_)))))))))))))
  refine g_e (ev_store hI2 Z Z Z sz_64 Z (.here _ _ (.here _ _ (.here _ _ (.here _ _ (.here _ _ (.here _ _ (.here _ _ (.here _ _ (.here _ _ (.nil _)))))))))) (.hd _)) Z Z ?_
  rintro _ k6 ⟨e1,k7⟩
  refine GA Y (gnx ((c_ret ?_)))
  have h5:yUpto y k=((⟨(⟨0,0,0⟩:Bases),0,0,([]:List Share),0,0,0⟩:Totals),3):=ET (IP b2) (rfl)
  refine x_thenR (x_ret ⟨_,_,_,rfl,rfl,blk_cells e1 m0,sh_64,⟨_,_,rfl,rfl,rfl⟩⟩ ?_)
  exact ⟨_,_,rfl,e1.fr,e1.grow,by rw [h5]; exact ⟨_,rfl,⟨_,rfl,(Sl.nil_ _ _ _ none 0)⟩⟩⟩
 ·replace b2:=OF b2
  refine GM Y (GM Y (g_y (y_nilCheck Z) Z Z (gfa fo_231_1 Z Z Z ?_)))
  obtain ⟨k8,e2,h6⟩:=obj_kp (M:=[]) h_y (by simp)
  obtain ⟨k9,l0,rfl,e3,h7,l1⟩:=h6
  obtain ⟨h8,h9,rfl,l2,l3⟩:=e3.fm
  obtain ⟨l4,l5,rfl,l6,l7⟩:=h7.fm
  refine g_y (y_load1 sh_102 Z ((e2.at_ hI2).nth_ (i:=1) Z)) Z Z (gln el_102 Z Z Z (g_y (y_gtr Z Z) Z Z (g_y (y_pickF Z Z) Z Z (gnx ((c_cond Z (fun b3=>?_) (fun b3=>?_)))))))
  ·replace b3:=OT b3
   refine csr ((g_y (y_build ze_64 pl_64 (.nil _)) Z Z (g_e (ev_store hI2 Z Z Z sz_64 Z (.here _ _ (.here _ _ (.here _ _ (.here _ _ (.here _ _ (.here _ _ (.here _ _ (.here _ _ (.here _ _ (.nil _)))))))))) (.hd _)) Z Z ?_)))
   rintro _ l8 ⟨e4,l9⟩
   refine GA Y (gnx ((c_ret ?_)))
   have i0:yUpto y k=((⟨(⟨0,0,0⟩:Bases),0,0,([]:List Share),0,0,0⟩:Totals),3):=ET (IN b2) (ET (IP b3) (rfl))
   refine x_thenR (x_ret ⟨_,_,_,rfl,rfl,blk_cells e4 m0,sh_64,⟨_,_,rfl,rfl,rfl⟩⟩ ?_)
   exact ⟨_,_,rfl,e4.fr,e4.grow,by rw [i0]; exact ⟨_,rfl,⟨_,rfl,(Sl.nil_ _ _ _ none 0)⟩⟩⟩
  ·replace b3:=OF b3
   refine c_skip (x_next (csr ((GM Y (g_y (y_nilCheck Z) Z Z (gfa fo_231_0 Z Z Z (g_y (y_load1 sh_3 Z ((e2.at_ hI2).nth_ (i:=0) Z)) Z Z ?_)))))))
   have f6:=sSum_c (n:=y.contribs) (list:=([]:List (List Share))) hI2.lt (Sl.nil_ _ _ _ none 0)
   obtain ⟨c9,d4⟩:∃ r,sSum y.contribs (([]:List (List Share)))=r:=⟨_,rfl⟩
   rw [d4] at f6
   refine g_e (ev_pure hI2 pf_137 Z f6) Z Z ?_
   rintro _ m6 ⟨e5,f7,f8,⟨m7,rfl,f9⟩⟩
   obtain ⟨i1,i2,rfl,m8,m9⟩:=f9.fm
   refine GM Y (g_y (y_extract Z Z) Z Z (g_y (y_extract Z Z) Z Z (GA Y (GA Y (gnx ((c_seq (csr ((GM Y (g_y (y_neq Z Z) Z Z (gnx (?_)))))))))))))
   refine c_cond Z (fun b5=>?_) (fun b5=>?_)
   ·replace b5:=OT b5
    refine csr ((g_y (y_build ze_64 pl_64 (.nil _)) Z Z (GM Y (g_e (ev_store f7 Z Z Z sz_64 Z (.here _ _ (.here _ _ (.here _ _ (.here _ _ (.here _ _ (.here _ _ (.here _ _ (.here _ _ (.here _ _ (.nil _)))))))))) (.hd _)) Z Z ?_))))
    rintro _ n0 ⟨e6,n1⟩
    refine GA Y (gnx ((c_ret ?_)))
    have i3:yUpto y k=((⟨(⟨0,0,0⟩:Bases),0,0,([]:List Share),0,0,0⟩:Totals),c9.2):=ET (IN b2) (ET (IN b3) (ET (BE d4) (ET (IP b5) (rfl))))
    refine x_thenR (x_ret ⟨_,_,_,rfl,rfl,blk_cells e6 m0,sh_64,⟨_,_,rfl,rfl,rfl⟩⟩ ?_)
    exact ⟨_,_,rfl,e6.fr,e6.grow,by rw [i3]; exact ⟨_,rfl,⟨_,rfl,(Sl.nil_ _ _ _ none 0)⟩⟩⟩
   ·replace b5:=OF b5
    refine c_skip (x_next (csr ((GM Y (g_y (y_build ze_64 pl_64 (.cons Z Z Z Z (.next _ (.next _ (.next _ (.next _ (.next _ (.here _ _ (.nil _))))))) (ble Z) (.nil _))) Z Z (g_e (ev_alloc f7 ze_64) Z Z ?_))))))
    rintro _ n2 ⟨d5,rfl,i4,e7⟩
    refine g_e (ev_store i4 Z Z Z sz_64 Z (.here _ _ (.here _ _ (.here _ _ (.here _ _ (.here _ _ (.here _ _ (.here _ _ (.here _ _ (.here _ _ (.nil _)))))))))) (.hd _)) Z Z ?_
    rintro _ g0 ⟨g1,e8⟩
    refine gnx ((c_seq (csr ((GM Y (g_y (y_nilCheck Z) Z Z (gfa fo_231_1 Z Z Z (g_y (y_load1 sh_102 Z ((e2.at_ g1).nth_ (i:=1) Z)) Z Z (GM Y ?_)))))))))
    have i5:(y.slips.take k.toNat).length=k.toNat:=by rw [List.length_take]; omega
    have i6:=Sl.take (e3.mono (((hle3.t f8).t e7).t e8)) (i:=k.toNat) (by omega)
    have i7:=(e3.mono (((hle3.t f8).t e7).t e8)).len.2; unfold big at i7
    refine g_y (y_slice_toL (i:=k.toNat) el_102 Z Z ((Int.toNat_of_nonneg (by omega)).symm) (by omega) i5) Z Z (gln el_102 Z Z Z (GM Y (gnx ((c_cut1 (ι:=Int × Int × Int × Int × Int × List Share × Option Addr × Nat × Int × Int × Int × Dat) (fun ⟨c1,c2,c3,c4,c5,b6,d0,d1,c6,c7,c8,d2⟩=>[(4,.pointer (some ⟨b4,0,none⟩)),(8,.pointer (some ⟨d5,0,none⟩))]) (fun ⟨c1,c2,c3,c4,c5,b6,d0,d1,c6,c7,c8,d2⟩ d6=>Inv [] d w d2 [blk d5 64 [.int .i64 c1,.int .i64 c2,.int .i64 c3,.int .i64 c4,.int .i64 c5,.slice d0 (b6).length d1,.int .i64 c6,.int .i64 c7,.int .i64 c8],blk b4 64 [.int .i64 0,.int .i64 0,.int .i64 0,.int .i64 0,.int .i64 0,.slice none 0 0,.int .i64 0,.int .i64 0,.int .i64 0]] d6∧Le e5 g0 d2 d6∧yUpto_l1 ((y.slips.take k.toNat)) 0 0 0 0 0 0 c9.1 0 0 0=Out.next ((c1,c2,c3,c4,c5,b6,c6,c7,c8))∧Sl shareTy d2 d6 (.slice d0 b6.length d1) b6) ?_ ?_)))))
    ·refine c_block (c_loop (ι:=Nat × Int × Int × Int × Int × Int × List Share × Option Addr × Nat × Int × Int × Int × Dat) (fun ⟨a2,a3,a4,a5,a6,a7,a1,b7,b8,a8,a9,b0,b9⟩=>[(4,.pointer (some ⟨b4,0,none⟩)),(8,.pointer (some ⟨d5,0,none⟩)),(42,.slice h8 ((y.slips.take k.toNat)).length h9),(43,.int .i64 (((y.slips.take k.toNat)).length:Int)),(44,.int .i64 (a2:Int))]) (fun ⟨a2,a3,a4,a5,a6,a7,a1,b7,b8,a8,a9,b0,b9⟩ d7=>Inv [] d w b9 [blk d5 64 [.int .i64 a3,.int .i64 a4,.int .i64 a5,.int .i64 a6,.int .i64 a7,.slice b7 (a1).length b8,.int .i64 a8,.int .i64 a9,.int .i64 b0],blk b4 64 [.int .i64 0,.int .i64 0,.int .i64 0,.int .i64 0,.int .i64 0,.slice none 0 0,.int .i64 0,.int .i64 0,.int .i64 0]] d7∧Le e5 g0 b9 d7∧yUpto_l1 ((y.slips.take k.toNat)) 0 0 0 0 0 0 c9.1 0 0 0=yUpto_l1 (((y.slips.take k.toNat)).drop a2) a2 a3 a4 a5 a6 a7 a1 a8 a9 b0∧a2≤((y.slips.take k.toNat)).length∧Sl shareTy b9 d7 (.slice b7 a1.length b8) a1) (fun ⟨a2,a3,a4,a5,a6,a7,a1,b7,b8,a8,a9,b0,b9⟩=>((y.slips.take k.toNat)).length - a2) (0,0,0,0,0,0,c9.1,i1,i2,0,0,0,e5) (.cons Z (.cons Z (.cons Z (.cons Z (.cons Z (.nil _)))))) ⟨g1,Le.refl _ _,rfl,Nat.zero_le _,(f9.mono (e7.t e8))⟩ ?_)
     rintro ⟨a2,a3,a4,a5,a6,a7,a1,b7,b8,a8,a9,b0,b9⟩ d7 ⟨g2,e9,f0,n3,f1⟩
     have i8:=f1.len.2.2; unfold big at i8
     refine csr ((g_y (y_lss Z Z) Z Z (gnx ((c_seq (c_cond Z (fun d3=>?_) (fun d3=>?_)))))))
     ·replace d3:=OT d3
      obtain ⟨a0,f2⟩:=has (xs:=(y.slips.take k.toNat)) (k:=a2) (by omega)
      refine c_skip (x_next (c_seq (c_block (csr (?_)))))
      obtain ⟨n4,n5,n6,i9,j0,j1,n7⟩:=Sl.at_ (i6.mono e9) f2
      obtain ⟨n8,n9,rfl,g3,g4⟩:=j0
      obtain ⟨g5,g6,rfl,o0,o1⟩:=g3.fm
      obtain ⟨g7,g8,rfl,o2,o3⟩:=g4.fm
      refine g_y (y_indexAddr (i:=a2) el_102 Z i9 Z (rfl) (by omega)) Z Z (g_y (y_loadA (cs:=[.int .i64 a0.period,.int .i64 a0.bases.cash,.int .i64 a0.bases.taxable,.int .i64 a0.bases.social,.int .i64 a0.tax,.int .i64 a0.shortfall,.slice g5 (a0.shares).length g6,.int .i64 a0.net,.slice g7 (a0.taken).length g8,.int .i64 a0.pay]) sh_51 Z (j1.part (f:=0) (.take _ (.take _ (.take _ (.take _ (.take _ (.take _ (.take _ (.take _ (.take _ (.take _ (.nil _))))))))))))) Z Z (g_e (ev_alloc g2 ze_51) Z Z ?_))
      rintro _ o4 ⟨o5,rfl,j2,d8⟩
      refine g_e (ev_store j2 Z Z Z sz_51 Z (.here _ _ (.here _ _ (.here _ _ (.here _ _ (.here _ _ (.here _ _ (.here _ _ (.here _ _ (.here _ _ (.here _ _ (.nil _))))))))))) (.hd _)) Z Z ?_
      rintro _ o6 ⟨d9,e0⟩
      refine gnx ((csr ((g_y (y_loadA (cs:=[.int .i64 a3,.int .i64 a4,.int .i64 a5,.int .i64 a6,.int .i64 a7,.slice b7 (a1).length b8,.int .i64 a8,.int .i64 a9,.int .i64 b0]) sh_64 Z ((blk_cells d9 m1).part (f:=0) (.take _ (.take _ (.take _ (.take _ (.take _ (.take _ (.take _ (.take _ (.take _ (.nil _)))))))))))) Z Z (g_y (y_loadA (cs:=[.int .i64 a0.period,.int .i64 a0.bases.cash,.int .i64 a0.bases.taxable,.int .i64 a0.bases.social,.int .i64 a0.tax,.int .i64 a0.shortfall,.slice g5 (a0.shares).length g6,.int .i64 a0.net,.slice g7 (a0.taken).length g8,.int .i64 a0.pay]) sh_51 Z ((blk_cells d9 m0).part (f:=0) (.take _ (.take _ (.take _ (.take _ (.take _ (.take _ (.take _ (.take _ (.take _ (.take _ (.nil _))))))))))))) Z Z ?_)))))
      have g9:=yAdd_c (t:=(⟨(⟨a3,a4,a5⟩:Bases),a6,a7,a1,a8,a9,b0⟩:Totals)) (s:=a0) d9.lt (show totalsTy.rel _ _ (⟨(⟨a3,a4,a5⟩:Bases),a6,a7,a1,a8,a9,b0⟩:Totals) _ from ⟨_,rfl,(f1.mono (d8.t e0))⟩) (show slipTy.rel _ _ a0 _ from ⟨_,_,rfl,(g3.mono (d8.t e0)),(g4.mono (d8.t e0))⟩)
      obtain ⟨b1,f3⟩:∃ r,yAdd ((⟨(⟨a3,a4,a5⟩:Bases),a6,a7,a1,a8,a9,b0⟩:Totals)) a0=r:=⟨_,rfl⟩
      rw [f3] at g9
      refine g_e (ev_pure d9 pf_138 Z g9) Z Z ?_
      rintro _ o7 ⟨j3,j4,j5,⟨o8,rfl,j6⟩⟩
      obtain ⟨o9,rfl,h0⟩:=j6
      obtain ⟨j7,j8,rfl,p0,p1⟩:=h0.fm
      refine GM Y (g_y (y_extract Z Z) Z Z (g_y (y_extract Z Z) Z Z (g_e (ev_store j4 Z Z Z sz_64 Z (.here _ _ (.here _ _ (.here _ _ (.here _ _ (.here _ _ (.here _ _ (.here _ _ (.here _ _ (.here _ _ (.nil _)))))))))) (.tl _ (.hd _))) Z Z ?_)))
      rintro _ p2 ⟨h1,h2⟩
      refine GA Y (gnx ((csr ((GM Y (g_y (y_neq Z Z) Z Z (gnx ((c_cond Z (fun c0=>?_) (fun c0=>?_))))))))))
      ·replace c0:=OT c0
       refine csr ((g_y (y_build ze_64 pl_64 (.nil _)) Z Z (GM Y (g_e (ev_store h1 Z Z Z sz_64 Z (.here _ _ (.here _ _ (.here _ _ (.here _ _ (.here _ _ (.here _ _ (.here _ _ (.here _ _ (.here _ _ (.nil _)))))))))) (.tl _ (.tl _ (.hd _)))) Z Z ?_))))
       rintro _ p3 ⟨f4,p4⟩
       refine GA Y (gnx ((c_ret ?_)))
       have j9:yUpto_l1 ((y.slips.take k.toNat)) 0 0 0 0 0 0 c9.1 0 0 0=(Out.ret (((⟨(⟨0,0,0⟩:Bases),0,0,([]:List Share),0,0,0⟩:Totals),b1.2))):=f0.trans (ET (congrArg (fun l=>yUpto_l1 l a2 a3 a4 a5 a6 a7 a1 a8 a9 b0) (drop_cons f2)) (ET (BE f3) (ET (IP c0) (rfl))))
       have k0:yUpto y k=((⟨(⟨0,0,0⟩:Bases),0,0,([]:List Share),0,0,0⟩:Totals),b1.2):=ET (IN b2) (ET (IN b3) (ET (BE d4) (ET (IN b5) (ET (out_ret j9) (rfl)))))
       refine x_blockR (x_thenR (x_rndR (x_blockR (x_cutR (x_thenR (x_ret ⟨_,_,_,rfl,rfl,blk_cells f4 m2,sh_64,⟨_,_,rfl,rfl,rfl⟩⟩ ?_))))))
       exact ⟨_,_,rfl,f4.fr,f4.grow,by rw [k0]; exact ⟨_,rfl,⟨_,rfl,(Sl.nil_ _ _ _ none 0)⟩⟩⟩
      ·replace c0:=OF c0
       refine c_skip (x_blockN (x_next ?_))
       refine c_region (g_y (y_add Z Z (by omega)) Z Z (GM Y (g_nil ?_)))
       have k1:=h1.drop (.hd _)
       refine x_round (a2 + 1,b1.1.bases.cash,b1.1.bases.taxable,b1.1.bases.social,b1.1.tax,b1.1.shortfall,b1.1.shares,j7,j8,b1.1.net,b1.1.taken,b1.1.pay,j3) (by dsimp only; omega) (.cons Z (.cons Z (.cons Z (.cons Z (.cons Z (.nil _)))))) ⟨k1,((((e9.t d8).t e0).t j5).t h2),f0.trans (ET (congrArg (fun l=>yUpto_l1 l a2 a3 a4 a5 a6 a7 a1 a8 a9 b0) (drop_cons f2)) (ET (BE f3) (ET (IN c0) (rfl)))),by omega,(h0.mono h2)⟩
     ·replace d3:=OF d3
      refine c_exit (x_thenE (x_rndE (x_blockE (x_cut (a3,a4,a5,a6,a7,a1,b7,b8,a8,a9,b0,b9) (.cons Z (.cons Z (.nil _))) ⟨g2,e9,f0.trans (ET (congrArg (fun l=>yUpto_l1 l a2 a3 a4 a5 a6 a7 a1 a8 a9 b0) (drop_nil (by omega))) (rfl)),f1⟩))))
    ·rintro ⟨c1,c2,c3,c4,c5,b6,d0,d1,c6,c7,c8,d2⟩ d6 ⟨h3,p5,k2,h4⟩
     have k3:=h4.len.2.2; unfold big at k3
     refine x_next (csr ((g_y (y_loadA (cs:=[.int .i64 c1,.int .i64 c2,.int .i64 c3,.int .i64 c4,.int .i64 c5,.slice d0 (b6).length d1,.int .i64 c6,.int .i64 c7,.int .i64 c8]) sh_64 Z ((blk_cells h3 m0).part (f:=0) (.take _ (.take _ (.take _ (.take _ (.take _ (.take _ (.take _ (.take _ (.take _ (.nil _)))))))))))) Z Z (g_e (ev_store h3 Z Z Z sz_64 Z (.here _ _ (.here _ _ (.here _ _ (.here _ _ (.here _ _ (.here _ _ (.here _ _ (.here _ _ (.here _ _ (.nil _)))))))))) (.tl _ (.hd _))) Z Z ?_))))
     rintro _ p6 ⟨f5,k4⟩
     refine GA Y (gnx ((c_ret ?_)))
     have k5:yUpto y k=((⟨(⟨c1,c2,c3⟩:Bases),c4,c5,b6,c6,c7,c8⟩:Totals),0):=ET (IN b2) (ET (IN b3) (ET (BE d4) (ET (IN b5) (ET (out_next k2) (rfl)))))
     refine x_ret ⟨_,_,_,rfl,rfl,blk_cells f5 m1,sh_64,⟨_,_,rfl,rfl,rfl⟩⟩ (⟨_,_,rfl,f5.fr,f5.grow,by rw [k5]; exact ⟨_,rfl,⟨_,rfl,(h4.mono k4)⟩⟩⟩)
theorem ySlips_l1_eq:∀ (l:List Slip) (k:Nat) (xs:List Slip),ySlips_l1 l k xs=xs ++ l.map yCopied
 | [],_,xs=>by simp [ySlips_l1]
 | x :: l,k,xs=>by
  unfold ySlips_l1
  simp only [bnd]
  rw [ySlips_l1_eq l]
  simp
theorem yCopied_eq {s:Slip}:yCopied s=s:=by
 unfold yCopied
 simp [bnd,clShare_eq,clTaken_eq]
theorem ySlips_eq {y:YearS}:ySlips y=y.slips:=by
 unfold ySlips
 simp only [bnd]
 rw [ySlips_l1_eq]
 simp only [List.nil_append]
 conv=>rhs; rw [← List.map_id y.slips]
 exact List.map_congr_left fun s _=>yCopied_eq
theorem yTry_ok {y:YearS} {s:Slip} (h:(yTry y s).2=0):s.period=(y.slips.length:Int) + 1∧s.period≤53∧yCheck s y.contribs=0:=by
 unfold yTry at h
 simp only [bnd] at h
 by_cases h1:yCheck s y.contribs≠0
 ·rw [IP h1] at h; exact absurd h h1
 rw [IN h1] at h
 by_cases h2:s.period≠((y.slips.length:Int) + 1)
 ·rw [IP h2] at h; cases h
 have h3:yCheck s y.contribs=0:=by omega
 refine ⟨by omega,?_,h3⟩
 unfold yCheck at h3
 by_cases h4:s.period < 1
 ·rw [IP h4] at h3; cases h3
 rw [IN h4] at h3
 by_cases h5:53 < s.period
 ·rw [IP h5] at h3; cases h3
 omega
def yClone (y:YearS):YearS:=
 (bnd (ySlips y) fun a0=>
 (bnd (yTotals y) fun a1=>
 (⟨y.contribs,a0,a1⟩:YearS)))
theorem yClone_c {y:YearS} {y_r:Nat} {d:Dat} {w:World} (hd:∀ b,d b→b < w.heap.size) (h_y:(yearR y_r y).ok d w):Ret Tryz.prog 121 [.pointer (some ⟨y_r,0,none⟩)] w [] d (fun u d' w'=>∃ (b0:Nat),u=.pointer (some ⟨b0,0,none⟩)∧Fresh (yearR b0 ((yClone y))) d' w w'):=by
 refine ret_enter (n:=13) Tryz.func121 Z Z (ble Z) ?_
 have hI0:=Inv.start hd
 refine csr ((GA Y (gnx ((c_seq ?_)))))
 have a0:=hI0.drew; have a7:=Le.drew d w
 refine c_drawK 10 follows_mixed a0 (k_y 0 (by kernel_rfl) Z Z Z (fun _ _=>(y_move Z)) (k_y 1 (by kernel_rfl) Z Z Z (fun _ _=>(y_nilCheck Z)) (k_y 2 (by kernel_rfl) Z Z Z (fun _ _=>(y_fieldAddr fo_231_0 Z)) ?_)))
 obtain ⟨d0,b8,b9⟩:=obj_kp (M:=[]) h_y (by simp)
 obtain ⟨d1,d2,rfl,c0,c1,d3⟩:=b9
 obtain ⟨d4,d5,rfl,d6,d7⟩:=c0.fm
 obtain ⟨d8,d9,rfl,e0,e1⟩:=c1.fm
 refine k_y 3 (by kernel_rfl) Z Z Z (fun e2 ⟨e3,c2,e4⟩=>(y_load1 sh_3 Z ((b8.at_ c2).nth_ (i:=0) Z))) (k_y 4 (by kernel_rfl) Z Z Z (fun _ _=>(y_move Z)) (k_y 6 (by kernel_rfl) Z Z Z (fun _ _=>(y_move Z)) (k_all (is:=[5]) (by kernel_rfl) (by simp) (.cons ?_ .nil))))
 have a8:=ySlips_c (y:=y) (y_r:=y_r) a0.lt (Res.keepB _ h_y a7 a0 (by simp))
 obtain ⟨a1,a4⟩:∃ r,ySlips y=r:=⟨_,rfl⟩
 rw [a4] at a8
 refine k_op Z Z Z (ev_pure a0 pf_45 Z a8) ?_
 rintro _ e5 ⟨e6,a2,a9,⟨e7,rfl,b1⟩⟩
 obtain ⟨e8,e9,rfl,f0,f1⟩:=b1.fm
 refine k_next a2 a9 (k_all (is:=[7]) (by kernel_rfl) (by simp) (.cons ?_ .nil))
 have b2:=yTotals_c (y:=y) (y_r:=y_r) a2.lt (Res.keepB _ h_y (a7.t a9) a2 (by simp))
 obtain ⟨a3,b3⟩:∃ r,yTotals y=r:=⟨_,rfl⟩
 rw [b3] at b2
 refine k_op Z Z Z (ev_pure a2 pf_30 Z b2) ?_
 rintro _ f2 ⟨c3,b4,b5,⟨f3,rfl,c4⟩⟩
 obtain ⟨f4,rfl,b6⟩:=c4
 obtain ⟨f5,f6,rfl,f7,f8⟩:=b6.fm
 refine k_next b4 b5 (k_y 8 (by kernel_rfl) Z Z Z (fun _ _=>(y_build ze_231 pl_231 (.cons Z Z Z Z (.here _ _ (.nil _)) (ble Z) (.cons Z Z Z Z (.next _ (.here _ _ (.nil _))) (ble Z) (.cons Z Z Z Z (.next _ (.next _ (.here _ _ (.here _ _ (.here _ _ (.here _ _ (.here _ _ (.here _ _ (.here _ _ (.here _ _ (.here _ _ (.nil _)))))))))))) (ble Z) (.nil _)))))) (k_all (is:=[9]) (by kernel_rfl) (by simp) (.cons ?_ .nil)))
 refine k_op Z Z Z (ev_box b4 Z) ?_
 rintro _ c5 ⟨c6,rfl,b7,a5⟩
 refine k_next (b7.drop (.hd _)) a5 (k_all (is:=[10]) (by kernel_rfl) (by simp) (.cons ?_ .nil))
 refine k_op Z Z Z (Ev.of_y2 (y_assign Z)) ?_
 rintro _ _ ⟨rfl,rfl⟩
 refine k_bar (b_done (by kernel_rfl) (x_draw ?_) (by kernel_rfl))
 refine x_next (c_ret ?_)
 have c7:((⟨y.contribs,a1,a3⟩:YearS)).slips.length≤53:=by have h9:=ySlips_eq (y:=y); rw [a4] at h9; rw [h9]; all_goals (try dsimp only); all_goals first | assumption | omega | (simp only [LA,LC,LN,LS]; omega)
 have c8:=b7.closeObj (ty:=yearTy) (x:=(⟨y.contribs,a1,a3⟩:YearS)) ⟨_,_,rfl,(b1.mono (b5.t a5)),(b6.mono a5),c7⟩
 have a6:Inv [] d w c3 (yearR c6 ((⟨y.contribs,a1,a3⟩:YearS)) :: _) c5:=c8
 have c9:yClone y=(⟨y.contribs,a1,a3⟩:YearS):=ET (BE a4) (ET (BE b3) (rfl))
 refine x_ret ⟨_,_,rfl,rfl,rfl⟩ (⟨_,_,rfl,a6.fr,a6.grow,by rw [c9]; exact ⟨_,rfl,a6.fresh m0⟩⟩)
theorem yClone_eq {y:YearS}:yClone y=y:=by
 unfold yClone
 simp [bnd,ySlips_eq,yTotals,clShareR_eq]
def yPost (y:YearS) (s:Slip):YearS × Int:=
 (bnd (yTry y s) fun a0=>
 (if (a0.2≠0) then (y,a0.2)
 else (bnd (yCopied s) fun a1=>
 ((⟨y.contribs,(y.slips ++ [a1]),a0.1⟩:YearS),0))))
theorem yPost_c {y:YearS} {y_r:Nat} {s:Slip} {cs_s:List Value} {d:Dat} {w:World} (hd:∀ b,d b→b < w.heap.size) (h_y:(yearR y_r y).ok d w) (hn_y:∀ q0 ∈ (yearR y_r y).fp,¬ d q0) (h_s:slipTy.rel d w s cs_s):Ret Tryz.prog 112 [.pointer (some ⟨y_r,0,none⟩),.agg cs_s.toArray] w (yearR y_r y).fp d (fun u d' w'=>u=.int .i64 ((yPost y s).2)∧Turn (yearR y_r y) (yearR y_r ((yPost y s).1)) d' w w'):=by
 obtain ⟨v1,v2,rfl,hS3,hS4⟩:=h_s
 obtain ⟨A5,c6,rfl,hn7,hb8⟩:=hS3.fm
 obtain ⟨A9,b5,rfl,h1,h2⟩:=hS4.fm
 refine ret_enter (n:=42) Tryz.func112 Z Z (ble Z) ?_
 have hI0:=Inv.startM hd h_y hn_y
 refine csr ((g_e (ev_box hI0 Z) Z Z ?_))
 rintro _ h3 ⟨h4,rfl,a5,a6⟩
 refine GA Y (gnx ((csr ((GM Y (g_y (y_loadA (cs:=[.int .i64 s.period,.int .i64 s.bases.cash,.int .i64 s.bases.taxable,.int .i64 s.bases.social,.int .i64 s.tax,.int .i64 s.shortfall,.slice A5 (s.shares).length c6,.int .i64 s.net,.slice A9 (s.taken).length b5,.int .i64 s.pay]) sh_51 Z ((blk_cells a5 m0).part (f:=0) (.take _ (.take _ (.take _ (.take _ (.take _ (.take _ (.take _ (.take _ (.take _ (.take _ (.nil _))))))))))))) Z Z ?_))))))
 have b6:=yTry_c (y:=y) (y_r:=y_r) (s:=s) a5.lt (a5.ok _ m1) (show slipTy.rel _ _ s _ from ⟨_,_,rfl,(hS3.mono a6),(hS4.mono a6)⟩)
 obtain ⟨a0,a3⟩:∃ r,yTry y s=r:=⟨_,rfl⟩
 rw [a3] at b6
 refine g_e (ev_pure a5 pf_158 Z b6) Z Z ?_
 rintro _ h5 ⟨b7,d5,b8,⟨h6,rfl,d6⟩⟩
 obtain ⟨h7,rfl,b9⟩:=d6
 obtain ⟨d7,d8,rfl,h8,i0⟩:=b9.fm
 refine GM Y (g_y (y_extract Z Z) Z Z (g_y (y_extract Z Z) Z Z (g_e (ev_alloc d5 ze_64) Z Z ?_)))
 rintro _ i1 ⟨i2,rfl,d9,b1⟩
 refine g_e (ev_store d9 Z Z Z sz_64 Z (.here _ _ (.here _ _ (.here _ _ (.here _ _ (.here _ _ (.here _ _ (.here _ _ (.here _ _ (.here _ _ (.nil _)))))))))) (.hd _)) Z Z ?_
 rintro _ i3 ⟨a4,b2⟩
 refine GA Y (gnx ((c_seq (csr ((GM Y (g_y (y_neq Z Z) Z Z (gnx ((c_cond Z (fun a2=>?_) (fun a2=>?_)))))))))))
 ·replace a2:=OT a2
  refine csr ((GM Y (GA Y (gnx ((c_ret ?_))))))
  have e0:yPost y s=(y,a0.2):=ET (BE a3) (ET (IP a2) (rfl))
  refine x_thenR (x_ret ⟨_,_,rfl,rfl,rfl⟩ ?_)
  exact ⟨_,_,rfl,a4.fr,a4.grow,by rw [e0]; exact ⟨rfl,a4.turned m2⟩⟩
 ·replace a2:=OF a2
  refine c_skip (x_next (csr ((GM Y (g_y (y_loadA (cs:=[.int .i64 a0.1.bases.cash,.int .i64 a0.1.bases.taxable,.int .i64 a0.1.bases.social,.int .i64 a0.1.tax,.int .i64 a0.1.shortfall,.slice d7 (a0.1.shares).length d8,.int .i64 a0.1.net,.int .i64 a0.1.taken,.int .i64 a0.1.pay]) sh_64 Z ((blk_cells a4 m0).part (f:=0) (.take _ (.take _ (.take _ (.take _ (.take _ (.take _ (.take _ (.take _ (.take _ (.nil _)))))))))))) Z Z (g_y (y_nilCheck Z) Z Z (gfa fo_231_2 Z Z Z ?_)))))))
  have e1:=a4.front (.tl _ (.tl _ (.hd _)))
  obtain ⟨i4,e2,e3⟩:=e1.openObj
  obtain ⟨i5,i6,rfl,c0,e4,i7⟩:=e3
  obtain ⟨i8,i9,rfl,j0,j1⟩:=c0.fm
  obtain ⟨j2,j3,rfl,j4,j5⟩:=e4.fm
  refine g_e (ev_store e2 Z Z Z sz_64 Z (.next _ (.next _ (.here _ _ (.here _ _ (.here _ _ (.here _ _ (.here _ _ (.here _ _ (.here _ _ (.here _ _ (.here _ _ (.nil _)))))))))))) (.hd _)) Z Z ?_
  rintro _ c1 ⟨e5,a7⟩
  refine gnx (?_)
  have e6:((⟨y.contribs,y.slips,a0.1⟩:YearS)).slips.length≤53:=by (try have h9:=yTry_ok (y:=y) (s:=s) (by rw [a3]; omega)); all_goals (try dsimp only); all_goals first | assumption | omega | (simp only [LA,LC,LN,LS]; omega)
  have e7:=e5.closeObj (ty:=yearTy) (x:=(⟨y.contribs,y.slips,a0.1⟩:YearS)) ⟨_,_,rfl,(c0.mono a7),(b9.mono ((b1.t b2).t a7)),e6⟩
  have e8:Inv (yearR y_r y).fp d w b7 (yearR y_r ((⟨y.contribs,y.slips,a0.1⟩:YearS)) :: _) c1:=e7
  refine c_seq ?_
  obtain ⟨j6,e9,f0⟩:=e8.openObj
  obtain ⟨j7,j8,rfl,c2,c3,f1⟩:=f0
  dsimp only at f1
  obtain ⟨j9,k0,rfl,k1,k2⟩:=c2.fm
  obtain ⟨k3,k4,rfl,k5,k6⟩:=c3.fm
  have b3:=e9.drew; have a8:=Le.drew b7 c1
  refine c_drawK 20 follows_mixed b3 (k_y 0 (by kernel_rfl) Z Z Z (fun _ _=>(y_move Z)) (k_y 1 (by kernel_rfl) Z Z Z (fun _ _=>(y_move Z)) (k_y 2 (by kernel_rfl) Z Z Z (fun _ _=>(y_nilCheck Z)) (k_y 3 (by kernel_rfl) Z Z Z (fun _ _=>(y_fieldAddr fo_231_1 Z)) (k_y 4 (by kernel_rfl) Z Z Z (fun k7 ⟨k8,f2,k9⟩=>(y_load1 sh_102 Z ((blk_cells f2 m0).nth_ (i:=1) Z))) (k_y 5 (by kernel_rfl) Z Z Z (fun _ _=>(y_move Z)) (k_y 6 (by kernel_rfl) Z Z Z (fun _ _=>(y_nilCheck Z)) (k_y 7 (by kernel_rfl) Z Z Z (fun _ _=>(y_fieldAddr fo_231_1 Z)) (k_y 8 (by kernel_rfl) Z Z Z (fun l0 ⟨l1,f3,l2⟩=>(y_load1 sh_102 Z ((blk_cells f3 m0).nth_ (i:=1) Z))) (k_y 9 (by kernel_rfl) Z Z Z (fun _ _=>(y_lenS (by rw [el_102]; rfl) Z)) (k_y 10 (by kernel_rfl) Z Z Z (fun _ _=>(y_move Z)) (k_y 11 (by kernel_rfl) Z Z Z (fun _ _=>(y_nilCheck Z)) (k_y 12 (by kernel_rfl) Z Z Z (fun _ _=>(y_fieldAddr fo_231_1 Z)) ?_)))))))))))))
  refine k_y 13 (by kernel_rfl) Z Z Z (fun l3 ⟨l4,f4,l5⟩=>(y_load1 sh_102 Z ((blk_cells f4 m0).nth_ (i:=1) Z))) (k_y 14 (by kernel_rfl) Z Z Z (fun _ _=>(y_lenS (by rw [el_102]; rfl) Z)) ?_)
  have c4:=Sl.clip (c2.mono a8)
  refine k_y 15 (by kernel_rfl) Z Z Z (fun _ _=>(y_clip el_102 Z Z Z (by omega))) (k_y 16 (by kernel_rfl) Z Z Z (fun l6 ⟨l7,f5,l8⟩=>(y_loadA (cs:=[.int .i64 s.period,.int .i64 s.bases.cash,.int .i64 s.bases.taxable,.int .i64 s.bases.social,.int .i64 s.tax,.int .i64 s.shortfall,.slice A5 (s.shares).length c6,.int .i64 s.net,.slice A9 (s.taken).length b5,.int .i64 s.pay]) sh_51 Z ((blk_cells f5 m2).part (f:=0) (.take _ (.take _ (.take _ (.take _ (.take _ (.take _ (.take _ (.take _ (.take _ (.take _ (.nil _)))))))))))))) (k_all (is:=[17]) (by kernel_rfl) (by simp) (.cons ?_ .nil)))
  have c5:=yCopied_c (s:=s) b3.lt (show slipTy.rel _ _ s _ from ⟨_,_,rfl,(hS3.mono (((((a6.t b8).t b1).t b2).t a7).t a8)),(hS4.mono (((((a6.t b8).t b1).t b2).t a7).t a8))⟩)
  obtain ⟨a1,c7⟩:∃ r,yCopied s=r:=⟨_,rfl⟩
  rw [c7] at c5
  refine k_op Z Z Z (ev_pure b3 pf_122 Z c5) ?_
  rintro _ l9 ⟨m6,c8,a9,⟨m7,rfl,f6⟩⟩
  obtain ⟨m8,m9,rfl,c9,d0⟩:=f6
  obtain ⟨f7,f8,rfl,n0,n1⟩:=c9.fm
  obtain ⟨f9,g0,rfl,n2,n3⟩:=d0.fm
  refine k_next c8 a9 (k_all (is:=[18]) (by kernel_rfl) (by simp) (.cons ?_ .nil))
  refine k_op Z Z Z (ev_buildSl (T:=slipTy) (xs:=[a1]) c8 el_102 ze_51 Z Z (ble Z) (ble Z) (.cons Z Z Z Z (.here _ _ (.here _ _ (.here _ _ (.here _ _ (.here _ _ (.here _ _ (.here _ _ (.here _ _ (.here _ _ (.here _ _ (.nil _))))))))))) (ble Z) (.nil _)) (.cons (x:=a1) (cs:=[.int .i64 a1.period,.int .i64 a1.bases.cash,.int .i64 a1.bases.taxable,.int .i64 a1.bases.social,.int .i64 a1.tax,.int .i64 a1.shortfall,.slice f7 (a1.shares).length f8,.int .i64 a1.net,.slice f9 (a1.taken).length g0,.int .i64 a1.pay]) ⟨_,_,rfl,c9,d0⟩ .nil)) ?_
  rintro _ n4 ⟨n5,d1,b0,g1,n6,rfl⟩
  refine k_next d1 b0 (k_all (is:=[19]) (by kernel_rfl) (by simp) (.cons ?_ .nil))
  refine k_op Z Z Z (ev_appendSl d1 ei_102 Z Z (c4.mono (a9.t b0)) g1 (by simp only [LC,LN]; omega) (Sl.clip_nil (c4.mono (a9.t b0))) (by simp only [LA,LC,LN,big] at *; omega) (by simp only [LA,LC,LN,big] at *; omega)) ?_
  rintro _ n7 ⟨n8,n9,rfl,d2,d3⟩
  refine k_next (d2.drop (.hd _)) d3 (k_all (is:=[20]) (by kernel_rfl) (by simp) (.cons ?_ .nil))
  refine k_op Z Z Z (Ev.of_y2 (y_nilCheck Z)) ?_
  rintro _ _ ⟨rfl,rfl⟩
  refine k_bar (b_all (i:=21) (by kernel_rfl) (by kernel_rfl) (k_op Z Z Z (Ev.of_y2 (y_fieldAddr fo_231_1 Z)) ?_))
  rintro _ _ ⟨rfl,rfl⟩
  refine k_bar (b_all (i:=22) (by kernel_rfl) (by kernel_rfl) (k_op Z Z Z (ev_store d2 Z Z Z sz_102 Z (.next _ (.here _ _ (.nil _))) (.tl _ (.hd _))) ?_))
  rintro _ g2 ⟨d4,g3⟩
  refine k_bar (b_done (by kernel_rfl) (x_draw ?_) (by kernel_rfl))
  refine x_next (csr ((GA Y (gnx ((c_ret ?_))))))
  obtain ⟨g4,g5,g6,g7⟩:=pub_row d4 (.hd _) (d4.apart2 (.hd _) m0 rfl)
  have g8:((⟨y.contribs,(y.slips ++ [a1]),a0.1⟩:YearS)).slips.length≤53:=by (try have h9:=yTry_ok (y:=y) (s:=s) (by rw [a3]; omega)); all_goals (try dsimp only); all_goals first | assumption | omega | (simp only [LA,LC,LN,LS]; omega)
  have g9:=g5.closeObj (ty:=yearTy) (x:=(⟨y.contribs,(y.slips ++ [a1]),a0.1⟩:YearS)) ⟨_,_,rfl,g7,(c3.mono (((((a8.t a9).t b0).t d3).t g3).t g6)),g8⟩
  have b4:Inv (yearR y_r y).fp d w g4 (yearR y_r ((⟨y.contribs,(y.slips ++ [a1]),a0.1⟩:YearS)) :: _) g2:=g9
  have h0:yPost y s=((⟨y.contribs,(y.slips ++ [a1]),a0.1⟩:YearS),0):=ET (BE a3) (ET (IN a2) (ET (BE c7) (rfl)))
  refine x_ret ⟨_,_,rfl,rfl,rfl⟩ (⟨_,_,rfl,b4.fr,b4.grow,by rw [h0]; exact ⟨rfl,b4.turned m0⟩⟩)
theorem yPost_inv {y:YearS} {s:Slip}:((yPost y s).2=0∧(yPost y s).1.slips.length=y.slips.length + 1∧y.slips.length + 1≤53)∨((yPost y s).2≠0∧(yPost y s).1.slips.length=y.slips.length):=by
 unfold yPost
 simp only [bnd]
 by_cases h:(yTry y s).2≠0
 ·rw [IP h]; exact .inr ⟨h,rfl⟩
 ·rw [IN h]
  have h9:=yTry_ok (y:=y) (s:=s) (by omega)
  refine .inl ⟨rfl,by simp,by omega⟩
def oList (b:BookS):(List OState):=
 (bnd (clState b.list) fun a0=>
 a0)
theorem oList_c {b:BookS} {b_r:Nat} {d:Dat} {w:World} (hd:∀ b,d b→b < w.heap.size) (h_b:(bookR b_r b).ok d w):Ret Tryz.prog 191 [.pointer (some ⟨b_r,0,none⟩)] w [] d (fun u d' w'=>∃ (v0:Value),u=v0∧Sl oStateTy d' w' v0 (oList b)):=by
 refine ret_enter (n:=8) Tryz.func191 Z Z (ble Z) ?_
 have hI0:=Inv.start hd
 refine csr ((GA Y (gnx ((csr ((GM Y (g_y (y_nilCheck Z) Z Z (gfa fo_265_0 Z Z Z ?_)))))))))
 obtain ⟨cs1,hk2,hr3⟩:=obj_kp (M:=[]) h_b (by simp)
 obtain ⟨v5,rfl,hS6,hi4⟩:=hr3
 obtain ⟨A7,c8,rfl,hn9,a8⟩:=hS6.fm
 refine g_y (y_load1 sh_257 Z ((hk2.at_ hI0).nth_ (i:=0) Z)) Z Z ?_
 have a1:=clState_c (s:=b.list) hI0.lt hS6
 obtain ⟨a2,a0⟩:∃ r,clState b.list=r:=⟨_,rfl⟩
 rw [a0] at a1
 have h8r12:a2.length=b.list.length:=by rw [← a0,clState_eq]
 refine g_e (ev_row hI0 pf_189 Z a1) Z Z ?_
 rintro _ a9 ⟨b0,b1,b2,rfl,a3,b3⟩
 have a5:=row_len (a3.ok _ m0); unfold big at a5
 refine GA Y (gnx ((c_ret ?_)))
 obtain ⟨b4,a4,b5,a6⟩:=pub_row a3 (.hd _) (by simp)
 have a7:oList b=a2:=ET (BE a0) (rfl)
 refine x_ret ⟨_,_,rfl,rfl,rfl⟩ (⟨_,_,rfl,a4.fr,a4.grow,by rw [a7]; exact ⟨_,rfl,a6⟩⟩)
def oClone (b:BookS):BookS:=
 (bnd (clState b.list) fun a0=>
 (⟨a0⟩:BookS))
theorem oClone_c {b:BookS} {b_r:Nat} {d:Dat} {w:World} (hd:∀ b,d b→b < w.heap.size) (h_b:(bookR b_r b).ok d w):Ret Tryz.prog 109 [.pointer (some ⟨b_r,0,none⟩)] w [] d (fun u d' w'=>∃ (b0:Nat),u=.pointer (some ⟨b0,0,none⟩)∧Fresh (bookR b0 ((oClone b))) d' w w'):=by
 refine ret_enter (n:=10) Tryz.func109 Z Z (ble Z) ?_
 have hI0:=Inv.start hd
 refine csr ((GA Y (gnx ((csr ((GM Y (g_y (y_nilCheck Z) Z Z (gfa fo_265_0 Z Z Z ?_)))))))))
 obtain ⟨cs1,hk2,hr3⟩:=obj_kp (M:=[]) h_b (by simp)
 obtain ⟨v5,rfl,hS6,hi4⟩:=hr3
 obtain ⟨A7,c8,rfl,hn9,b6⟩:=hS6.fm
 refine g_y (y_load1 sh_257 Z ((hk2.at_ hI0).nth_ (i:=0) Z)) Z Z ?_
 have a3:=clState_c (s:=b.list) hI0.lt hS6
 obtain ⟨a0,a1⟩:∃ r,clState b.list=r:=⟨_,rfl⟩
 rw [a1] at a3
 have h8r12:a0.length=b.list.length:=by rw [← a1,clState_eq]
 refine g_e (ev_row hI0 pf_189 Z a3) Z Z ?_
 rintro _ b7 ⟨b8,b9,c0,rfl,a4,c1⟩
 have a5:=row_len (a4.ok _ m0); unfold big at a5
 refine g_y (y_build ze_265 pl_265 (.cons Z Z Z Z (.here _ _ (.nil _)) (ble Z) (.nil _))) Z Z (g_e (ev_box a4 Z) Z Z ?_)
 rintro _ a6 ⟨a7,rfl,a8,c2⟩
 refine GA Y (gnx ((c_ret ?_)))
 obtain ⟨a9,b1,c3,b2⟩:=pub_row a8 (.tl _ (.hd _)) (by simp)
 have b3:((⟨a0⟩:BookS)).list.length≤8:=by (try dsimp only); first | assumption | omega | (simp only [LA,LC,LN,LS]; omega)
 have b4:=b1.closeObj (ty:=bookTy) (x:=(⟨a0⟩:BookS)) ⟨_,rfl,b2,b3⟩
 have a2:Inv [] d w a9 (bookR a7 ((⟨a0⟩:BookS)) :: _) a6:=b4
 have b5:oClone b=(⟨a0⟩:BookS):=ET (BE a1) (rfl)
 refine x_ret ⟨_,_,rfl,rfl,rfl⟩ (⟨_,_,rfl,a2.fr,a2.grow,by rw [b5]; exact ⟨_,rfl,a2.fresh m0⟩⟩)
def oTook1 (s:OState) (x:Taken):Bool:=
 (decide (s.order.id=x.order))
theorem oTook1_c {s:OState} {x:Taken} {b_x:Nat} {cs_x:List Value} {d:Dat} {w:World} (hd:∀ b,d b→b < w.heap.size) (hc_x:Cel d w b_x 0 cs_x) (h_x:takenTy.rel d w x cs_x):Ret Tryz.prog 250 [.agg #[.int .i64 s.order.id,.int .i64 s.order.prio,.int .i64 s.order.amount,.int .i64 s.order.rate,.int .i64 s.order.total,.int .i64 s.taken,.int .i64 s.arrears],.pointer (some ⟨b_x,0,none⟩)] w [] d (fun u d' w'=>u=.bool ((oTook1 s x))):=by
 obtain rfl:=h_x
 refine ret_enter (n:=10) Tryz.func250 Z Z (ble Z) ?_
 have hI0:=Inv.start hd
 refine csr ((g_e (ev_box hI0 Z) Z Z ?_))
 rintro _ w1 ⟨b4,rfl,hI2,hle3⟩
 refine GA Y (gnx ((csr ((gfa fo_260_0 Z Z Z (gfa fo_114_0 Z Z Z (gld sh_3 Z hI2 m0 (i:=0) Z Z Z (gfa fo_236_0 Z Z Z (g_y (y_load1 sh_3 Z ((hc_x.mono hle3).cells.nth_ (i:=0) Z)) Z Z (g_y (y_eql Z Z) Z Z (GA Y (gnx (?_)))))))))))))
 refine c_ret ?_
 have hF5:oTook1 s x=(decide (s.order.id=x.order)):=rfl
 refine x_ret ⟨_,_,rfl,rfl,rfl⟩ (⟨_,_,rfl,hI2.fr,hI2.grow,by rw [hF5]; exact rfl⟩)
def ixState1_l1 (x:Taken):List OState→Nat→Out (Unit) (Int)
 | [],a0=>(Out.next (()))
 | a1 :: tl1,a0=>(bnd (oTook1 a1 x) fun a2=>
 (cond a2 ((Out.ret ((a0:Int))))
 ((ixState1_l1 x tl1 (a0 + 1) ))))
def ixState1 (list:(List OState)) (x:Taken):Int:=
 (out (ixState1_l1 x list 0 ) fun _=>
 (-1))
theorem ixState1_c {list:(List OState)} {v_list:Value} {x:Taken} {b_x:Nat} {cs_x:List Value} {d:Dat} {w:World} (hd:∀ b,d b→b < w.heap.size) (h_list:(row oStateTy 260 v_list list).ok d w) (hc_x:Cel d w b_x 0 cs_x) (h_x:takenTy.rel d w x cs_x):Ret Tryz.prog 220 [v_list,.func (.func 250) #[] #[.pointer (some ⟨b_x,0,none⟩)]] w [] d (fun u d' w'=>u=.int .i64 ((ixState1 list x))):=by
 obtain ⟨A2,c3,rfl,hn4,hb5⟩:=row_form h_list; unfold big at hb5
 obtain rfl:=h_x
 refine ret_enter (n:=19) Tryz.func220 Z Z (ble Z) ?_
 have hI0:=Inv.start hd
 refine csr ((GA Y (gnx ((c_seq (csr ((GM Y (gln el_257 Z Z Z (GM Y (gnx ((c_cut1 (ι:=Dat) (fun a4=>[]) (fun a4 a7=>Inv [] d w a4 [] a7∧Le d w a4 a7∧ixState1_l1 x list 0 =Out.next (())) ?_ ?_)))))))))))))
 ·refine c_block (c_loop (ι:=Nat × Dat) (fun ⟨a0,a2⟩=>[(0,.slice A2 list.length c3),(1,.func (.func 250) #[] #[.pointer (some ⟨b_x,0,none⟩)]),(7,.int .i64 (list.length:Int)),(8,.int .i64 (a0:Int))]) (fun ⟨a0,a2⟩ a8=>Inv [] d w a2 [] a8∧Le d w a2 a8∧ixState1_l1 x list 0 =ixState1_l1 x (list.drop a0) a0 ∧a0≤list.length) (fun ⟨a0,a2⟩=>list.length - a0) (0,d) (.cons Z (.cons Z (.cons Z (.cons Z (.nil _))))) ⟨hI0,Le.refl _ _,rfl,Nat.zero_le _⟩ ?_)
  rintro ⟨a0,a2⟩ a8 ⟨a5,a6,a9,c6⟩
  refine csr ((g_y (y_lss Z Z) Z Z (gnx ((c_seq (c_cond Z (fun a3=>?_) (fun a3=>?_)))))))
  ·replace a3:=OT a3
   obtain ⟨a1,b0⟩:=has (xs:=list) (k:=a0) (by omega)
   refine c_skip (x_next (c_seq (c_block (csr ((GM Y (GA Y (gnx ((csr ((GM Y (GM Y ?_)))))))))))))
   refine GM Y ?_
   obtain ⟨c7,c8,b6,b7,b8⟩:=row_at0 (Res.keepB _ h_list a6 a5 (by simp)) b0
   obtain rfl:=b7
   refine g_y (y_indexAddr (i:=a0) el_257 Z b6 Z (rfl) (by omega)) Z Z (g_y (y_loadA (cs:=[.int .i64 a1.order.id,.int .i64 a1.order.prio,.int .i64 a1.order.amount,.int .i64 a1.order.rate,.int .i64 a1.order.total,.int .i64 a1.taken,.int .i64 a1.arrears]) sh_260 Z (b8.part (f:=0) (.take _ (.take _ (.take _ (.take _ (.take _ (.take _ (.take _ (.nil _)))))))))) Z Z ?_)
   have b4:=oTook1_c (s:=a1) (x:=x) a5.lt (hc_x.mono a6) (show takenTy.rel _ _ x _ from rfl)
   obtain ⟨c9,b1⟩:∃ r,oTook1 a1 x=r:=⟨_,rfl⟩
   rw [b1] at b4
   refine g_e (ev_pureC a5 pf_250 Z Z b4) Z Z ?_
   rintro _ d0 ⟨b9,b2,c0,rfl⟩
   refine gnx ((c_cond Z (fun b3=>?_) (fun b3=>?_)))
   ·skip
    refine csr ((GM Y (GA Y (gnx ((c_ret ?_))))))
    have c1:ixState1_l1 x list 0 =(Out.ret ((a0:Int))):=a9.trans (ET (congrArg (fun l=>ixState1_l1 x l a0 ) (drop_cons b0)) (ET (BE b1) (ET (cond_t b3) (rfl))))
    have c2:ixState1 list x=(a0:Int):=ET (out_ret c1) (rfl)
    refine x_blockR (x_thenR (x_rndR (x_blockR (x_cutR (x_thenR (x_ret ⟨_,_,rfl,rfl,rfl⟩ ?_))))))
    exact ⟨_,_,rfl,b2.fr,b2.grow,by rw [c2]; exact rfl⟩
   ·skip
    refine c_skip (x_blockN (x_next ?_))
    refine c_region (g_y (y_add Z Z (by omega)) Z Z (GM Y (g_nil (x_round (a0 + 1,b9) (by dsimp only; omega) (.cons Z (.cons Z (.cons Z (.cons Z (.nil _))))) ⟨b2,(a6.t c0),a9.trans (ET (congrArg (fun l=>ixState1_l1 x l a0 ) (drop_cons b0)) (ET (BE b1) (ET (cond_f b3) (rfl)))),by omega⟩))))
  ·replace a3:=OF a3
   refine c_exit (x_thenE (x_rndE (x_blockE (x_cut (a2) (.nil _) ⟨a5,a6,a9.trans (ET (congrArg (fun l=>ixState1_l1 x l a0 ) (drop_nil (by omega))) (rfl))⟩))))
 ·rintro a4 a7 ⟨b5,d1,c4⟩
  refine x_next (csr ((GA Y (gnx ((c_ret ?_))))))
  have c5:ixState1 list x=(-1):=ET (out_next c4) (rfl)
  refine x_ret ⟨_,_,rfl,rfl,rfl⟩ (⟨_,_,rfl,b5.fr,b5.grow,by rw [c5]; exact rfl⟩)
theorem ixState1_l1_lt (x:Taken):∀ (l:List OState) (k:Nat) (r:Int),ixState1_l1 x l k=.ret r→r < (k:Int) + l.length
 | [],_,_,h=>by cases h
 | y :: l,k,r,h=>by
  unfold ixState1_l1 at h
  simp only [bnd] at h
  cases hq:oTook1 y x with
  | true=>rw [hq] at h; cases h; simp only [LC]; omega
  | false=>
   rw [hq] at h
   have:=ixState1_l1_lt x l (k + 1) r h
   simp only [LC]; omega
theorem ixState1_lt {l:List OState} {x:Taken}:ixState1 l x < (l.length:Int):=by
 unfold ixState1
 cases h:ixState1_l1 x l 0 with
 | next u=>show (-1:Int) < _; omega
 | ret r=>have:=ixState1_l1_lt x l 0 r h; show r < _; omega
def oTook_l1 (b:BookS):List Taken→Nat→(List OState)→Out (List OState) (BookS × Int)
 | [],a5,a0=>(Out.next a0)
 | a3 :: tl1,a5,a0=>(bnd (ixState1 a0 a3) fun a1=>
 (if (a1 < 0) then (Out.ret ((b,3)))
 else (opt (a0)[a1.toNat]? fun a2=>
 (bnd (mAdd a2.taken a3.taken) fun a4=>
 (if (a4.2≠0) then (Out.ret ((b,a4.2)))
 else (bnd (mRight ([a3.carried])) fun a7=>
 (cond a7 ((opt ((a0.set a1.toNat ((⟨a2.order,a4.1,a2.arrears⟩:OState))))[a1.toNat]? fun a6=>
 (oTook_l1 b tl1 (a5 + 1) ((((a0.set a1.toNat ((⟨a2.order,a4.1,a2.arrears⟩:OState)))).set a1.toNat ((⟨a6.order,a6.taken,a3.carried⟩:OState)))))))
 ((Out.ret ((b,10)))))))))))
def oTook (b:BookS) (list:(List Taken)):BookS × Int:=
 (bnd (clState b.list) fun a0=>
 (out (oTook_l1 b list 0 a0) fun a1=>
 ((⟨a1⟩:BookS),0)))
theorem oTook_c {b:BookS} {b_r:Nat} {list:(List Taken)} {v_list:Value} {d:Dat} {w:World} (hd:∀ b,d b→b < w.heap.size) (h_b:(bookR b_r b).ok d w) (hn_b:∀ q0 ∈ (bookR b_r b).fp,¬ d q0) (h_list:Sl takenTy d w v_list list):Ret Tryz.prog 192 [.pointer (some ⟨b_r,0,none⟩),v_list] w (bookR b_r b).fp d (fun u d' w'=>u=.int .i64 ((oTook b list).2)∧Turn (bookR b_r b) (bookR b_r ((oTook b list).1)) d' w w'):=by
 obtain ⟨A1,c2,rfl,hn3,hb4⟩:=h_list.fm
 refine ret_enter (n:=62) Tryz.func192 Z Z (ble Z) ?_
 have hI0:=Inv.startM hd h_b hn_b
 refine csr ((GA Y (gnx ((csr ((GM Y (g_y (y_nilCheck Z) Z Z (gfa fo_265_0 Z Z Z ?_)))))))))
 obtain ⟨cs5,hI6,hr7⟩:=hI0.openObj
 obtain ⟨v9,rfl,d3,hi8⟩:=hr7
 obtain ⟨k8,k9,rfl,l0,l1⟩:=d3.fm
 refine gld sh_257 Z hI6 m0 (i:=0) Z Z Z ?_
 have e5:=clState_c (s:=b.list) hI6.lt d3
 obtain ⟨a4,b3⟩:∃ r,clState b.list=r:=⟨_,rfl⟩
 rw [b3] at e5
 have h8r16:a4.length=b.list.length:=by rw [← b3,clState_eq]
 refine g_e (ev_row hI6 pf_189 Z e5) Z Z ?_
 rintro _ d4 ⟨c0,c1,c3,rfl,e6,e7⟩
 have g3:=row_len (e6.ok _ m0); unfold big at g3
 refine GA Y (gnx ((c_seq (csr ((GM Y (gln el_49 Z Z Z (GM Y (gnx (?_))))))))))
 have g4:=e6.front (.tl _ (.hd _))
 have g5:b.list.length≤8:=by (try dsimp only); first | assumption | omega | (simp only [LA,LC,LN,LS]; omega)
 have g6:=g4.closeObj (ty:=bookTy) (x:=b) ⟨_,rfl,(d3.mono e7),g5⟩
 have g7:Inv (bookR b_r b).fp d w c0 (bookR b_r b :: _) d4:=g6
 refine c_cut1 (ι:=List OState × Dat) (fun ⟨a7,c4⟩=>[(0,.pointer (some ⟨b_r,0,none⟩)),(5,.slice c1 a4.length c3)]) (fun ⟨a7,c4⟩ d5=>Inv (bookR b_r b).fp d w c4 [bookR b_r b,row oStateTy 260 (.slice c1 a4.length c3) (a7)] d5∧Le c0 d4 c4 d5∧oTook_l1 b list 0 a4=Out.next a7∧a7.length=a4.length) ?_ ?_
 ·refine c_block (c_loop (ι:=List OState × Nat × Dat) (fun ⟨a0,a3,b4⟩=>[(0,.pointer (some ⟨b_r,0,none⟩)),(5,.slice c1 a4.length c3),(16,.slice A1 (list).length c2),(17,.int .i64 (list.length:Int)),(18,.int .i64 (a3:Int))]) (fun ⟨a0,a3,b4⟩ d6=>Inv (bookR b_r b).fp d w b4 [bookR b_r b,row oStateTy 260 (.slice c1 a4.length c3) (a0)] d6∧Le c0 d4 b4 d6∧oTook_l1 b list 0 a4=oTook_l1 b (list.drop a3) a3 a0∧a3≤list.length∧a0.length=a4.length) (fun ⟨a0,a3,b4⟩=>list.length - a3) (a4,0,c0) (.cons Z (.cons Z (.cons Z (.cons Z (.cons Z (.nil _)))))) ⟨g7,Le.refl _ _,rfl,Nat.zero_le _,by omega⟩ ?_)
  rintro ⟨a0,a3,b4⟩ d6 ⟨d7,d8,b6,l2,l3⟩
  have g8:=row_len (d7.ok _ m1); unfold big at g8
  refine csr ((g_y (y_lss Z Z) Z Z (gnx ((c_seq (c_cond Z (fun b7=>?_) (fun b7=>?_)))))))
  ·replace b7:=OT b7
   obtain ⟨a1,b8⟩:=has (xs:=list) (k:=a3) (by omega)
   refine c_skip (x_next (c_seq (c_block (csr (?_)))))
   obtain ⟨l4,l5,l6,g9,h0,h1,l7⟩:=Sl.at_ (h_list.mono (e7.t d8)) b8
   obtain rfl:=h0
   refine g_y (y_indexAddr (i:=a3) el_49 Z g9 Z (rfl) (by omega)) Z Z (g_y (y_loadA (cs:=[.int .i64 a1.order,.int .i64 a1.brought,.int .i64 a1.ordered,.int .i64 a1.due,.int .i64 a1.taken,.int .i64 a1.carried]) sh_236 Z (h1.part (f:=0) (.take _ (.take _ (.take _ (.take _ (.take _ (.take _ (.nil _))))))))) Z Z (g_e (ev_alloc d7 ze_236) Z Z ?_))
   rintro _ l8 ⟨l9,rfl,h2,h3⟩
   refine g_e (ev_store h2 Z Z Z sz_236 Z (.here _ _ (.here _ _ (.here _ _ (.here _ _ (.here _ _ (.here _ _ (.nil _))))))) (.hd _)) Z Z ?_
   rintro _ m6 ⟨e8,h4⟩
   refine gnx ((csr ((GM Y ?_))))
   obtain ⟨m7,d9,h5,c5⟩:=pub_blk e8 (.hd _) ((e8.apart2 (.hd _) m0 rfl) _ (.head _))
   refine g_y (y_makeFunc Z) Z Z ?_
   have e9:=ixState1_c (list:=a0) (x:=a1) d9.lt (d9.ok _ m1) c5 (show takenTy.rel _ _ a1 _ from rfl)
   obtain ⟨a5,b5⟩:∃ r,ixState1 a0 a1=r:=⟨_,rfl⟩
   rw [b5] at e9
   have h8r1113:a5 < (a0.length:Int):=by rw [← b5]; exact ixState1_lt
   refine g_e (ev_pure d9 pf_220 Z e9) Z Z ?_
   rintro _ h6 ⟨h7,c6,c7,rfl⟩
   refine GA Y (gnx ((c_seq (csr ((GM Y (g_y (y_lss Z Z) Z Z (gnx ((c_cond Z (fun a8=>?_) (fun a8=>?_)))))))))))
   ·replace a8:=OT a8
    refine csr ((GA Y (gnx ((c_ret ?_)))))
    have h8:oTook_l1 b list 0 a4=(Out.ret ((b,3))):=b6.trans (ET (congrArg (fun l=>oTook_l1 b l a3 a0) (drop_cons b8)) (ET (BE b5) (ET (IP a8) (rfl))))
    have h9:oTook b list=(b,3):=ET (BE b3) (ET (out_ret h8) (rfl))
    refine x_thenR (x_blockR (x_thenR (x_rndR (x_blockR (x_cutR (x_thenR (x_ret ⟨_,_,rfl,rfl,rfl⟩ ?_)))))))
    exact ⟨_,_,rfl,c6.fr,c6.grow,by rw [h9]; exact ⟨rfl,c6.turned m0⟩⟩
   ·replace a8:=OF a8
    refine c_skip (x_next (c_seq ?_))
    have c8:=c6.drew; have c9:=Le.drew h7 h6
    refine c_drawK 12 follows_mixed c8 (k_y 0 (by kernel_rfl) Z Z Z (fun _ _=>(y_move Z)) (k_y 1 (by kernel_rfl) Z Z Z (fun _ _=>(y_move Z)) ?_))
    obtain ⟨a2,b0⟩:=has (xs:=a0) (k:=a5.toNat) (by omega)
    obtain ⟨m8,m9,f0,i0,n0⟩:=row_at0 (c8.ok _ m1) b0
    obtain rfl:=i0
    refine k_y 2 (by kernel_rfl) Z Z Z (fun _ _=>(y_indexAddr (i:=a5.toNat) el_257 Z f0 Z ((Int.toNat_of_nonneg (by omega)).symm) (by omega))) (k_y 3 (by kernel_rfl) Z Z Z (fun _ _=>(y_fieldAddr fo_260_1 Z)) (k_y 4 (by kernel_rfl) Z Z Z (fun n1 ⟨n2,i1,n3⟩=>(y_load1 sh_2 Z ((row_cells (i1.ok _ m1) f0 b0 (fun _ h=>h)).nth_ (i:=5) Z))) (k_y 5 (by kernel_rfl) Z Z Z (fun _ _=>(y_fieldAddr fo_236_4 Z)) (k_y 6 (by kernel_rfl) Z Z Z (fun n4 ⟨n5,n6,i2⟩=>(y_load1 sh_2 Z ((c5.mono ((c7.t c9).t i2)).cells.nth_ (i:=4) Z))) (k_all (is:=[7]) (by kernel_rfl) (by simp) (.cons ?_ .nil))))))
    have f1:=mAdd_c (a:=a2.taken) (b:=a1.taken) c8.lt
    obtain ⟨b1,d0⟩:∃ r,mAdd a2.taken a1.taken=r:=⟨_,rfl⟩
    rw [d0] at f1
    refine k_op Z Z Z (ev_pure c8 pf_116 Z f1) ?_
    rintro _ n7 ⟨n8,b9,d1,rfl⟩
    refine k_next b9 d1 (k_y 8 (by kernel_rfl) Z Z Z (fun _ _=>(y_move Z)) (k_y 9 (by kernel_rfl) Z Z Z (fun _ _=>(y_extract Z Z)) (k_y 10 (by kernel_rfl) Z Z Z (fun _ _=>(y_extract Z Z)) (k_y 11 (by kernel_rfl) Z Z Z (fun _ _=>(y_assign Z)) (k_all (is:=[12]) (by kernel_rfl) (by simp) (.cons ?_ .nil))))))
    refine k_op Z Z Z (Ev.of_y2 (y_assign Z)) ?_
    rintro _ _ ⟨rfl,rfl⟩
    refine k_bar (b_done (by kernel_rfl) (x_draw ?_) (by kernel_rfl))
    refine x_next (c_seq (csr ((GM Y (g_y (y_neq Z Z) Z Z (gnx ((c_cond Z (fun a9=>?_) (fun a9=>?_)))))))))
    ·replace a9:=OT a9
     refine csr ((GM Y (GA Y (gnx ((c_ret ?_))))))
     have i3:oTook_l1 b list 0 a4=(Out.ret ((b,b1.2))):=b6.trans (ET (congrArg (fun l=>oTook_l1 b l a3 a0) (drop_cons b8)) (ET (BE b5) (ET (IN a8) (ET (opt_some b0) (ET (BE d0) (ET (IP a9) (rfl)))))))
     have i4:oTook b list=(b,b1.2):=ET (BE b3) (ET (out_ret i3) (rfl))
     refine x_thenR (x_blockR (x_thenR (x_rndR (x_blockR (x_cutR (x_thenR (x_ret ⟨_,_,rfl,rfl,rfl⟩ ?_)))))))
     exact ⟨_,_,rfl,b9.fr,b9.grow,by rw [i4]; exact ⟨rfl,b9.turned m0⟩⟩
    ·replace a9:=OF a9
     refine c_skip (x_next (c_seq (csr ((gfa fo_236_5 Z Z Z (g_y (y_load1 sh_2 Z ((c5.mono ((c7.t c9).t d1)).cells.nth_ (i:=5) Z)) Z Z (g_e (ev_buildSl (T:=intTy) (xs:=[a1.carried]) b9 el_174 ze_2 Z Z (ble Z) (ble Z) (.cons Z Z Z Z (.here _ _ (.nil _)) (ble Z) (.nil _)) (.cons (x:=a1.carried) (cs:=[.int .i64 a1.carried]) Z .nil)) Z Z ?_)))))))
     rintro _ n9 ⟨o0,f2,f3,i5,o1,rfl⟩
     have f4:=mRight_c (list:=[a1.carried]) f2.lt i5
     obtain ⟨o2,e0⟩:∃ r,mRight ([a1.carried])=r:=⟨_,rfl⟩
     rw [e0] at f4
     refine g_e (ev_pure f2 pf_117 Z f4) Z Z ?_
     rintro _ i6 ⟨f5,d2,f6,rfl⟩
     refine g_y (y_not Z) Z Z (gnx ((c_cond Z (fun b2=>?_) (fun b2=>?_))))
     ·replace b2:=not_t b2
      refine csr ((GA Y (gnx ((c_ret ?_)))))
      have i7:oTook_l1 b list 0 a4=(Out.ret ((b,10))):=b6.trans (ET (congrArg (fun l=>oTook_l1 b l a3 a0) (drop_cons b8)) (ET (BE b5) (ET (IN a8) (ET (opt_some b0) (ET (BE d0) (ET (IN a9) (ET (BE e0) (ET (cond_f b2) (rfl)))))))))
      have i8:oTook b list=(b,10):=ET (BE b3) (ET (out_ret i7) (rfl))
      refine x_thenR (x_blockR (x_thenR (x_rndR (x_blockR (x_cutR (x_thenR (x_ret ⟨_,_,rfl,rfl,rfl⟩ ?_)))))))
      exact ⟨_,_,rfl,d2.fr,d2.grow,by rw [i8]; exact ⟨rfl,d2.turned m0⟩⟩
     ·replace b2:=not_f b2
      refine c_skip (x_next ?_)
      have e1:=d2.drew; have f7:=Le.drew f5 i6
      refine c_drawK 10 follows_mixed (e1.drop (.tl _ (.hd _))) (k_y 0 (by kernel_rfl) Z Z Z (fun _ _=>(y_move Z)) (k_y 1 (by kernel_rfl) Z Z Z (fun _ _=>(y_move Z)) (k_y 2 (by kernel_rfl) Z Z Z (fun _ _=>(y_move Z)) (k_y 3 (by kernel_rfl) Z Z Z (fun _ _=>(y_move Z)) (k_y 4 (by kernel_rfl) Z Z Z (fun _ _=>(y_move Z)) (k_y 5 (by kernel_rfl) Z Z Z (fun _ _=>(y_fieldAddr fo_236_5 Z)) (k_y 6 (by kernel_rfl) Z Z Z (fun o3 ⟨o4,o5,i9⟩=>(y_load1 sh_2 Z ((c5.mono ((((((c7.t c9).t d1).t f3).t f6).t f7).t i9)).cells.nth_ (i:=5) Z))) ?_)))))))
      obtain ⟨o6,o7,f8,j0,j1⟩:=row_at0 (e1.ok _ m1) b0
      obtain rfl:=j0
      refine k_y 7 (by kernel_rfl) Z Z Z (fun _ _=>(y_indexAddr (i:=a5.toNat) el_257 Z f8 Z ((Int.toNat_of_nonneg (by omega)).symm) (by omega))) (k_y 8 (by kernel_rfl) Z Z Z (fun _ _=>(y_fieldAddr fo_260_1 Z)) (k_all (is:=[9]) (by kernel_rfl) (by simp) (.cons ?_ .nil)))
      refine k_op Z Z Z (ev_storeRow (i:=a5.toNat) (off:=5) (cs:=[.int .i64 a2.order.id,.int .i64 a2.order.prio,.int .i64 a2.order.amount,.int .i64 a2.order.rate,.int .i64 a2.order.total,.int .i64 a2.taken,.int .i64 a2.arrears]) (y':=(⟨a2.order,b1.1,a2.arrears⟩:OState)) e1 f8 Z Z Z sz_2 Z (.next _ (.next _ (.next _ (.next _ (.next _ (.here _ _ (.nil _))))))) (.tl _ (.hd _)) b0 j1 Z Z (ble Z)) ?_
      rintro _ o8 ⟨e2,f9⟩
      have o9:(a0.set a5.toNat ((⟨a2.order,b1.1,a2.arrears⟩:OState))).length=a4.length:=by (try simp only [LS]); omega
      refine k_next (e2.drop (.tl _ (.hd _))) f9 (k_all (is:=[10]) (by kernel_rfl) (by simp) (.cons ?_ .nil))
      obtain ⟨a6,e3⟩:=has (xs:=(a0.set a5.toNat ((⟨a2.order,b1.1,a2.arrears⟩:OState)))) (k:=a5.toNat) (by omega)
      obtain ⟨p0,p1,g0,j2,j3⟩:=row_at0 (e2.ok _ m1) e3
      obtain rfl:=j2
      refine k_op Z Z Z (Ev.of_y2 (y_indexAddr (i:=a5.toNat) el_257 Z g0 Z ((Int.toNat_of_nonneg (by omega)).symm) (by omega))) ?_
      rintro _ _ ⟨rfl,rfl⟩
      refine k_bar (b_all (i:=11) (by kernel_rfl) (by kernel_rfl) (k_op Z Z Z (Ev.of_y2 (y_fieldAddr fo_260_2 Z)) ?_))
      rintro _ _ ⟨rfl,rfl⟩
      refine k_bar (b_all (i:=12) (by kernel_rfl) (by kernel_rfl) (k_op Z Z Z (ev_storeRow (i:=a5.toNat) (off:=6) (cs:=[.int .i64 a6.order.id,.int .i64 a6.order.prio,.int .i64 a6.order.amount,.int .i64 a6.order.rate,.int .i64 a6.order.total,.int .i64 a6.taken,.int .i64 a6.arrears]) (y':=(⟨a6.order,a6.taken,a1.carried⟩:OState)) e2 g0 Z Z Z sz_2 Z (.next _ (.next _ (.next _ (.next _ (.next _ (.next _ (.here _ _ (.nil _)))))))) (.tl _ (.hd _)) e3 j3 Z Z (ble Z)) ?_))
      rintro _ p2 ⟨j4,j5⟩
      have p3:(((a0.set a5.toNat ((⟨a2.order,b1.1,a2.arrears⟩:OState)))).set a5.toNat ((⟨a6.order,a6.taken,a1.carried⟩:OState))).length=a4.length:=by (try simp only [LS]); omega
      refine k_bar (b_done (by kernel_rfl) (x_draw ?_) (by kernel_rfl))
      refine x_blockN (x_next ?_)
      refine c_region (g_y (y_add Z Z (by omega)) Z Z (GM Y (g_nil (x_round ((((a0.set a5.toNat ((⟨a2.order,b1.1,a2.arrears⟩:OState)))).set a5.toNat ((⟨a6.order,a6.taken,a1.carried⟩:OState))),a3 + 1,f5) (by dsimp only; omega) (.cons Z (.cons Z (.cons Z (.cons Z (.cons Z (.nil _)))))) ⟨j4,(((((((((((d8.t h3).t h4).t h5).t c7).t c9).t d1).t f3).t f6).t f7).t f9).t j5),b6.trans (ET (congrArg (fun l=>oTook_l1 b l a3 a0) (drop_cons b8)) (ET (BE b5) (ET (IN a8) (ET (opt_some b0) (ET (BE d0) (ET (IN a9) (ET (BE e0) (ET (cond_t b2) (ET (opt_some e3) (rfl)))))))))),by omega,by omega⟩))))
  ·replace b7:=OF b7
   refine c_exit (x_thenE (x_rndE (x_blockE (x_cut (a0,b4) (.cons Z (.cons Z (.nil _))) ⟨d7,d8,b6.trans (ET (congrArg (fun l=>oTook_l1 b l a3 a0) (drop_nil (by omega))) (rfl)),by omega⟩))))
 ·rintro ⟨a7,c4⟩ d5 ⟨g1,p4,j6,p5⟩
  have j7:=row_len (g1.ok _ m1); unfold big at j7
  refine x_next (csr ((GM Y (GM Y (g_y (y_nilCheck Z) Z Z (gfa fo_265_0 Z Z Z ?_))))))
  obtain ⟨p6,j8,j9⟩:=g1.openObj
  obtain ⟨p7,rfl,k0,p8⟩:=j9
  obtain ⟨p9,q1,rfl,q2,q3⟩:=k0.fm
  refine g_e (ev_store j8 Z Z Z sz_257 Z (.here _ _ (.nil _)) (.hd _)) Z Z ?_
  rintro _ k1 ⟨g2,q4⟩
  refine gnx ((csr ((GA Y (gnx ((c_ret ?_)))))))
  obtain ⟨k2,k3,q5,k4⟩:=pub_row g2 (.tl _ (.hd _)) (g2.apart2 (.tl _ (.hd _)) m0 rfl)
  have k5:((⟨a7⟩:BookS)).list.length≤8:=by (try dsimp only); first | assumption | omega | (simp only [LA,LC,LN,LS]; omega)
  have k6:=k3.closeObj (ty:=bookTy) (x:=(⟨a7⟩:BookS)) ⟨_,rfl,k4,k5⟩
  have e4:Inv (bookR b_r b).fp d w k2 (bookR b_r ((⟨a7⟩:BookS)) :: _) k1:=k6
  have k7:oTook b list=((⟨a7⟩:BookS),0):=ET (BE b3) (ET (out_next j6) (rfl))
  refine x_ret ⟨_,_,rfl,rfl,rfl⟩ (⟨_,_,rfl,e4.fr,e4.grow,by rw [k7]; exact ⟨rfl,e4.turned m0⟩⟩)
def aBook (net:Int) (prot:Int) (b:BookS):BookS × (List Taken) × Int × Int:=
 (bnd (oList b) fun r2=>
 (bnd (aServe net prot r2) fun a0=>
 (if (a0.2.2≠0) then (b,([]:List Taken),0,a0.2.2)
 else (bnd (oTook b a0.1) fun a1=>
 (if (a1.2≠0) then (a1.1,([]:List Taken),0,a1.2)
 else (a1.1,a0.1,a0.2.1,0))))))
theorem aBook_c {net:Int} {prot:Int} {b:BookS} {b_r:Nat} {d:Dat} {w:World} (hd:∀ b,d b→b < w.heap.size) (h_b:(bookR b_r b).ok d w) (hn_b:∀ q0 ∈ (bookR b_r b).fp,¬ d q0):Ret Tryz.prog 110 [.int .i64 net,.int .i64 prot,.pointer (some ⟨b_r,0,none⟩)] w (bookR b_r b).fp d (fun u d' w'=>∃ (v0:Value),u=.tuple #[v0,.int .i64 ((aBook net prot b).2.2.1),.int .i64 ((aBook net prot b).2.2.2)]∧Turn (bookR b_r b) (bookR b_r ((aBook net prot b).1)) d' w w'∧Sl takenTy d' w' v0 (aBook net prot b).2.1):=by
 refine ret_enter (n:=33) Tryz.func110 Z Z (ble Z) ?_
 have hI0:=Inv.startM hd h_b hn_b
 refine csr ((GA Y (GA Y (GA Y (gnx ((csr ((GM Y (GM Y (GM Y ?_)))))))))))
 have hq1:=oList_c (b:=b) (b_r:=b_r) hI0.lt (hI0.ok _ m0)
 obtain ⟨r2,hr3⟩:∃ r,oList b=r:=⟨_,rfl⟩
 rw [hr3] at hq1
 refine g_e (ev_pure hI0 pf_191 Z hq1) Z Z ?_
 rintro _ w5 ⟨d4,hI6,hle7,⟨v8,rfl,hS9⟩⟩
 obtain ⟨b8,b9,rfl,c0,c1⟩:=hS9.fm
 have a9:=aServe_c (net:=net) (protected_:=prot) (list:=r2) hI6.lt hS9
 obtain ⟨a4,a5⟩:∃ r,aServe net prot r2=r:=⟨_,rfl⟩
 rw [a5] at a9
 refine g_e (ev_pure hI6 pf_190 Z a9) Z Z ?_
 rintro _ c2 ⟨c3,a1,c4,⟨c5,rfl,a6⟩⟩
 obtain ⟨c6,c7,rfl,c8,c9⟩:=a6.fm
 refine GM Y (g_y (y_extract Z Z) Z Z (g_y (y_extract Z Z) Z Z (g_y (y_extract Z Z) Z Z (GA Y (GA Y (GA Y (gnx ((c_seq (csr ((GM Y (g_y (y_neq Z Z) Z Z ?_)))))))))))))
 refine gnx ((c_cond Z (fun a0=>?_) (fun a0=>?_)))
 ·replace a0:=OT a0
  refine csr ((GM Y (GA Y (GA Y (GA Y (gnx ((c_ret ?_))))))))
  have b1:aBook net prot b=(b,([]:List Taken),0,a4.2.2):=ET (BE hr3) (ET (BE a5) (ET (IP a0) (rfl)))
  refine x_thenR (x_ret ⟨_,_,rfl,rfl,⟨_,_,rfl,rfl,⟨_,_,rfl,rfl,rfl⟩⟩⟩ ?_)
  exact ⟨_,_,rfl,a1.fr,a1.grow,by rw [b1]; exact ⟨_,rfl,a1.turned m0,(Sl.nil_ _ _ _ none 0)⟩⟩
 ·replace a0:=OF a0
  refine c_skip (x_next (c_seq (csr ((GM Y (GM Y ?_))))))
  have b0:=oTook_c (b:=b) (b_r:=b_r) (list:=a4.1) a1.lt (a1.ok _ m0) (a1.nod _ m0) a6
  obtain ⟨a7,a8⟩:∃ r,oTook b a4.1=r:=⟨_,rfl⟩
  rw [a8] at b0
  refine g_e (ev_call pf_192 Z b0) Z Z ?_
  rintro _ d0 ⟨d1,b2,b3,rfl,b4⟩
  obtain ⟨a3,b5⟩:=a1.turn (.hd _) b2 b3 b4
  refine GA Y (gnx ((csr ((GM Y (g_y (y_neq Z Z) Z Z (gnx ((c_cond Z (fun a2=>?_) (fun a2=>?_))))))))))
  ·replace a2:=OT a2
   refine csr ((GM Y (GA Y (GA Y (GA Y (gnx ((c_ret ?_))))))))
   have b6:aBook net prot b=(a7.1,([]:List Taken),0,a7.2):=ET (BE hr3) (ET (BE a5) (ET (IN a0) (ET (BE a8) (ET (IP a2) (rfl)))))
   refine x_thenR (x_ret ⟨_,_,rfl,rfl,⟨_,_,rfl,rfl,⟨_,_,rfl,rfl,rfl⟩⟩⟩ ?_)
   exact ⟨_,_,rfl,a3.fr,a3.grow,by rw [b6]; exact ⟨_,rfl,a3.turned m0,(Sl.nil_ _ _ _ none 0)⟩⟩
  ·replace a2:=OF a2
   refine c_skip (x_next (csr ((GM Y (GM Y (GA Y (GA Y (GA Y (gnx ((c_ret ?_)))))))))))
   have b7:aBook net prot b=(a7.1,a4.1,a4.2.1,0):=ET (BE hr3) (ET (BE a5) (ET (IN a0) (ET (BE a8) (ET (IN a2) (rfl)))))
   refine x_ret ⟨_,_,rfl,rfl,⟨_,_,rfl,rfl,⟨_,_,rfl,rfl,rfl⟩⟩⟩ (⟨_,_,rfl,a3.fr,a3.grow,by rw [b7]; exact ⟨_,rfl,a3.turned m0,(a6.mono b5)⟩⟩)
end Go.Proofs.YtclblpmjamcknaaGreat
