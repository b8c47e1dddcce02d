import Derived.Test.YtclblpmjamcknaaGreatTy1
import Derived.Test.YtclblpmjamcknaaGreatCore15
set_option linter.unusedVariables false
set_option linter.unusedSimpArgs false
set_option maxRecDepth 8000
set_option maxHeartbeats 1000000
namespace Go.Proofs.YtclblpmjamcknaaGreat
open Go.Sx
structure Band where
 frm:Int
 rate:Int
 emp:Int
 deriving DecidableEq,Inhabited
structure Code where
 scheme:Int
 kind:Int
 amount:Int
 flat:Int
 alone:Bool
 deriving DecidableEq,Inhabited
structure Kind where
 name:ByteArray
 cash:Int
 taxable:Int
 social:Int
 deriving DecidableEq,Inhabited
structure Elem where
 kind:ByteArray
 amount:Int
 units:Int
 deriving DecidableEq,Inhabited
structure Bases where
 cash:Int
 taxable:Int
 social:Int
 deriving DecidableEq,Inhabited
structure Share where
 ee:Int
 er:Int
 deriving DecidableEq,Inhabited
structure Contrib where
 name:ByteArray
 base:Int
 bands:(List Band)
 pceil:Int
 yceil:Int
 round:Int
 deriving DecidableEq,Inhabited
structure Table where
 schemes:(List (List Band))
 contribs:(List Contrib)
 kinds:(List Kind)
 limit:Int
 round:Int
 deriving DecidableEq,Inhabited
structure Date where
 y:Int
 m:Int
 d:Int
 deriving DecidableEq,Inhabited
structure Order where
 id:Int
 prio:Int
 amount:Int
 rate:Int
 total:Int
 deriving DecidableEq,Inhabited
structure OState where
 order:Order
 taken:Int
 arrears:Int
 deriving DecidableEq,Inhabited
structure Taken where
 order:Int
 brought:Int
 ordered:Int
 due:Int
 taken:Int
 carried:Int
 deriving DecidableEq,Inhabited
structure Slip where
 period:Int
 bases:Bases
 tax:Int
 shortfall:Int
 shares:(List Share)
 net:Int
 taken:(List Taken)
 pay:Int
 deriving DecidableEq,Inhabited
structure Totals where
 bases:Bases
 tax:Int
 shortfall:Int
 shares:(List Share)
 net:Int
 taken:Int
 pay:Int
 deriving DecidableEq,Inhabited
structure Input where
 code:Code
 elements:(List Elem)
 deriving DecidableEq,Inhabited
structure Clean where
 periods:(List Bases)
 sum:Bases
 tax:Int
 shares:(List Share)
 deriving DecidableEq,Inhabited
structure TStep where
 code:Code
 taxable:Int
 deriving DecidableEq,Inhabited
structure Fix where
 period:Int
 elements:(List Elem)
 at_:Int
 deriving DecidableEq,Inhabited
structure Due where
 bases:Bases
 tax:Int
 shares:(List Share)
 deriving DecidableEq,Inhabited
structure Opn where
 kind:Int
 elements:(List Elem)
 code:Code
 order:Order
 n:Int
 deriving DecidableEq,Inhabited
structure Choice where
 scheme:Int
 band:Int
 contribs:(List Int)
 kept:Int
 deriving DecidableEq,Inhabited
structure HState where
 withheld:Int
 shortfall:Int
 deriving DecidableEq,Inhabited
structure PYear where
 freq:Int
 start:Date
 end_:Date
 first:Int
 days:Int
 deriving DecidableEq,Inhabited
def bandTy:Ty Band:=Ty.plain 3 (fun x=>[.int .i64 x.frm,.int .i64 x.rate,.int .i64 x.emp]) (fun _=>⟨rfl,rfl⟩)
def codeTy:Ty Code:=Ty.plain 5 (fun x=>[.int .i64 x.scheme,.int .i64 x.kind,.int .i64 x.amount,.int .i64 x.flat,.bool x.alone]) (fun _=>⟨rfl,rfl⟩)
def kindTy:Ty Kind:=Ty.plain 4 (fun x=>[.string x.name,.int .i64 x.cash,.int .i64 x.taxable,.int .i64 x.social]) (fun _=>⟨rfl,rfl⟩)
def elemTy:Ty Elem:=Ty.plain 3 (fun x=>[.string x.kind,.int .i64 x.amount,.int .i64 x.units]) (fun _=>⟨rfl,rfl⟩)
def basesTy:Ty Bases:=Ty.plain 3 (fun x=>[.int .i64 x.cash,.int .i64 x.taxable,.int .i64 x.social]) (fun _=>⟨rfl,rfl⟩)
def shareTy:Ty Share:=Ty.plain 2 (fun x=>[.int .i64 x.ee,.int .i64 x.er]) (fun _=>⟨rfl,rfl⟩)
def contribTy:Ty Contrib where
 size:=6
 rel:=fun d w x cs=>∃ v2:Value,cs=[.string x.name,.int .i64 x.base,v2,.int .i64 x.pceil,.int .i64 x.yceil,.int .i64 x.round]∧Sl bandTy d w v2 x.bands
 len:=by rintro d w x cs ⟨v2,rfl,_⟩; rfl
 mono:=by rintro d w d' w' x cs hle ⟨v2,rfl,h2⟩; exact ⟨v2,rfl,h2.mono hle⟩
 one:=by
  rintro d w x cs ⟨v2,rfl,h2⟩
  obtain ⟨_,_,rfl,_,_⟩:=h2.fm
  exact fun u hu=>List.all_eq_true.1 (show List.all _ (·.oneCell')=true from rfl) u hu
def tableTy:Ty Table where
 size:=5
 rel:=fun d w x cs=>∃ v0 v1 v2:Value,cs=[v0,v1,v2,.int .i64 x.limit,.int .i64 x.round]∧Sl (Ty.slice bandTy) d w v0 x.schemes∧Sl contribTy d w v1 x.contribs∧Sl kindTy d w v2 x.kinds
 len:=by rintro d w x cs ⟨v0,v1,v2,rfl,_,_,_⟩; rfl
 mono:=by rintro d w d' w' x cs hle ⟨v0,v1,v2,rfl,h0,h1,h2⟩; exact ⟨v0,v1,v2,rfl,h0.mono hle,h1.mono hle,h2.mono hle⟩
 one:=by
  rintro d w x cs ⟨v0,v1,v2,rfl,h0,h1,h2⟩
  obtain ⟨_,_,rfl,_,_⟩:=h0.fm
  obtain ⟨_,_,rfl,_,_⟩:=h1.fm
  obtain ⟨_,_,rfl,_,_⟩:=h2.fm
  exact fun u hu=>List.all_eq_true.1 (show List.all _ (·.oneCell')=true from rfl) u hu
def orderTy:Ty Order:=Ty.plain 5 (fun x=>[.int .i64 x.id,.int .i64 x.prio,.int .i64 x.amount,.int .i64 x.rate,.int .i64 x.total]) (fun _=>⟨rfl,rfl⟩)
def oStateTy:Ty OState:=Ty.plain 7 (fun x=>[.int .i64 x.order.id,.int .i64 x.order.prio,.int .i64 x.order.amount,.int .i64 x.order.rate,.int .i64 x.order.total,.int .i64 x.taken,.int .i64 x.arrears]) (fun _=>⟨rfl,rfl⟩)
def takenTy:Ty Taken:=Ty.plain 6 (fun x=>[.int .i64 x.order,.int .i64 x.brought,.int .i64 x.ordered,.int .i64 x.due,.int .i64 x.taken,.int .i64 x.carried]) (fun _=>⟨rfl,rfl⟩)
def slipTy:Ty Slip where
 size:=10
 rel:=fun d w x cs=>∃ v6 v8:Value,cs=[.int .i64 x.period,.int .i64 x.bases.cash,.int .i64 x.bases.taxable,.int .i64 x.bases.social,.int .i64 x.tax,.int .i64 x.shortfall,v6,.int .i64 x.net,v8,.int .i64 x.pay]∧Sl shareTy d w v6 x.shares∧Sl takenTy d w v8 x.taken
 len:=by rintro d w x cs ⟨v6,v8,rfl,_,_⟩; rfl
 mono:=by rintro d w d' w' x cs hle ⟨v6,v8,rfl,h6,h8⟩; exact ⟨v6,v8,rfl,h6.mono hle,h8.mono hle⟩
 one:=by
  rintro d w x cs ⟨v6,v8,rfl,h6,h8⟩
  obtain ⟨_,_,rfl,_,_⟩:=h6.fm
  obtain ⟨_,_,rfl,_,_⟩:=h8.fm
  exact fun u hu=>List.all_eq_true.1 (show List.all _ (·.oneCell')=true from rfl) u hu
def totalsTy:Ty Totals where
 size:=9
 rel:=fun d w x cs=>∃ v5:Value,cs=[.int .i64 x.bases.cash,.int .i64 x.bases.taxable,.int .i64 x.bases.social,.int .i64 x.tax,.int .i64 x.shortfall,v5,.int .i64 x.net,.int .i64 x.taken,.int .i64 x.pay]∧Sl shareTy d w v5 x.shares
 len:=by rintro d w x cs ⟨v5,rfl,_⟩; rfl
 mono:=by rintro d w d' w' x cs hle ⟨v5,rfl,h5⟩; exact ⟨v5,rfl,h5.mono hle⟩
 one:=by
  rintro d w x cs ⟨v5,rfl,h5⟩
  obtain ⟨_,_,rfl,_,_⟩:=h5.fm
  exact fun u hu=>List.all_eq_true.1 (show List.all _ (·.oneCell')=true from rfl) u hu
def inputTy:Ty Input where
 size:=6
 rel:=fun d w x cs=>∃ v5:Value,cs=[.int .i64 x.code.scheme,.int .i64 x.code.kind,.int .i64 x.code.amount,.int .i64 x.code.flat,.bool x.code.alone,v5]∧Sl elemTy d w v5 x.elements
 len:=by rintro d w x cs ⟨v5,rfl,_⟩; rfl
 mono:=by rintro d w d' w' x cs hle ⟨v5,rfl,h5⟩; exact ⟨v5,rfl,h5.mono hle⟩
 one:=by
  rintro d w x cs ⟨v5,rfl,h5⟩
  obtain ⟨_,_,rfl,_,_⟩:=h5.fm
  exact fun u hu=>List.all_eq_true.1 (show List.all _ (·.oneCell')=true from rfl) u hu
def cleanTy:Ty Clean where
 size:=6
 rel:=fun d w x cs=>∃ v0 v5:Value,cs=[v0,.int .i64 x.sum.cash,.int .i64 x.sum.taxable,.int .i64 x.sum.social,.int .i64 x.tax,v5]∧Sl basesTy d w v0 x.periods∧Sl shareTy d w v5 x.shares
 len:=by rintro d w x cs ⟨v0,v5,rfl,_,_⟩; rfl
 mono:=by rintro d w d' w' x cs hle ⟨v0,v5,rfl,h0,h5⟩; exact ⟨v0,v5,rfl,h0.mono hle,h5.mono hle⟩
 one:=by
  rintro d w x cs ⟨v0,v5,rfl,h0,h5⟩
  obtain ⟨_,_,rfl,_,_⟩:=h0.fm
  obtain ⟨_,_,rfl,_,_⟩:=h5.fm
  exact fun u hu=>List.all_eq_true.1 (show List.all _ (·.oneCell')=true from rfl) u hu
def tStepTy:Ty TStep:=Ty.plain 6 (fun x=>[.int .i64 x.code.scheme,.int .i64 x.code.kind,.int .i64 x.code.amount,.int .i64 x.code.flat,.bool x.code.alone,.int .i64 x.taxable]) (fun _=>⟨rfl,rfl⟩)
def fixTy:Ty Fix where
 size:=3
 rel:=fun d w x cs=>∃ v1:Value,cs=[.int .i64 x.period,v1,.int .i64 x.at_]∧Sl elemTy d w v1 x.elements
 len:=by rintro d w x cs ⟨v1,rfl,_⟩; rfl
 mono:=by rintro d w d' w' x cs hle ⟨v1,rfl,h1⟩; exact ⟨v1,rfl,h1.mono hle⟩
 one:=by
  rintro d w x cs ⟨v1,rfl,h1⟩
  obtain ⟨_,_,rfl,_,_⟩:=h1.fm
  exact fun u hu=>List.all_eq_true.1 (show List.all _ (·.oneCell')=true from rfl) u hu
def dueTy:Ty Due where
 size:=5
 rel:=fun d w x cs=>∃ v4:Value,cs=[.int .i64 x.bases.cash,.int .i64 x.bases.taxable,.int .i64 x.bases.social,.int .i64 x.tax,v4]∧Sl shareTy d w v4 x.shares
 len:=by rintro d w x cs ⟨v4,rfl,_⟩; rfl
 mono:=by rintro d w d' w' x cs hle ⟨v4,rfl,h4⟩; exact ⟨v4,rfl,h4.mono hle⟩
 one:=by
  rintro d w x cs ⟨v4,rfl,h4⟩
  obtain ⟨_,_,rfl,_,_⟩:=h4.fm
  exact fun u hu=>List.all_eq_true.1 (show List.all _ (·.oneCell')=true from rfl) u hu
def opnTy:Ty Opn where
 size:=13
 rel:=fun d w x cs=>∃ v1:Value,cs=[.int .i64 x.kind,v1,.int .i64 x.code.scheme,.int .i64 x.code.kind,.int .i64 x.code.amount,.int .i64 x.code.flat,.bool x.code.alone,.int .i64 x.order.id,.int .i64 x.order.prio,.int .i64 x.order.amount,.int .i64 x.order.rate,.int .i64 x.order.total,.int .i64 x.n]∧Sl elemTy d w v1 x.elements
 len:=by rintro d w x cs ⟨v1,rfl,_⟩; rfl
 mono:=by rintro d w d' w' x cs hle ⟨v1,rfl,h1⟩; exact ⟨v1,rfl,h1.mono hle⟩
 one:=by
  rintro d w x cs ⟨v1,rfl,h1⟩
  obtain ⟨_,_,rfl,_,_⟩:=h1.fm
  exact fun u hu=>List.all_eq_true.1 (show List.all _ (·.oneCell')=true from rfl) u hu
def choiceTy:Ty Choice where
 size:=4
 rel:=fun d w x cs=>∃ v2:Value,cs=[.int .i64 x.scheme,.int .i64 x.band,v2,.int .i64 x.kept]∧Sl intTy d w v2 x.contribs
 len:=by rintro d w x cs ⟨v2,rfl,_⟩; rfl
 mono:=by rintro d w d' w' x cs hle ⟨v2,rfl,h2⟩; exact ⟨v2,rfl,h2.mono hle⟩
 one:=by
  rintro d w x cs ⟨v2,rfl,h2⟩
  obtain ⟨_,_,rfl,_,_⟩:=h2.fm
  exact fun u hu=>List.all_eq_true.1 (show List.all _ (·.oneCell')=true from rfl) u hu
def pYearTy:Ty PYear:=Ty.plain 9 (fun x=>[.int .i64 x.freq,.int .i64 x.start.y,.int .i64 x.start.m,.int .i64 x.start.d,.int .i64 x.end_.y,.int .i64 x.end_.m,.int .i64 x.end_.d,.int .i64 x.first,.int .i64 x.days]) (fun _=>⟨rfl,rfl⟩)
def fRate (rate:Int):Bool:=
 (if (0≤rate) then (decide (rate≤10000))
 else false)
theorem fRate_c {rate:Int} {d:Dat} {w:World} (hd:∀ b,d b→b < w.heap.size):Ret Tryz.prog 244 [.int .i64 rate] w [] d (fun u d' w'=>u=.bool ((fRate rate))):=by
 refine ret_enter (n:=9) Tryz.func244 Z Z (ble Z) ?_
 have hI0:=Inv.start hd
 refine csr ((GA Y (gnx ((csr ((GM Y (g_y (y_geq Z Z) Z Z (GM Y (g_split (t:=5) Z (fun hg1=>?_) (fun hg1=>?_)))))))))))
 ·replace hg1:=OT hg1
  refine GM Y (g_y (y_leq Z Z) Z Z (g_y (y_pickT Z Z) Z Z (GA Y (gnx ((c_ret ?_))))))
  have hF2:fRate rate=(decide (rate≤10000)):=ET (IP hg1) (rfl)
  refine x_ret ⟨_,_,rfl,rfl,rfl⟩ (⟨_,_,rfl,hI0.fr,hI0.grow,by rw [hF2]; exact rfl⟩)
 ·replace hg1:=OF hg1
  refine gsk Z Z (gsk Z Z (g_y (y_pickF Z Z) Z Z (GA Y (gnx ((c_ret ?_))))))
  have hF3:fRate rate=false:=ET (IN hg1) (rfl)
  refine x_ret ⟨_,_,rfl,rfl,rfl⟩ (⟨_,_,rfl,hI0.fr,hI0.grow,by rw [hF3]; exact rfl⟩)
def fMode (mode:Int):Bool:=
 (if (1≤mode) then (decide (mode≤6))
 else false)
theorem fMode_c {mode:Int} {d:Dat} {w:World} (hd:∀ b,d b→b < w.heap.size):Ret Tryz.prog 245 [.int .i64 mode] w [] d (fun u d' w'=>u=.bool ((fMode mode))):=by
 refine ret_enter (n:=9) Tryz.func245 Z Z (ble Z) ?_
 have hI0:=Inv.start hd
 refine csr ((GA Y (gnx ((csr ((GM Y (g_y (y_geq Z Z) Z Z (GM Y (g_split (t:=5) Z (fun hg1=>?_) (fun hg1=>?_)))))))))))
 ·replace hg1:=OT hg1
  refine GM Y (g_y (y_leq Z Z) Z Z (g_y (y_pickT Z Z) Z Z (GA Y (gnx ((c_ret ?_))))))
  have hF2:fMode mode=(decide (mode≤6)):=ET (IP hg1) (rfl)
  refine x_ret ⟨_,_,rfl,rfl,rfl⟩ (⟨_,_,rfl,hI0.fr,hI0.grow,by rw [hF2]; exact rfl⟩)
 ·replace hg1:=OF hg1
  refine gsk Z Z (gsk Z Z (g_y (y_pickF Z Z) Z Z (GA Y (gnx ((c_ret ?_))))))
  have hF3:fMode mode=false:=ET (IN hg1) (rfl)
  refine x_ret ⟨_,_,rfl,rfl,rfl⟩ (⟨_,_,rfl,hI0.fr,hI0.grow,by rw [hF3]; exact rfl⟩)
def mRight_l1:List Int→Nat→Out (Unit) (Bool)
 | [],a0=>(Out.next (()))
 | a1 :: tl1,a0=>(if (100000000000 < a1) then (Out.ret false)
 else (if (a1 < (-100000000000)) then (Out.ret false)
 else (mRight_l1 tl1 (a0 + 1) )))
def mRight (list:(List Int)):Bool:=
 (out (mRight_l1 list 0 ) fun _=>
 true)
theorem mRight_c {list:(List Int)} {v_list:Value} {d:Dat} {w:World} (hd:∀ b,d b→b < w.heap.size) (h_list:Sl intTy d w v_list list):Ret Tryz.prog 117 [v_list] w [] d (fun u d' w'=>u=.bool ((mRight list))):=by
 obtain ⟨A1,c2,rfl,hn3,hb4⟩:=h_list.fm
 refine ret_enter (n:=18) Tryz.func117 Z Z (ble Z) ?_
 have hI0:=Inv.start hd
 refine csr ((GA Y (gnx ((c_seq (csr ((GM Y (gln el_174 Z Z Z (GM Y (gnx ((c_cut1 (ι:=Dat) (fun a6=>[]) (fun a6 a9=>Inv [] d w a6 [] a9∧Le d w a6 a9∧mRight_l1 list 0 =Out.next (())) ?_ ?_)))))))))))))
 ·refine c_block (c_loop (ι:=Nat × Dat) (fun ⟨a0,a2⟩=>[(5,.slice A1 (list).length c2),(6,.int .i64 (list.length:Int)),(7,.int .i64 (a0:Int))]) (fun ⟨a0,a2⟩ b0=>Inv [] d w a2 [] b0∧Le d w a2 b0∧mRight_l1 list 0 =mRight_l1 (list.drop a0) a0 ∧a0≤list.length) (fun ⟨a0,a2⟩=>list.length - a0) (0,d) (.cons Z (.cons Z (.cons Z (.nil _)))) ⟨hI0,Le.refl _ _,rfl,Nat.zero_le _⟩ ?_)
  rintro ⟨a0,a2⟩ b0 ⟨a4,b1,a7,c3⟩
  refine csr ((g_y (y_lss Z Z) Z Z (gnx ((c_seq (c_cond Z (fun a5=>?_) (fun a5=>?_)))))))
  ·replace a5:=OT a5
   obtain ⟨c4,a8⟩:=has (xs:=list) (k:=a0) (by omega)
   refine c_skip (x_next (c_seq (c_block (csr (?_)))))
   obtain ⟨c5,c6,c7,b3,b4,b5,c8⟩:=Sl.at_ (h_list.mono b1) a8
   obtain rfl:=b4
   refine g_y (y_indexAddr (i:=a0) el_174 Z b3 Z (rfl) (by omega)) Z Z (g_y (y_load1 sh_2 Z (b5.nth_ (i:=0) Z)) Z Z (GA Y (gnx ((csr ((GM Y (g_y (y_gtr Z Z) Z Z (GM Y (g_split (t:=13) Z (fun a1=>?_) (fun a1=>?_)))))))))))
   ·replace a1:=OT a1
    refine gsk Z Z (gsk Z Z (g_y (y_pickT Z Z) Z Z (gnx ((c_condT Z (csr ((GA Y (gnx ((c_ret ?_)))))))))))
    have b6:mRight_l1 list 0 =(Out.ret false):=a7.trans (ET (congrArg (fun l=>mRight_l1 l a0 ) (drop_cons a8)) (ET (IP a1) (rfl)))
    have b7:mRight list=false:=ET (out_ret b6) (rfl)
    refine x_blockR (x_thenR (x_rndR (x_blockR (x_cutR (x_thenR (x_ret ⟨_,_,rfl,rfl,rfl⟩ ?_))))))
    exact ⟨_,_,rfl,a4.fr,a4.grow,by rw [b7]; exact rfl⟩
   ·replace a1:=OF a1
    refine GM Y (g_y (y_lss Z Z) Z Z (g_y (y_pickF Z Z) Z Z (gnx ((c_cond Z (fun a3=>?_) (fun a3=>?_))))))
    ·replace a3:=OT a3
     refine csr ((GA Y (gnx ((c_ret ?_)))))
     have b8:mRight_l1 list 0 =(Out.ret false):=a7.trans (ET (congrArg (fun l=>mRight_l1 l a0 ) (drop_cons a8)) (ET (IN a1) (ET (IP a3) (rfl))))
     have b9:mRight list=false:=ET (out_ret b8) (rfl)
     refine x_blockR (x_thenR (x_rndR (x_blockR (x_cutR (x_thenR (x_ret ⟨_,_,rfl,rfl,rfl⟩ ?_))))))
     exact ⟨_,_,rfl,a4.fr,a4.grow,by rw [b9]; exact rfl⟩
    ·replace a3:=OF a3
     refine c_skip (x_blockN (x_next ?_))
     refine c_region (g_y (y_add Z Z (by omega)) Z Z (GM Y (g_nil (x_round (a0 + 1,a2) (by dsimp only; omega) (.cons Z (.cons Z (.cons Z (.nil _)))) ⟨a4,b1,a7.trans (ET (congrArg (fun l=>mRight_l1 l a0 ) (drop_cons a8)) (ET (IN a1) (ET (IN a3) (rfl)))),by omega⟩))))
  ·replace a5:=OF a5
   refine c_exit (x_thenE (x_rndE (x_blockE (x_cut (a2) (.nil _) ⟨a4,b1,a7.trans (ET (congrArg (fun l=>mRight_l1 l a0 ) (drop_nil (by omega))) (rfl))⟩))))
 ·rintro a6 a9 ⟨b2,c9,c0⟩
  refine x_next (csr ((GA Y (gnx ((c_ret ?_))))))
  have c1:mRight list=true:=ET (out_next c0) (rfl)
  refine x_ret ⟨_,_,rfl,rfl,rfl⟩ (⟨_,_,rfl,b2.fr,b2.grow,by rw [c1]; exact rfl⟩)
def mcheck (x:Int):Int × Int:=
 (bnd (mRight ([x])) fun a0=>
 (cond a0 ((x,0))
 ((0,10))))
theorem mcheck_c {x:Int} {d:Dat} {w:World} (hd:∀ b,d b→b < w.heap.size):Ret Tryz.prog 196 [.int .i64 x] w [] d (fun u d' w'=>u=.tuple #[.int .i64 ((mcheck x).1),.int .i64 ((mcheck x).2)]):=by
 refine ret_enter (n:=9) Tryz.func196 Z Z (ble Z) ?_
 have hI0:=Inv.start hd
 refine csr ((GA Y (GA Y (gnx ((c_seq (csr ((GM Y (g_e (ev_buildSl (T:=intTy) (xs:=[x]) hI0 el_174 ze_2 Z Z (ble Z) (ble Z) (.cons Z Z Z Z (.here _ _ (.nil _)) (ble Z) (.nil _)) (.cons (x:=x) (cs:=[.int .i64 x]) Z .nil)) Z Z ?_))))))))))
 rintro _ a8 ⟨a9,a3,b0,a5,b1,rfl⟩
 have a4:=mRight_c (list:=[x]) a3.lt a5
 obtain ⟨b2,a2⟩:∃ r,mRight ([x])=r:=⟨_,rfl⟩
 rw [a2] at a4
 refine g_e (ev_pure a3 pf_117 Z a4) Z Z ?_
 rintro _ b3 ⟨b4,a1,b5,rfl⟩
 refine g_y (y_not Z) Z Z (gnx ((c_cond Z (fun a0=>?_) (fun a0=>?_))))
 ·replace a0:=not_t a0
  refine csr ((GA Y (GA Y (gnx ((c_ret ?_))))))
  have a6:mcheck x=(0,10):=ET (BE a2) (ET (cond_f a0) (rfl))
  refine x_thenR (x_ret ⟨_,_,rfl,rfl,⟨_,_,rfl,rfl,rfl⟩⟩ ?_)
  exact ⟨_,_,rfl,a1.fr,a1.grow,by rw [a6]; exact rfl⟩
 ·replace a0:=not_f a0
  refine c_skip (x_next (csr ((GM Y (GA Y (GA Y (gnx ((c_ret ?_)))))))))
  have a7:mcheck x=(x,0):=ET (BE a2) (ET (cond_t a0) (rfl))
  refine x_ret ⟨_,_,rfl,rfl,⟨_,_,rfl,rfl,rfl⟩⟩ (⟨_,_,rfl,a1.fr,a1.grow,by rw [a7]; exact rfl⟩)
def mAdd (a:Int) (b:Int):Int × Int:=
 (bnd (mRight ([a,b])) fun a1=>
 (cond a1 ((bnd (mcheck ((wI (a + b)))) fun a0=>
 (a0.1,a0.2)))
 ((0,10))))
theorem mAdd_c {a:Int} {b:Int} {d:Dat} {w:World} (hd:∀ b,d b→b < w.heap.size):Ret Tryz.prog 116 [.int .i64 a,.int .i64 b] w [] d (fun u d' w'=>u=.tuple #[.int .i64 ((mAdd a b).1),.int .i64 ((mAdd a b).2)]):=by
 refine ret_enter (n:=17) Tryz.func116 Z Z (ble Z) ?_
 have hI0:=Inv.start hd
 refine csr ((GA Y (GA Y (gnx ((c_seq (csr ((GM Y (GM Y (g_e (ev_buildSl (T:=intTy) (xs:=[a,b]) hI0 el_174 ze_2 Z Z (ble Z) (ble Z) (.cons Z Z Z Z (.here _ _ (.nil _)) (ble Z) (.cons Z Z Z Z (.next _ (.here _ _ (.nil _))) (ble Z) (.nil _))) (.cons (x:=a) (cs:=[.int .i64 a]) Z (.cons (x:=b) (cs:=[.int .i64 b]) Z .nil))) Z Z ?_)))))))))))
 rintro _ b2 ⟨b3,a3,b4,a9,b5,rfl⟩
 have a4:=mRight_c (list:=[a,b]) a3.lt a9
 obtain ⟨b6,a2⟩:∃ r,mRight ([a,b])=r:=⟨_,rfl⟩
 rw [a2] at a4
 refine g_e (ev_pure a3 pf_117 Z a4) Z Z ?_
 rintro _ b7 ⟨b8,a1,b9,rfl⟩
 refine g_y (y_not Z) Z Z (gnx ((c_cond Z (fun a0=>?_) (fun a0=>?_))))
 ·replace a0:=not_t a0
  refine csr ((GA Y (GA Y (gnx ((c_ret ?_))))))
  have b0:mAdd a b=(0,10):=ET (BE a2) (ET (cond_f a0) (rfl))
  refine x_thenR (x_ret ⟨_,_,rfl,rfl,⟨_,_,rfl,rfl,rfl⟩⟩ ?_)
  exact ⟨_,_,rfl,a1.fr,a1.grow,by rw [b0]; exact rfl⟩
 ·replace a0:=not_f a0
  refine c_skip (x_next (csr ((GM Y (GM Y (g_y (y_addW Z Z) Z Z ?_))))))
  have a5:=mcheck_c (x:=(wI (a + b))) a1.lt
  obtain ⟨a6,a7⟩:∃ r,mcheck ((wI (a + b)))=r:=⟨_,rfl⟩
  rw [a7] at a5
  refine g_e (ev_pure a1 pf_196 Z a5) Z Z ?_
  rintro _ c0 ⟨c1,a8,c2,rfl⟩
  refine g_y (y_extract Z Z) Z Z (g_y (y_extract Z Z) Z Z (GA Y (GA Y (gnx ((c_ret ?_))))))
  have b1:mAdd a b=(a6.1,a6.2):=ET (BE a2) (ET (cond_t a0) (ET (BE a7) (rfl)))
  refine x_ret ⟨_,_,rfl,rfl,⟨_,_,rfl,rfl,rfl⟩⟩ (⟨_,_,rfl,a8.fr,a8.grow,by rw [b1]; exact rfl⟩)
def mSub (a:Int) (b:Int):Int × Int:=
 (bnd (mRight ([a,b])) fun a1=>
 (cond a1 ((bnd (mcheck ((wI (a - b)))) fun a0=>
 (a0.1,a0.2)))
 ((0,10))))
theorem mSub_c {a:Int} {b:Int} {d:Dat} {w:World} (hd:∀ b,d b→b < w.heap.size):Ret Tryz.prog 127 [.int .i64 a,.int .i64 b] w [] d (fun u d' w'=>u=.tuple #[.int .i64 ((mSub a b).1),.int .i64 ((mSub a b).2)]):=by
 refine ret_enter (n:=17) Tryz.func127 Z Z (ble Z) ?_
 have hI0:=Inv.start hd
 refine csr ((GA Y (GA Y (gnx ((c_seq (csr ((GM Y (GM Y (g_e (ev_buildSl (T:=intTy) (xs:=[a,b]) hI0 el_174 ze_2 Z Z (ble Z) (ble Z) (.cons Z Z Z Z (.here _ _ (.nil _)) (ble Z) (.cons Z Z Z Z (.next _ (.here _ _ (.nil _))) (ble Z) (.nil _))) (.cons (x:=a) (cs:=[.int .i64 a]) Z (.cons (x:=b) (cs:=[.int .i64 b]) Z .nil))) Z Z ?_)))))))))))
 rintro _ b2 ⟨b3,a3,b4,a9,b5,rfl⟩
 have a4:=mRight_c (list:=[a,b]) a3.lt a9
 obtain ⟨b6,a2⟩:∃ r,mRight ([a,b])=r:=⟨_,rfl⟩
 rw [a2] at a4
 refine g_e (ev_pure a3 pf_117 Z a4) Z Z ?_
 rintro _ b7 ⟨b8,a1,b9,rfl⟩
 refine g_y (y_not Z) Z Z (gnx ((c_cond Z (fun a0=>?_) (fun a0=>?_))))
 ·replace a0:=not_t a0
  refine csr ((GA Y (GA Y (gnx ((c_ret ?_))))))
  have b0:mSub a b=(0,10):=ET (BE a2) (ET (cond_f a0) (rfl))
  refine x_thenR (x_ret ⟨_,_,rfl,rfl,⟨_,_,rfl,rfl,rfl⟩⟩ ?_)
  exact ⟨_,_,rfl,a1.fr,a1.grow,by rw [b0]; exact rfl⟩
 ·replace a0:=not_f a0
  refine c_skip (x_next (csr ((GM Y (GM Y (g_y (y_subW Z Z) Z Z ?_))))))
  have a5:=mcheck_c (x:=(wI (a - b))) a1.lt
  obtain ⟨a6,a7⟩:∃ r,mcheck ((wI (a - b)))=r:=⟨_,rfl⟩
  rw [a7] at a5
  refine g_e (ev_pure a1 pf_196 Z a5) Z Z ?_
  rintro _ c0 ⟨c1,a8,c2,rfl⟩
  refine g_y (y_extract Z Z) Z Z (g_y (y_extract Z Z) Z Z (GA Y (GA Y (gnx ((c_ret ?_))))))
  have b1:mSub a b=(a6.1,a6.2):=ET (BE a2) (ET (cond_t a0) (ET (BE a7) (rfl)))
  refine x_ret ⟨_,_,rfl,rfl,⟨_,_,rfl,rfl,rfl⟩⟩ (⟨_,_,rfl,a8.fr,a8.grow,by rw [b1]; exact rfl⟩)
def tsign (n:Int):Bool:=
 (if ((-1)≤n) then (decide (n≤1))
 else false)
theorem tsign_c {n:Int} {d:Dat} {w:World} (hd:∀ b,d b→b < w.heap.size):Ret Tryz.prog 288 [.int .i64 n] w [] d (fun u d' w'=>u=.bool ((tsign n))):=by
 refine ret_enter (n:=9) Tryz.func288 Z Z (ble Z) ?_
 have hI0:=Inv.start hd
 refine csr ((GA Y (gnx ((csr ((GM Y (g_y (y_geq Z Z) Z Z (GM Y (g_split (t:=5) Z (fun hg1=>?_) (fun hg1=>?_)))))))))))
 ·replace hg1:=OT hg1
  refine GM Y (g_y (y_leq Z Z) Z Z (g_y (y_pickT Z Z) Z Z (GA Y (gnx ((c_ret ?_))))))
  have hF2:tsign n=(decide (n≤1)):=ET (IP hg1) (rfl)
  refine x_ret ⟨_,_,rfl,rfl,rfl⟩ (⟨_,_,rfl,hI0.fr,hI0.grow,by rw [hF2]; exact rfl⟩)
 ·replace hg1:=OF hg1
  refine gsk Z Z (gsk Z Z (g_y (y_pickF Z Z) Z Z (GA Y (gnx ((c_ret ?_))))))
  have hF3:tsign n=false:=ET (IN hg1) (rfl)
  refine x_ret ⟨_,_,rfl,rfl,rfl⟩ (⟨_,_,rfl,hI0.fr,hI0.grow,by rw [hF3]; exact rfl⟩)
def tKind_l1 (name:ByteArray):List Kind→Nat→Out (Unit) (Kind × Int)
 | [],a0=>(Out.next (()))
 | a1 :: tl1,a0=>(if (a1.name=name) then (Out.ret ((a1,0)))
 else (tKind_l1 name tl1 (a0 + 1) ))
def tKind (t:Table) (name:ByteArray):Kind × Int:=
 (out (tKind_l1 name t.kinds 0 ) fun _=>
 ((⟨(⟨#[]⟩:ByteArray),0,0,0⟩:Kind),110))
theorem tKind_c {t:Table} {cs_t:List Value} {name:ByteArray} {d:Dat} {w:World} (hd:∀ b,d b→b < w.heap.size) (h_t:tableTy.rel d w t cs_t):Ret Tryz.prog 204 [.agg cs_t.toArray,.string name] w [] d (fun u d' w'=>u=.tuple #[.agg #[.string ((tKind t name).1.name),.int .i64 ((tKind t name).1.cash),.int .i64 ((tKind t name).1.taxable),.int .i64 ((tKind t name).1.social)],.int .i64 ((tKind t name).2)]):=by
 obtain ⟨v1,v2,v3,rfl,hS4,hS5,hS6⟩:=h_t
 obtain ⟨A7,c8,rfl,hn9,d9⟩:=hS4.fm
 obtain ⟨b7,b8,rfl,e0,e1⟩:=hS5.fm
 obtain ⟨a8,a9,rfl,e2,e3⟩:=hS6.fm
 refine ret_enter (n:=22) Tryz.func204 Z Z (ble Z) ?_
 have hI0:=Inv.start hd
 refine csr ((g_e (ev_box hI0 Z) Z Z ?_))
 rintro _ e4 ⟨b9,rfl,c3,c4⟩
 refine g_e (ev_alloc c3 ze_36) Z Z ?_
 rintro _ c0 ⟨a5,rfl,c1,c5⟩
 refine GA Y (gnx ((c_seq (csr ((gfa fo_26_2 Z Z Z (gld sh_24 Z c1 m1 (i:=2) Z Z Z (gln el_24 Z Z Z (GM Y (gnx ((c_cut1 (ι:=Dat) (fun a6=>[(4,.pointer (some ⟨a5,0,none⟩))]) (fun a6 b0=>Inv [] d w a6 [blk a5 36 [.string ⟨#[]⟩,.int .i64 0,.int .i64 0,.int .i64 0],blk b9 26 [.slice A7 (t.schemes).length c8,.slice b7 (t.contribs).length b8,.slice a8 (t.kinds).length a9,.int .i64 t.limit,.int .i64 t.round]] b0∧Le d c0 a6 b0∧tKind_l1 name t.kinds 0 =Out.next (())) ?_ ?_))))))))))))
 ·refine c_block (c_loop (ι:=Nat × Dat) (fun ⟨a0,a2⟩=>[(1,.string name),(4,.pointer (some ⟨a5,0,none⟩)),(9,.slice a8 (t.kinds).length a9),(10,.int .i64 (t.kinds.length:Int)),(11,.int .i64 (a0:Int))]) (fun ⟨a0,a2⟩ b1=>Inv [] d w a2 [blk a5 36 [.string ⟨#[]⟩,.int .i64 0,.int .i64 0,.int .i64 0],blk b9 26 [.slice A7 (t.schemes).length c8,.slice b7 (t.contribs).length b8,.slice a8 (t.kinds).length a9,.int .i64 t.limit,.int .i64 t.round]] b1∧Le d c0 a2 b1∧tKind_l1 name t.kinds 0 =tKind_l1 name (t.kinds.drop a0) a0 ∧a0≤t.kinds.length) (fun ⟨a0,a2⟩=>t.kinds.length - a0) (0,d) (.cons Z (.cons Z (.cons Z (.cons Z (.cons Z (.nil _)))))) ⟨c1,Le.refl _ _,rfl,Nat.zero_le _⟩ ?_)
  rintro ⟨a0,a2⟩ b1 ⟨c2,b2,b3,e5⟩
  refine csr ((g_y (y_lss Z Z) Z Z (gnx ((c_seq (c_cond Z (fun a4=>?_) (fun a4=>?_)))))))
  ·replace a4:=OT a4
   obtain ⟨a1,b4⟩:=has (xs:=t.kinds) (k:=a0) (by omega)
   refine c_skip (x_next (c_seq (c_block (csr (?_)))))
   obtain ⟨e6,e7,e8,c6,c7,c9,e9⟩:=Sl.at_ (hS6.mono ((c4.t c5).t b2)) b4
   obtain rfl:=c7
   refine g_y (y_indexAddr (i:=a0) el_24 Z c6 Z (rfl) (by omega)) Z Z (g_y (y_loadA (cs:=[.string a1.name,.int .i64 a1.cash,.int .i64 a1.taxable,.int .i64 a1.social]) sh_36 Z (c9.part (f:=0) (.take _ (.take _ (.take _ (.take _ (.nil _))))))) Z Z (g_e (ev_alloc c2 ze_36) Z Z ?_))
   rintro _ f0 ⟨f1,rfl,d0,d1⟩
   refine g_e (ev_store d0 Z Z Z sz_36 Z (.here _ _ (.here _ _ (.here _ _ (.here _ _ (.nil _))))) (.hd _)) Z Z ?_
   rintro _ f2 ⟨a7,d2⟩
   refine gnx ((csr ((gfa fo_36_0 Z Z Z (gld sh_9 Z a7 m0 (i:=0) Z Z Z (GM Y (g_y (y_strEq Z Z) Z Z (gnx ((c_cond Z (fun a3=>?_) (fun a3=>?_)))))))))))
   ·replace a3:=OT a3
    refine csr ((g_y (y_loadA (cs:=[.string a1.name,.int .i64 a1.cash,.int .i64 a1.taxable,.int .i64 a1.social]) sh_36 Z ((blk_cells a7 m0).part (f:=0) (.take _ (.take _ (.take _ (.take _ (.nil _))))))) Z Z (g_e (ev_store a7 Z Z Z sz_36 Z (.here _ _ (.here _ _ (.here _ _ (.here _ _ (.nil _))))) (.tl _ (.hd _))) Z Z ?_)))
    rintro _ f3 ⟨b5,f4⟩
    refine GA Y (gnx ((c_ret ?_)))
    have d3:tKind_l1 name t.kinds 0 =(Out.ret ((a1,0))):=b3.trans (ET (congrArg (fun l=>tKind_l1 name l a0 ) (drop_cons b4)) (ET (IP a3) (rfl)))
    have d4:tKind t name=(a1,0):=ET (out_ret d3) (rfl)
    refine x_blockR (x_thenR (x_rndR (x_blockR (x_cutR (x_thenR (x_ret ⟨_,_,_,rfl,rfl,blk_cells b5 m1,sh_36,⟨_,_,rfl,rfl,rfl⟩⟩ ?_))))))
    exact ⟨_,_,rfl,b5.fr,b5.grow,by rw [d4]; exact rfl⟩
   ·replace a3:=OF a3
    refine c_skip (x_blockN (x_next ?_))
    refine c_region (g_y (y_add Z Z (by omega)) Z Z (GM Y (g_nil ?_)))
    have d5:=a7.drop (.hd _)
    refine x_round (a0 + 1,a2) (by dsimp only; omega) (.cons Z (.cons Z (.cons Z (.cons Z (.cons Z (.nil _)))))) ⟨d5,((b2.t d1).t d2),b3.trans (ET (congrArg (fun l=>tKind_l1 name l a0 ) (drop_cons b4)) (ET (IN a3) (rfl))),by omega⟩
  ·replace a4:=OF a4
   refine c_exit (x_thenE (x_rndE (x_blockE (x_cut (a2) (.cons Z (.nil _)) ⟨c2,b2,b3.trans (ET (congrArg (fun l=>tKind_l1 name l a0 ) (drop_nil (by omega))) (rfl))⟩))))
 ·rintro a6 b0 ⟨d6,f5,d7⟩
  refine x_next (csr ((g_y (y_build ze_36 pl_36 (.nil _)) Z Z (g_e (ev_store d6 Z Z Z sz_36 Z (.here _ _ (.here _ _ (.here _ _ (.here _ _ (.nil _))))) (.hd _)) Z Z ?_))))
  rintro _ f6 ⟨b6,f7⟩
  refine GA Y (gnx ((c_ret ?_)))
  have d8:tKind t name=((⟨(⟨#[]⟩:ByteArray),0,0,0⟩:Kind),110):=ET (out_next d7) (rfl)
  refine x_ret ⟨_,_,_,rfl,rfl,blk_cells b6 m0,sh_36,⟨_,_,rfl,rfl,rfl⟩⟩ (⟨_,_,rfl,b6.fr,b6.grow,by rw [d8]; exact rfl⟩)
def cCheck_m1 (c:Code):Bool:=
 (if (c.kind=1) then true
 else (decide (c.kind=2)))
def cCheck_m3 (c:Code) (a0:Bool):Bool:=
 (cond a0 ((if (c.amount < 0) then (decide (c.amount < 0))
 else (if (999999000 < c.amount) then (decide (999999000 < c.amount))
 else (decide ((c.amount.tmod 1000)≠0)))))
 ((if (c.amount≠0) then (decide (c.amount≠0))
 else (if (c.amount < 0) then (decide (c.amount < 0))
 else (if (999999000 < c.amount) then (decide (999999000 < c.amount))
 else (decide ((c.amount.tmod 1000)≠0)))))))
def cCheck_m4 (c:Code):Bool:=
 (if (c.kind≠3) then (if (c.flat≠0) then (decide (c.flat≠0))
 else (if (c.flat < 0) then (decide (c.flat < 0))
 else (decide (7 < c.flat))))
 else (if (c.flat < 0) then (decide (c.flat < 0))
 else (decide (7 < c.flat))))
def cCheck_m5 (c:Code):Bool:=
 (if (c.kind≠3) then (if (c.flat≠0) then (decide (c.flat≠0))
 else (if (c.flat < 0) then (decide (c.flat < 0))
 else (decide (7 < c.flat))))
 else (if (c.flat < 0) then (decide (c.flat < 0))
 else (decide (7 < c.flat))))
def cCheck_m2 (c:Code) (a0:Bool):Out (Unit) (Int):=
 (if (c.kind < 1) then (Out.ret 80)
 else (if (4 < c.kind) then (Out.ret 80)
 else (bnd (cCheck_m3 c a0) fun a1=>
 (cond a1 ((Out.ret 80))
 ((if (c.kind=2) then (if (c.amount=0) then (Out.ret 80)
 else (bnd (cCheck_m4 c) fun a2=>
 (cond a2 ((Out.ret 80))
 ((Out.next (()))))))
 else (bnd (cCheck_m5 c) fun a3=>
 (cond a3 ((Out.ret 80))
 ((Out.next (())))))))))))
def cCheck (c:Code):Int:=
 (if (c.scheme < 0) then 81
 else (if (7 < c.scheme) then 81
 else (bnd (cCheck_m1 c) fun a0=>
 (out (cCheck_m2 c a0) fun _=>
 0))))
theorem cCheck_c {c:Code} {d:Dat} {w:World} (hd:∀ b,d b→b < w.heap.size):Ret Tryz.prog 143 [.agg #[.int .i64 c.scheme,.int .i64 c.kind,.int .i64 c.amount,.int .i64 c.flat,.bool c.alone]] w [] d (fun u d' w'=>u=.int .i64 ((cCheck c))):=by
 refine ret_enter (n:=71) Tryz.func143 Z Z (ble Z) ?_
 have hI0:=Inv.start hd
 refine csr ((g_e (ev_box hI0 Z) Z Z ?_))
 rintro _ w1 ⟨b4,rfl,hI2,hle3⟩
 refine GA Y (gnx ((c_seq (csr ((gfa fo_28_0 Z Z Z (gld sh_3 Z hI2 m0 (i:=0) Z Z Z (g_y (y_lss Z Z) Z Z (GM Y (g_split (t:=7) Z (fun hg7=>?_) (fun hg7=>?_)))))))))))
 ·replace hg7:=OT hg7
  refine gsk Z Z (gsk Z Z (gsk Z Z (g_y (y_pickT Z Z) Z Z (gnx ((c_condT Z (csr ((GA Y (gnx ((c_ret ?_))))))))))))
  have hF8:cCheck c=81:=ET (IP hg7) (rfl)
  refine x_thenR (x_ret ⟨_,_,rfl,rfl,rfl⟩ ?_)
  exact ⟨_,_,rfl,hI2.fr,hI2.grow,by rw [hF8]; exact rfl⟩
 ·replace hg7:=OF hg7
  refine gfa fo_28_0 Z Z Z (gld sh_3 Z hI2 m0 (i:=0) Z Z Z (g_y (y_gtr Z Z) Z Z (g_y (y_pickF Z Z) Z Z (gnx ((c_cond Z (fun hc9=>?_) (fun hc9=>?_)))))))
  ·replace hc9:=OT hc9
   refine csr ((GA Y (gnx ((c_ret ?_)))))
   have e7:cCheck c=81:=ET (IN hg7) (ET (IP hc9) (rfl))
   refine x_thenR (x_ret ⟨_,_,rfl,rfl,rfl⟩ ?_)
   exact ⟨_,_,rfl,hI2.fr,hI2.grow,by rw [e7]; exact rfl⟩
  ·replace hc9:=OF hc9
   refine c_skip (x_next (c_cut (ι:=Bool × Dat) (fun ⟨a5,a3⟩=>[(1,.pointer (some ⟨b4,0,none⟩)),(3,.bool a5)]) (fun ⟨a5,a3⟩ c8=>Inv [] d w a3 [blk b4 28 [.int .i64 c.scheme,.int .i64 c.kind,.int .i64 c.amount,.int .i64 c.flat,.bool c.alone]] c8∧Le d w1 a3 c8∧cCheck_m1 c=a5) ?_ ?_))
   ·refine c_region (gfa fo_28_1 Z Z Z (gld sh_3 Z hI2 m0 (i:=1) Z Z Z (g_y (y_eql Z Z) Z Z (GM Y (g_split (t:=15) Z (fun b8=>?_) (fun b8=>?_))))))
    ·replace b8:=OT b8
     refine gsk Z Z (gsk Z Z (gsk Z Z (g_y (y_pickT Z Z) Z Z (GA Y (g_nil (x_cut (true,d) (.cons Z (.cons Z (.nil _))) ⟨hI2,(Le.refl _ _),ET (IP b8) (rfl)⟩))))))
    ·replace b8:=OF b8
     refine gfa fo_28_1 Z Z Z (gld sh_3 Z hI2 m0 (i:=1) Z Z Z (g_y (y_eql Z Z) Z Z (g_y (y_pickF Z Z) Z Z (GA Y (g_nil (x_cut ((decide (c.kind=2)),d) (.cons Z (.cons Z (.nil _))) ⟨hI2,(Le.refl _ _),ET (IN b8) (rfl)⟩))))))
   ·rintro ⟨a5,a3⟩ c8 ⟨a1,g4,b9⟩
    refine c_cut (ι:=Dat) (fun d2=>[]) (fun d2 d6=>Inv [] d w d2 [blk b4 28 [.int .i64 c.scheme,.int .i64 c.kind,.int .i64 c.amount,.int .i64 c.flat,.bool c.alone]] d6∧Le a3 c8 d2 d6∧cCheck_m2 c a5=Out.next (())) ?_ ?_
    ·refine c_block (csr ((gfa fo_28_1 Z Z Z (gld sh_3 Z a1 m0 (i:=1) Z Z Z (g_y (y_lss Z Z) Z Z (GM Y (g_split (t:=24) Z (fun a4=>?_) (fun a4=>?_))))))))
     ·replace a4:=OT a4
      refine gsk Z Z (gsk Z Z (gsk Z Z (g_y (y_pickT Z Z) Z Z (GA Y (gnx ((c_condT Z (csr ((GA Y (gnx ((c_ret ?_)))))))))))))
      have e8:cCheck_m2 c a5=(Out.ret 80):=ET (IP a4) (rfl)
      have e9:cCheck c=80:=ET (IN hg7) (ET (IN hc9) (ET (BE b9) (ET (out_ret e8) (rfl))))
      refine x_blockR (x_cutR (x_ret ⟨_,_,rfl,rfl,rfl⟩ ?_))
      exact ⟨_,_,rfl,a1.fr,a1.grow,by rw [e9]; exact rfl⟩
     ·replace a4:=OF a4
      refine gfa fo_28_1 Z Z Z (gld sh_3 Z a1 m0 (i:=1) Z Z Z (g_y (y_gtr Z Z) Z Z (g_y (y_pickF Z Z) Z Z (GA Y (gnx ((c_cond Z (fun a6=>?_) (fun a6=>?_))))))))
      ·replace a6:=OT a6
       refine csr ((GA Y (gnx ((c_ret ?_)))))
       have f0:cCheck_m2 c a5=(Out.ret 80):=ET (IN a4) (ET (IP a6) (rfl))
       have f1:cCheck c=80:=ET (IN hg7) (ET (IN hc9) (ET (BE b9) (ET (out_ret f0) (rfl))))
       refine x_blockR (x_cutR (x_ret ⟨_,_,rfl,rfl,rfl⟩ ?_))
       exact ⟨_,_,rfl,a1.fr,a1.grow,by rw [f1]; exact rfl⟩
      ·replace a6:=OF a6
       refine c_cut (ι:=Bool × Dat) (fun ⟨d3,a2⟩=>[(1,.pointer (some ⟨b4,0,none⟩)),(29,.bool d3)]) (fun ⟨d3,a2⟩ c9=>Inv [] d w a2 [blk b4 28 [.int .i64 c.scheme,.int .i64 c.kind,.int .i64 c.amount,.int .i64 c.flat,.bool c.alone]] c9∧Le a3 c8 a2 c9∧cCheck_m3 c a5=d3) ?_ ?_
       ·refine csr ((GM Y (g_y (y_not Z) Z Z (GM Y (g_split (t:=32) Z (fun a7=>?_) (fun a7=>?_))))))
        ·replace a7:=not_t a7
         refine gfa fo_28_2 Z Z Z (gld sh_2 Z a1 m0 (i:=2) Z Z Z (g_y (y_neq Z Z) Z Z (g_y (y_pickT Z Z) Z Z (GA Y (gnx ((c_cond Z (fun b1=>?_) (fun b1=>?_))))))))
         ·replace b1:=OT b1
          refine c_skip (x_cut ((decide (c.amount≠0)),a3) (.cons Z (.cons Z (.nil _))) ⟨a1,(Le.refl _ _),ET (cond_f a7) (ET (IP b1) (rfl))⟩)
         ·replace b1:=OF b1
          refine csr ((gfa fo_28_2 Z Z Z (gld sh_2 Z a1 m0 (i:=2) Z Z Z (g_y (y_lss Z Z) Z Z (GA Y (gnx ((c_cond Z (fun b2=>?_) (fun b2=>?_)))))))))
          ·replace b2:=OT b2
           refine c_skip (x_cut ((decide (c.amount < 0)),a3) (.cons Z (.cons Z (.nil _))) ⟨a1,(Le.refl _ _),ET (cond_f a7) (ET (IN b1) (ET (IP b2) (rfl)))⟩)
          ·replace b2:=OF b2
           refine csr ((gfa fo_28_2 Z Z Z (gld sh_2 Z a1 m0 (i:=2) Z Z Z (g_y (y_gtr Z Z) Z Z (GA Y (gnx ((c_cond Z (fun c0=>?_) (fun c0=>?_)))))))))
           ·replace c0:=OT c0
            refine c_skip (x_cut ((decide (999999000 < c.amount)),a3) (.cons Z (.cons Z (.nil _))) ⟨a1,(Le.refl _ _),ET (cond_f a7) (ET (IN b1) (ET (IN b2) (ET (IP c0) (rfl))))⟩)
           ·replace c0:=OF c0
            refine c_region (gfa fo_28_2 Z Z Z (gld sh_2 Z a1 m0 (i:=2) Z Z Z (g_y (y_rem Z Z (by decide)) Z Z (g_y (y_neq Z Z) Z Z (GA Y (g_nil (x_cut ((decide ((c.amount.tmod 1000)≠0)),a3) (.cons Z (.cons Z (.nil _))) ⟨a1,(Le.refl _ _),ET (cond_f a7) (ET (IN b1) (ET (IN b2) (ET (IN c0) (rfl))))⟩)))))))
        ·replace a7:=not_f a7
         refine gsk Z Z (gsk Z Z (gsk Z Z (g_y (y_pickF Z Z) Z Z (GA Y (gnx ((c_condF Z (csr ((gfa fo_28_2 Z Z Z (gld sh_2 Z a1 m0 (i:=2) Z Z Z (g_y (y_lss Z Z) Z Z (GA Y ?_)))))))))))))
         refine gnx ((c_cond Z (fun b3=>?_) (fun b3=>?_)))
         ·replace b3:=OT b3
          refine c_skip (x_cut ((decide (c.amount < 0)),a3) (.cons Z (.cons Z (.nil _))) ⟨a1,(Le.refl _ _),ET (cond_t a7) (ET (IP b3) (rfl))⟩)
         ·replace b3:=OF b3
          refine csr ((gfa fo_28_2 Z Z Z (gld sh_2 Z a1 m0 (i:=2) Z Z Z (g_y (y_gtr Z Z) Z Z (GA Y (gnx ((c_cond Z (fun c1=>?_) (fun c1=>?_)))))))))
          ·replace c1:=OT c1
           refine c_skip (x_cut ((decide (999999000 < c.amount)),a3) (.cons Z (.cons Z (.nil _))) ⟨a1,(Le.refl _ _),ET (cond_t a7) (ET (IN b3) (ET (IP c1) (rfl)))⟩)
          ·replace c1:=OF c1
           refine c_region (gfa fo_28_2 Z Z Z (gld sh_2 Z a1 m0 (i:=2) Z Z Z (g_y (y_rem Z Z (by decide)) Z Z (g_y (y_neq Z Z) Z Z (GA Y (g_nil (x_cut ((decide ((c.amount.tmod 1000)≠0)),a3) (.cons Z (.cons Z (.nil _))) ⟨a1,(Le.refl _ _),ET (cond_t a7) (ET (IN b3) (ET (IN c1) (rfl)))⟩)))))))
       ·rintro ⟨d3,a2⟩ c9 ⟨a0,e3,c7⟩
        refine c_cond Z (fun c2=>?_) (fun c2=>?_)
        ·skip
         refine csr ((GA Y (gnx ((c_ret ?_)))))
         have f2:cCheck_m2 c a5=(Out.ret 80):=ET (IN a4) (ET (IN a6) (ET (BE c7) (ET (cond_t c2) (rfl))))
         have f3:cCheck c=80:=ET (IN hg7) (ET (IN hc9) (ET (BE b9) (ET (out_ret f2) (rfl))))
         refine x_blockR (x_cutR (x_ret ⟨_,_,rfl,rfl,rfl⟩ ?_))
         exact ⟨_,_,rfl,a0.fr,a0.grow,by rw [f3]; exact rfl⟩
        ·skip
         refine csr ((gfa fo_28_1 Z Z Z (gld sh_3 Z a0 m0 (i:=1) Z Z Z (g_y (y_eql Z Z) Z Z (GM Y (g_split (t:=51) Z (fun a8=>?_) (fun a8=>?_)))))))
         ·replace a8:=OT a8
          refine gfa fo_28_2 Z Z Z (gld sh_2 Z a0 m0 (i:=2) Z Z Z (g_y (y_eql Z Z) Z Z (g_y (y_pickT Z Z) Z Z (GA Y (gnx ((c_cond Z (fun b5=>?_) (fun b5=>?_))))))))
          ·replace b5:=OT b5
           refine csr ((GA Y (gnx ((c_ret ?_)))))
           have f4:cCheck_m2 c a5=(Out.ret 80):=ET (IN a4) (ET (IN a6) (ET (BE c7) (ET (cond_f c2) (ET (IP a8) (ET (IP b5) (rfl))))))
           have f5:cCheck c=80:=ET (IN hg7) (ET (IN hc9) (ET (BE b9) (ET (out_ret f4) (rfl))))
           refine x_blockR (x_cutR (x_ret ⟨_,_,rfl,rfl,rfl⟩ ?_))
           exact ⟨_,_,rfl,a0.fr,a0.grow,by rw [f5]; exact rfl⟩
          ·replace b5:=OF b5
           refine c_cut (ι:=Bool × Dat) (fun ⟨d4,d0⟩=>[(56,.bool d4)]) (fun ⟨d4,d0⟩ d7=>Inv [] d w d0 [blk b4 28 [.int .i64 c.scheme,.int .i64 c.kind,.int .i64 c.amount,.int .i64 c.flat,.bool c.alone]] d7∧Le a2 c9 d0 d7∧cCheck_m4 c=d4) ?_ ?_
           ·refine csr ((gfa fo_28_1 Z Z Z (gld sh_3 Z a0 m0 (i:=1) Z Z Z (g_y (y_neq Z Z) Z Z (GM Y (g_split (t:=60) Z (fun a9=>?_) (fun a9=>?_)))))))
            ·replace a9:=OT a9
             refine gfa fo_28_3 Z Z Z (gld sh_3 Z a0 m0 (i:=3) Z Z Z (g_y (y_neq Z Z) Z Z (g_y (y_pickT Z Z) Z Z (GA Y (gnx ((c_cond Z (fun b6=>?_) (fun b6=>?_))))))))
             ·replace b6:=OT b6
              refine c_skip (x_cut ((decide (c.flat≠0)),a2) (.cons Z (.nil _)) ⟨a0,(Le.refl _ _),ET (IP a9) (ET (IP b6) (rfl))⟩)
             ·replace b6:=OF b6
              refine csr ((gfa fo_28_3 Z Z Z (gld sh_3 Z a0 m0 (i:=3) Z Z Z (g_y (y_lss Z Z) Z Z (GA Y (gnx ((c_cond Z (fun c3=>?_) (fun c3=>?_)))))))))
              ·replace c3:=OT c3
               refine c_skip (x_cut ((decide (c.flat < 0)),a2) (.cons Z (.nil _)) ⟨a0,(Le.refl _ _),ET (IP a9) (ET (IN b6) (ET (IP c3) (rfl)))⟩)
              ·replace c3:=OF c3
               refine c_region (gfa fo_28_3 Z Z Z (gld sh_3 Z a0 m0 (i:=3) Z Z Z (g_y (y_gtr Z Z) Z Z (GA Y (g_nil (x_cut ((decide (7 < c.flat)),a2) (.cons Z (.nil _)) ⟨a0,(Le.refl _ _),ET (IP a9) (ET (IN b6) (ET (IN c3) (rfl)))⟩))))))
            ·replace a9:=OF a9
             refine gsk Z Z (gsk Z Z (gsk Z Z (g_y (y_pickF Z Z) Z Z (GA Y (gnx ((c_condF Z (csr ((gfa fo_28_3 Z Z Z (gld sh_3 Z a0 m0 (i:=3) Z Z Z (g_y (y_lss Z Z) Z Z (GA Y ?_)))))))))))))
             refine gnx ((c_cond Z (fun c4=>?_) (fun c4=>?_)))
             ·replace c4:=OT c4
              refine c_skip (x_cut ((decide (c.flat < 0)),a2) (.cons Z (.nil _)) ⟨a0,(Le.refl _ _),ET (IN a9) (ET (IP c4) (rfl))⟩)
             ·replace c4:=OF c4
              refine c_region (gfa fo_28_3 Z Z Z (gld sh_3 Z a0 m0 (i:=3) Z Z Z (g_y (y_gtr Z Z) Z Z (GA Y (g_nil (x_cut ((decide (7 < c.flat)),a2) (.cons Z (.nil _)) ⟨a0,(Le.refl _ _),ET (IN a9) (ET (IN c4) (rfl))⟩))))))
           ·rintro ⟨d4,d0⟩ d7 ⟨d8,f6,e4⟩
            refine c_cond Z (fun d9=>?_) (fun d9=>?_)
            ·skip
             refine csr ((GA Y (gnx ((c_ret ?_)))))
             have f7:cCheck_m2 c a5=(Out.ret 80):=ET (IN a4) (ET (IN a6) (ET (BE c7) (ET (cond_f c2) (ET (IP a8) (ET (IN b5) (ET (BE e4) (ET (cond_t d9) (rfl))))))))
             have f8:cCheck c=80:=ET (IN hg7) (ET (IN hc9) (ET (BE b9) (ET (out_ret f7) (rfl))))
             refine x_blockR (x_cutR (x_ret ⟨_,_,rfl,rfl,rfl⟩ ?_))
             exact ⟨_,_,rfl,d8.fr,d8.grow,by rw [f8]; exact rfl⟩
            ·skip
             refine c_skip (x_blockN (x_cut (d0) (.nil _) ⟨d8,(e3.t f6),ET (IN a4) (ET (IN a6) (ET (BE c7) (ET (cond_f c2) (ET (IP a8) (ET (IN b5) (ET (BE e4) (ET (cond_f d9) (rfl))))))))⟩))
         ·replace a8:=OF a8
          refine gsk Z Z (gsk Z Z (gsk Z Z (g_y (y_pickF Z Z) Z Z (GA Y (gnx ((c_condF Z (c_cut (ι:=Bool × Dat) (fun ⟨d5,d1⟩=>[(56,.bool d5)]) (fun ⟨d5,d1⟩ e0=>Inv [] d w d1 [blk b4 28 [.int .i64 c.scheme,.int .i64 c.kind,.int .i64 c.amount,.int .i64 c.flat,.bool c.alone]] e0∧Le a2 c9 d1 e0∧cCheck_m5 c=d5) ?_ ?_))))))))
          ·refine csr ((gfa fo_28_1 Z Z Z (gld sh_3 Z a0 m0 (i:=1) Z Z Z (g_y (y_neq Z Z) Z Z (GM Y (g_split (t:=60) Z (fun b0=>?_) (fun b0=>?_)))))))
           ·replace b0:=OT b0
            refine gfa fo_28_3 Z Z Z (gld sh_3 Z a0 m0 (i:=3) Z Z Z (g_y (y_neq Z Z) Z Z (g_y (y_pickT Z Z) Z Z (GA Y (gnx ((c_cond Z (fun b7=>?_) (fun b7=>?_))))))))
            ·replace b7:=OT b7
             refine c_skip (x_cut ((decide (c.flat≠0)),a2) (.cons Z (.nil _)) ⟨a0,(Le.refl _ _),ET (IP b0) (ET (IP b7) (rfl))⟩)
            ·replace b7:=OF b7
             refine csr ((gfa fo_28_3 Z Z Z (gld sh_3 Z a0 m0 (i:=3) Z Z Z (g_y (y_lss Z Z) Z Z (GA Y (gnx ((c_cond Z (fun c5=>?_) (fun c5=>?_)))))))))
             ·replace c5:=OT c5
              refine c_skip (x_cut ((decide (c.flat < 0)),a2) (.cons Z (.nil _)) ⟨a0,(Le.refl _ _),ET (IP b0) (ET (IN b7) (ET (IP c5) (rfl)))⟩)
             ·replace c5:=OF c5
              refine c_region (gfa fo_28_3 Z Z Z (gld sh_3 Z a0 m0 (i:=3) Z Z Z (g_y (y_gtr Z Z) Z Z (GA Y (g_nil (x_cut ((decide (7 < c.flat)),a2) (.cons Z (.nil _)) ⟨a0,(Le.refl _ _),ET (IP b0) (ET (IN b7) (ET (IN c5) (rfl)))⟩))))))
           ·replace b0:=OF b0
            refine gsk Z Z (gsk Z Z (gsk Z Z (g_y (y_pickF Z Z) Z Z (GA Y (gnx ((c_condF Z (csr ((gfa fo_28_3 Z Z Z (gld sh_3 Z a0 m0 (i:=3) Z Z Z (g_y (y_lss Z Z) Z Z (GA Y ?_)))))))))))))
            refine gnx ((c_cond Z (fun c6=>?_) (fun c6=>?_)))
            ·replace c6:=OT c6
             refine c_skip (x_cut ((decide (c.flat < 0)),a2) (.cons Z (.nil _)) ⟨a0,(Le.refl _ _),ET (IN b0) (ET (IP c6) (rfl))⟩)
            ·replace c6:=OF c6
             refine c_region (gfa fo_28_3 Z Z Z (gld sh_3 Z a0 m0 (i:=3) Z Z Z (g_y (y_gtr Z Z) Z Z (GA Y (g_nil (x_cut ((decide (7 < c.flat)),a2) (.cons Z (.nil _)) ⟨a0,(Le.refl _ _),ET (IN b0) (ET (IN c6) (rfl))⟩))))))
          ·rintro ⟨d5,d1⟩ e0 ⟨e1,f9,e5⟩
           refine c_cond Z (fun e2=>?_) (fun e2=>?_)
           ·skip
            refine csr ((GA Y (gnx ((c_ret ?_)))))
            have g0:cCheck_m2 c a5=(Out.ret 80):=ET (IN a4) (ET (IN a6) (ET (BE c7) (ET (cond_f c2) (ET (IN a8) (ET (BE e5) (ET (cond_t e2) (rfl)))))))
            have g1:cCheck c=80:=ET (IN hg7) (ET (IN hc9) (ET (BE b9) (ET (out_ret g0) (rfl))))
            refine x_blockR (x_cutR (x_ret ⟨_,_,rfl,rfl,rfl⟩ ?_))
            exact ⟨_,_,rfl,e1.fr,e1.grow,by rw [g1]; exact rfl⟩
           ·skip
            refine c_skip (x_blockN (x_cut (d1) (.nil _) ⟨e1,(e3.t f9),ET (IN a4) (ET (IN a6) (ET (BE c7) (ET (cond_f c2) (ET (IN a8) (ET (BE e5) (ET (cond_f e2) (rfl)))))))⟩))
    ·rintro d2 d6 ⟨e6,g5,g2⟩
     refine csr ((GA Y (gnx ((c_ret ?_)))))
     have g3:cCheck c=0:=ET (IN hg7) (ET (IN hc9) (ET (BE b9) (ET (out_next g2) (rfl))))
     refine x_ret ⟨_,_,rfl,rfl,rfl⟩ (⟨_,_,rfl,e6.fr,e6.grow,by rw [g3]; exact rfl⟩)
def bCheck_m2 (list:(List Band)) (a0:Nat) (a1:Band):Bool:=
 (if (0 < (a0:Int)) then (opt (list)[(((a0:Int) - 1)).toNat]? fun a2=>
 (decide (a1.frm≤a2.frm)))
 else false)
def bCheck_m3 (list:(List Band)) (a0:Nat) (a1:Band):Bool:=
 (if (0 < (a0:Int)) then (opt (list)[(((a0:Int) - 1)).toNat]? fun a2=>
 (decide (a1.frm≤a2.frm)))
 else false)
def bCheck_m1 (list:(List Band)) (a1:Nat) (a0:Band):Out (Unit) (Int):=
 (if (a0.frm < 0) then (Out.ret 1)
 else (if (100000000000 < a0.frm) then (Out.ret 1)
 else (if ((a1:Int)=0) then (if (a0.frm≠0) then (Out.ret 1)
 else (bnd (bCheck_m2 list a1 a0) fun a2=>
 (cond a2 ((Out.ret 6))
 ((bnd (fRate a0.rate) fun a3=>
 (cond a3 ((bnd (fRate a0.emp) fun a4=>
 (cond a4 ((Out.next (())))
 ((Out.ret 50)))))
 ((Out.ret 50))))))))
 else (bnd (bCheck_m3 list a1 a0) fun a5=>
 (cond a5 ((Out.ret 6))
 ((bnd (fRate a0.rate) fun a6=>
 (cond a6 ((bnd (fRate a0.emp) fun a7=>
 (cond a7 ((Out.next (())))
 ((Out.ret 50)))))
 ((Out.ret 50))))))))))
def bCheck_l1 (list:(List Band)):Nat→Nat→Int
 | 0,_=>default
 | a1 + 1,a0=>(opt (list)[a0]? fun a2=>
 (out (bCheck_m1 list a0 a2) fun _=>
 (if (((a0:Int) + 1) < (list.length:Int)) then (bCheck_l1 list a1 (a0 + 1))
 else 0)))
def bCheck (list:(List Band)):Int:=
 (if ((list.length:Int)=0) then 2
 else (if (8 < (list.length:Int)) then 2
 else (bCheck_l1 list (list.length + 1) 0)))
theorem bCheck_c {list:(List Band)} {v_list:Value} {d:Dat} {w:World} (hd:∀ b,d b→b < w.heap.size) (h_list:Sl bandTy d w v_list list):Ret Tryz.prog 283 [v_list] w [] d (fun u d' w'=>u=.int .i64 ((bCheck list))):=by
 obtain ⟨A1,c2,rfl,hn3,hb4⟩:=h_list.fm
 refine ret_enter (n:=66) Tryz.func283 Z Z (ble Z) ?_
 have hI0:=Inv.start hd
 refine csr ((GA Y (gnx ((c_scopeP (ι:=Nat × Nat × Dat) (fun ⟨b0,a1,a4⟩=>[(0,.slice A1 (list).length c2),(3,.int .i64 (a1:Int))]) (fun ⟨b0,a1,a4⟩ d9=>Inv [] d w a4 [] d9∧Le d w a4 d9∧bCheck list=bCheck_l1 list b0 a1∧list.length < a1 + b0∧a1 < list.length) (fun ⟨b0,a1,a4⟩=>b0) 0 Z ?_ (fun hP=>?_))))))
 ·rintro ⟨b0,a1,a4⟩ d9 ⟨g1,d0,a7,l2,l3⟩
  obtain ⟨g2,rfl⟩:∃ z,b0=z + 1:=⟨b0 - 1,by omega⟩
  refine csr ((GM Y (GM Y ?_)))
  obtain ⟨a0,a6⟩:=has (xs:=list) (k:=a1) (by omega)
  obtain ⟨l4,l5,l6,g3,g4,g5,l7⟩:=Sl.at_ (h_list.mono d0) a6
  obtain rfl:=g4
  refine g_y (y_indexAddr (i:=a1) el_34 Z g3 Z (rfl) (by omega)) Z Z (g_y (y_loadA (cs:=[.int .i64 a0.frm,.int .i64 a0.rate,.int .i64 a0.emp]) sh_33 Z (g5.part (f:=0) (.take _ (.take _ (.take _ (.nil _)))))) Z Z (g_e (ev_alloc g1 ze_33) Z Z ?_))
  rintro _ l8 ⟨c0,rfl,g6,e0⟩
  refine g_e (ev_store g6 Z Z Z sz_33 Z (.here _ _ (.here _ _ (.here _ _ (.nil _)))) (.hd _)) Z Z ?_
  rintro _ c1 ⟨a8,e1⟩
  refine gnx ((c_cut (ι:=Dat) (fun c3=>[(0,.slice A1 (list).length c2),(3,.int .i64 (a1:Int))]) (fun c3 e2=>Inv [] d w c3 [blk c0 33 [.int .i64 a0.frm,.int .i64 a0.rate,.int .i64 a0.emp]] e2∧Le a4 c1 c3 e2∧bCheck_m1 list a1 a0=Out.next (())) ?_ ?_))
  ·refine c_block (csr ((gfa fo_33_0 Z Z Z (gld sh_2 Z a8 m0 (i:=0) Z Z Z (g_y (y_lss Z Z) Z Z (GM Y (g_split (t:=21) Z (fun a2=>?_) (fun a2=>?_))))))))
   ·replace a2:=OT a2
    refine gsk Z Z (gsk Z Z (gsk Z Z (g_y (y_pickT Z Z) Z Z (GM Y (gsk Z Z (gsk Z Z (gsk Z Z (gsk Z Z (gsk Z Z (gsk Z Z (gsk Z Z (g_y (y_pickT Z Z) Z Z (GA Y ?_)))))))))))))
    refine gnx ((c_condT Z (csr ((GA Y (gnx ((c_ret ?_))))))))
    have g7:bCheck_m1 list a1 a0=(Out.ret 1):=ET (IP a2) (rfl)
    have g8:bCheck list=1:=ET (a7) (ET (opt_some a6) (ET (out_ret g7) (rfl)))
    refine x_blockR (x_cutR (x_jmp1R (x_ret ⟨_,_,rfl,rfl,rfl⟩ ?_)))
    exact ⟨_,_,rfl,a8.fr,a8.grow,by rw [g8]; exact rfl⟩
   ·replace a2:=OF a2
    refine gfa fo_33_0 Z Z Z (gld sh_2 Z a8 m0 (i:=0) Z Z Z (g_y (y_gtr Z Z) Z Z (g_y (y_pickF Z Z) Z Z (GM Y (g_split (t:=26) Z (fun a3=>?_) (fun a3=>?_))))))
    ·replace a3:=OT a3
     refine gsk Z Z (gsk Z Z (gsk Z Z (gsk Z Z (gsk Z Z (gsk Z Z (gsk Z Z (g_y (y_pickT Z Z) Z Z (GA Y (gnx ((c_condT Z (csr (?_)))))))))))))
     refine GA Y (gnx ((c_ret ?_)))
     have g9:bCheck_m1 list a1 a0=(Out.ret 1):=ET (IN a2) (ET (IP a3) (rfl))
     have h0:bCheck list=1:=ET (a7) (ET (opt_some a6) (ET (out_ret g9) (rfl)))
     refine x_blockR (x_cutR (x_jmp1R (x_ret ⟨_,_,rfl,rfl,rfl⟩ ?_)))
     exact ⟨_,_,rfl,a8.fr,a8.grow,by rw [h0]; exact rfl⟩
    ·replace a3:=OF a3
     refine GM Y (g_y (y_eql Z Z) Z Z (GM Y (g_split (t:=29) Z (fun a5=>?_) (fun a5=>?_))))
     ·replace a5:=OT a5
      refine gfa fo_33_0 Z Z Z (gld sh_2 Z a8 m0 (i:=0) Z Z Z (g_y (y_neq Z Z) Z Z (g_y (y_pickT Z Z) Z Z (g_y (y_pickF Z Z) Z Z (GA Y (gnx ((c_cond Z (fun a9=>?_) (fun a9=>?_)))))))))
      ·replace a9:=OT a9
       refine csr ((GA Y (gnx ((c_ret ?_)))))
       have h1:bCheck_m1 list a1 a0=(Out.ret 1):=ET (IN a2) (ET (IN a3) (ET (IP a5) (ET (IP a9) (rfl))))
       have h2:bCheck list=1:=ET (a7) (ET (opt_some a6) (ET (out_ret h1) (rfl)))
       refine x_blockR (x_cutR (x_jmp1R (x_ret ⟨_,_,rfl,rfl,rfl⟩ ?_)))
       exact ⟨_,_,rfl,a8.fr,a8.grow,by rw [h2]; exact rfl⟩
      ·replace a9:=OF a9
       refine c_cut (ι:=Bool × Dat) (fun ⟨d1,d2⟩=>[(0,.slice A1 (list).length c2),(3,.int .i64 (a1:Int)),(4,.pointer (some ⟨c0,0,none⟩)),(35,.bool d1)]) (fun ⟨d1,d2⟩ e3=>Inv [] d w d2 [blk c0 33 [.int .i64 a0.frm,.int .i64 a0.rate,.int .i64 a0.emp]] e3∧Le a4 c1 d2 e3∧bCheck_m2 list a1 a0=d1) ?_ ?_
       ·have e4:=a8.drew; have e5:=Le.drew a4 c1
        refine c_drawK 14 follows_mixed e4 (k_y 0 (by kernel_rfl) Z Z Z (fun _ _=>(y_move Z)) (k_y 1 (by kernel_rfl) Z Z Z (fun _ _=>(y_gtr Z Z)) (k_y 2 (by kernel_rfl) Z Z Z (fun _ _=>(y_move Z)) (k_split (t:=38) Z (fun b4=>?_) (fun b4=>?_)))))
        ·replace b4:=OT b4
         refine k_y 3 (by kernel_rfl) Z Z Z (fun _ _=>(y_fieldAddr fo_33_0 Z)) (k_y 4 (by kernel_rfl) Z Z Z (fun l9 ⟨m6,h3,m7⟩=>(y_load1 sh_2 Z ((blk_cells h3 m0).nth_ (i:=0) Z))) (k_y 5 (by kernel_rfl) Z Z Z (fun _ _=>(y_move Z)) (k_y 6 (by kernel_rfl) Z Z Z (fun _ _=>(y_move Z)) (k_y 7 (by kernel_rfl) Z Z Z (fun _ _=>(y_sub Z Z (by omega))) ?_))))
         obtain ⟨h4,f4⟩:=has (xs:=list) (k:=(((a1:Int) - 1)).toNat) (by omega)
         obtain ⟨m8,m9,n0,h5,h6,h7,h8⟩:=Sl.at_ (h_list.mono (((d0.t e0).t e1).t e5)) f4
         obtain rfl:=h6
         refine k_y 8 (by kernel_rfl) Z Z Z (fun _ _=>(y_indexAddr (i:=(((a1:Int) - 1)).toNat) el_34 Z h5 Z ((Int.toNat_of_nonneg (by omega)).symm) (by omega))) (k_y 9 (by kernel_rfl) Z Z Z (fun _ _=>(y_fieldAddr fo_33_0 Z)) (k_y 10 (by kernel_rfl) Z Z Z (fun n1 ⟨n2,n3,h9⟩=>(y_load1 sh_2 Z ((h7.keep ((h9).blk _ h8)).nth_ (i:=0) Z))) (k_y 11 (by kernel_rfl) Z Z Z (fun _ _=>(y_leq Z Z)) (k_y 12 (by kernel_rfl) Z Z Z (fun _ _=>(y_pickT Z Z)) (k_y 13 (by kernel_rfl) Z Z Z (fun _ _=>(y_assign Z)) (k_done (by kernel_rfl) (x_draw ?_)))))))
         refine x_cut ((decide (a0.frm≤h4.frm)),a4) (.cons Z (.cons Z (.cons Z (.cons Z (.nil _))))) ⟨e4,e5,ET (IP b4) (ET (opt_some f4) (rfl))⟩
        ·replace b4:=OF b4
         refine k_skip 3 (by kernel_rfl) Z Z Z (k_skip 4 (by kernel_rfl) Z Z Z (k_skip 5 (by kernel_rfl) Z Z Z (k_skip 6 (by kernel_rfl) Z Z Z (k_skip 7 (by kernel_rfl) Z Z Z (k_skip 8 (by kernel_rfl) Z Z Z (k_skip 9 (by kernel_rfl) Z Z Z (k_skip 10 (by kernel_rfl) Z Z Z (k_skip 11 (by kernel_rfl) Z Z Z (k_y 12 (by kernel_rfl) Z Z Z (fun _ _=>(y_pickF Z Z)) (k_y 13 (by kernel_rfl) Z Z Z (fun _ _=>(y_assign Z)) (k_done (by kernel_rfl) (x_draw ?_))))))))))))
         refine x_cut (false,a4) (.cons Z (.cons Z (.cons Z (.cons Z (.nil _))))) ⟨e4,e5,ET (IN b4) (rfl)⟩
       ·rintro ⟨d1,d2⟩ e3 ⟨c4,i0,d3⟩
        refine c_cond Z (fun c5=>?_) (fun c5=>?_)
        ·skip
         refine csr ((GA Y (gnx ((c_ret ?_)))))
         have i1:bCheck_m1 list a1 a0=(Out.ret 6):=ET (IN a2) (ET (IN a3) (ET (IP a5) (ET (IN a9) (ET (BE d3) (ET (cond_t c5) (rfl))))))
         have i2:bCheck list=6:=ET (a7) (ET (opt_some a6) (ET (out_ret i1) (rfl)))
         refine x_blockR (x_cutR (x_jmp1R (x_ret ⟨_,_,rfl,rfl,rfl⟩ ?_)))
         exact ⟨_,_,rfl,c4.fr,c4.grow,by rw [i2]; exact rfl⟩
        ·skip
         refine csr ((gfa fo_33_1 Z Z Z (gld sh_3 Z c4 m0 (i:=1) Z Z Z ?_)))
         have f5:=fRate_c (rate:=a0.rate) c4.lt
         obtain ⟨n4,d4⟩:∃ r,fRate a0.rate=r:=⟨_,rfl⟩
         rw [d4] at f5
         refine g_e (ev_pure c4 pf_244 Z f5) Z Z ?_
         rintro _ n5 ⟨n6,c6,i3,rfl⟩
         refine g_y (y_not Z) Z Z (GM Y (g_split (t:=54) Z (fun b1=>?_) (fun b1=>?_)))
         ·replace b1:=not_t b1
          refine gsk Z Z (gsk Z Z (gsk Z Z (gsk Z Z (g_y (y_pickT Z Z) Z Z (GA Y (gnx ((c_condT Z (csr ((GA Y (gnx (?_)))))))))))))
          refine c_ret ?_
          have i4:bCheck_m1 list a1 a0=(Out.ret 50):=ET (IN a2) (ET (IN a3) (ET (IP a5) (ET (IN a9) (ET (BE d3) (ET (cond_f c5) (ET (BE d4) (ET (cond_f b1) (rfl))))))))
          have i5:bCheck list=50:=ET (a7) (ET (opt_some a6) (ET (out_ret i4) (rfl)))
          refine x_blockR (x_cutR (x_jmp1R (x_ret ⟨_,_,rfl,rfl,rfl⟩ ?_)))
          exact ⟨_,_,rfl,c6.fr,c6.grow,by rw [i5]; exact rfl⟩
         ·replace b1:=not_f b1
          refine gfa fo_33_2 Z Z Z (gld sh_3 Z c6 m0 (i:=2) Z Z Z ?_)
          have f6:=fRate_c (rate:=a0.emp) c6.lt
          obtain ⟨n7,e6⟩:∃ r,fRate a0.emp=r:=⟨_,rfl⟩
          rw [e6] at f6
          refine g_e (ev_pure c6 pf_244 Z f6) Z Z ?_
          rintro _ n8 ⟨i6,e7,i7,rfl⟩
          refine g_y (y_not Z) Z Z (g_y (y_pickF Z Z) Z Z (GA Y (gnx ((c_cond Z (fun b5=>?_) (fun b5=>?_))))))
          ·replace b5:=not_t b5
           refine csr ((GA Y (gnx ((c_ret ?_)))))
           have i8:bCheck_m1 list a1 a0=(Out.ret 50):=ET (IN a2) (ET (IN a3) (ET (IP a5) (ET (IN a9) (ET (BE d3) (ET (cond_f c5) (ET (BE d4) (ET (cond_t b1) (ET (BE e6) (ET (cond_f b5) (rfl))))))))))
           have i9:bCheck list=50:=ET (a7) (ET (opt_some a6) (ET (out_ret i8) (rfl)))
           refine x_blockR (x_cutR (x_jmp1R (x_ret ⟨_,_,rfl,rfl,rfl⟩ ?_)))
           exact ⟨_,_,rfl,e7.fr,e7.grow,by rw [i9]; exact rfl⟩
          ·replace b5:=not_f b5
           refine c_skip (x_blockN (x_cut (i6) (.cons Z (.cons Z (.nil _))) ⟨e7,((i0.t i3).t i7),ET (IN a2) (ET (IN a3) (ET (IP a5) (ET (IN a9) (ET (BE d3) (ET (cond_f c5) (ET (BE d4) (ET (cond_t b1) (ET (BE e6) (ET (cond_t b5) (rfl))))))))))⟩))
     ·replace a5:=OF a5
      refine gsk Z Z (gsk Z Z (gsk Z Z (g_y (y_pickF Z Z) Z Z (g_y (y_pickF Z Z) Z Z (GA Y (gnx ((c_condF Z (c_cut (ι:=Bool × Dat) (fun ⟨d5,d6⟩=>[(0,.slice A1 (list).length c2),(3,.int .i64 (a1:Int)),(4,.pointer (some ⟨c0,0,none⟩)),(35,.bool d5)]) (fun ⟨d5,d6⟩ e8=>Inv [] d w d6 [blk c0 33 [.int .i64 a0.frm,.int .i64 a0.rate,.int .i64 a0.emp]] e8∧Le a4 c1 d6 e8∧bCheck_m3 list a1 a0=d5) ?_ ?_)))))))))
      ·have e9:=a8.drew; have f0:=Le.drew a4 c1
       refine c_drawK 14 follows_mixed e9 (k_y 0 (by kernel_rfl) Z Z Z (fun _ _=>(y_move Z)) (k_y 1 (by kernel_rfl) Z Z Z (fun _ _=>(y_gtr Z Z)) (k_y 2 (by kernel_rfl) Z Z Z (fun _ _=>(y_move Z)) (k_split (t:=38) Z (fun b6=>?_) (fun b6=>?_)))))
       ·replace b6:=OT b6
        refine k_y 3 (by kernel_rfl) Z Z Z (fun _ _=>(y_fieldAddr fo_33_0 Z)) (k_y 4 (by kernel_rfl) Z Z Z (fun n9 ⟨o0,j0,o1⟩=>(y_load1 sh_2 Z ((blk_cells j0 m0).nth_ (i:=0) Z))) (k_y 5 (by kernel_rfl) Z Z Z (fun _ _=>(y_move Z)) (k_y 6 (by kernel_rfl) Z Z Z (fun _ _=>(y_move Z)) (k_y 7 (by kernel_rfl) Z Z Z (fun _ _=>(y_sub Z Z (by omega))) ?_))))
        obtain ⟨j1,f7⟩:=has (xs:=list) (k:=(((a1:Int) - 1)).toNat) (by omega)
        obtain ⟨o2,o3,o4,j2,j3,j4,j5⟩:=Sl.at_ (h_list.mono (((d0.t e0).t e1).t f0)) f7
        obtain rfl:=j3
        refine k_y 8 (by kernel_rfl) Z Z Z (fun _ _=>(y_indexAddr (i:=(((a1:Int) - 1)).toNat) el_34 Z j2 Z ((Int.toNat_of_nonneg (by omega)).symm) (by omega))) (k_y 9 (by kernel_rfl) Z Z Z (fun _ _=>(y_fieldAddr fo_33_0 Z)) (k_y 10 (by kernel_rfl) Z Z Z (fun o5 ⟨o6,o7,j6⟩=>(y_load1 sh_2 Z ((j4.keep ((j6).blk _ j5)).nth_ (i:=0) Z))) (k_y 11 (by kernel_rfl) Z Z Z (fun _ _=>(y_leq Z Z)) (k_y 12 (by kernel_rfl) Z Z Z (fun _ _=>(y_pickT Z Z)) (k_y 13 (by kernel_rfl) Z Z Z (fun _ _=>(y_assign Z)) (k_done (by kernel_rfl) (x_draw ?_)))))))
        refine x_cut ((decide (a0.frm≤j1.frm)),a4) (.cons Z (.cons Z (.cons Z (.cons Z (.nil _))))) ⟨e9,f0,ET (IP b6) (ET (opt_some f7) (rfl))⟩
       ·replace b6:=OF b6
        refine k_skip 3 (by kernel_rfl) Z Z Z (k_skip 4 (by kernel_rfl) Z Z Z (k_skip 5 (by kernel_rfl) Z Z Z (k_skip 6 (by kernel_rfl) Z Z Z (k_skip 7 (by kernel_rfl) Z Z Z (k_skip 8 (by kernel_rfl) Z Z Z (k_skip 9 (by kernel_rfl) Z Z Z (k_skip 10 (by kernel_rfl) Z Z Z (k_skip 11 (by kernel_rfl) Z Z Z (k_y 12 (by kernel_rfl) Z Z Z (fun _ _=>(y_pickF Z Z)) (k_y 13 (by kernel_rfl) Z Z Z (fun _ _=>(y_assign Z)) (k_done (by kernel_rfl) (x_draw ?_))))))))))))
        refine x_cut (false,a4) (.cons Z (.cons Z (.cons Z (.cons Z (.nil _))))) ⟨e9,f0,ET (IN b6) (rfl)⟩
      ·rintro ⟨d5,d6⟩ e8 ⟨c7,j7,d7⟩
       refine c_cond Z (fun c8=>?_) (fun c8=>?_)
       ·skip
        refine csr ((GA Y (gnx ((c_ret ?_)))))
        have j8:bCheck_m1 list a1 a0=(Out.ret 6):=ET (IN a2) (ET (IN a3) (ET (IN a5) (ET (BE d7) (ET (cond_t c8) (rfl)))))
        have j9:bCheck list=6:=ET (a7) (ET (opt_some a6) (ET (out_ret j8) (rfl)))
        refine x_blockR (x_cutR (x_jmp1R (x_ret ⟨_,_,rfl,rfl,rfl⟩ ?_)))
        exact ⟨_,_,rfl,c7.fr,c7.grow,by rw [j9]; exact rfl⟩
       ·skip
        refine csr ((gfa fo_33_1 Z Z Z (gld sh_3 Z c7 m0 (i:=1) Z Z Z ?_)))
        have f8:=fRate_c (rate:=a0.rate) c7.lt
        obtain ⟨o8,d8⟩:∃ r,fRate a0.rate=r:=⟨_,rfl⟩
        rw [d8] at f8
        refine g_e (ev_pure c7 pf_244 Z f8) Z Z ?_
        rintro _ o9 ⟨p0,c9,k0,rfl⟩
        refine g_y (y_not Z) Z Z (GM Y (g_split (t:=54) Z (fun b2=>?_) (fun b2=>?_)))
        ·replace b2:=not_t b2
         refine gsk Z Z (gsk Z Z (gsk Z Z (gsk Z Z (g_y (y_pickT Z Z) Z Z (GA Y (gnx ((c_condT Z (csr ((GA Y (gnx (?_)))))))))))))
         refine c_ret ?_
         have k1:bCheck_m1 list a1 a0=(Out.ret 50):=ET (IN a2) (ET (IN a3) (ET (IN a5) (ET (BE d7) (ET (cond_f c8) (ET (BE d8) (ET (cond_f b2) (rfl)))))))
         have k2:bCheck list=50:=ET (a7) (ET (opt_some a6) (ET (out_ret k1) (rfl)))
         refine x_blockR (x_cutR (x_jmp1R (x_ret ⟨_,_,rfl,rfl,rfl⟩ ?_)))
         exact ⟨_,_,rfl,c9.fr,c9.grow,by rw [k2]; exact rfl⟩
        ·replace b2:=not_f b2
         refine gfa fo_33_2 Z Z Z (gld sh_3 Z c9 m0 (i:=2) Z Z Z ?_)
         have f9:=fRate_c (rate:=a0.emp) c9.lt
         obtain ⟨p1,f1⟩:∃ r,fRate a0.emp=r:=⟨_,rfl⟩
         rw [f1] at f9
         refine g_e (ev_pure c9 pf_244 Z f9) Z Z ?_
         rintro _ p2 ⟨k3,f2,k4,rfl⟩
         refine g_y (y_not Z) Z Z (g_y (y_pickF Z Z) Z Z (GA Y (gnx ((c_cond Z (fun b7=>?_) (fun b7=>?_))))))
         ·replace b7:=not_t b7
          refine csr ((GA Y (gnx ((c_ret ?_)))))
          have k5:bCheck_m1 list a1 a0=(Out.ret 50):=ET (IN a2) (ET (IN a3) (ET (IN a5) (ET (BE d7) (ET (cond_f c8) (ET (BE d8) (ET (cond_t b2) (ET (BE f1) (ET (cond_f b7) (rfl)))))))))
          have k6:bCheck list=50:=ET (a7) (ET (opt_some a6) (ET (out_ret k5) (rfl)))
          refine x_blockR (x_cutR (x_jmp1R (x_ret ⟨_,_,rfl,rfl,rfl⟩ ?_)))
          exact ⟨_,_,rfl,f2.fr,f2.grow,by rw [k6]; exact rfl⟩
         ·replace b7:=not_f b7
          refine c_skip (x_blockN (x_cut (k3) (.cons Z (.cons Z (.nil _))) ⟨f2,((j7.t k0).t k4),ET (IN a2) (ET (IN a3) (ET (IN a5) (ET (BE d7) (ET (cond_f c8) (ET (BE d8) (ET (cond_t b2) (ET (BE f1) (ET (cond_t b7) (rfl)))))))))⟩))
  ·rintro c3 e2 ⟨f3,k7,g0⟩
   refine c_seq (csr ((GM Y (g_y (y_add Z Z (by omega)) Z Z (GA Y (gnx ((csr ((GM Y (GM Y (gln el_34 Z Z Z (g_y (y_lss Z Z) Z Z ?_)))))))))))))
   refine gnx ((c_cond Z (fun b8=>?_) (fun b8=>?_)))
   ·replace b8:=OT b8
    refine c_goto ?_
    have k8:=f3.drop (.hd _)
    refine x_thenG (x_jump1 (g2,a1 + 1,c3) (by dsimp only; omega) (.cons Z (.cons Z (.nil _))) ⟨k8,(((d0.t e0).t e1).t k7),ET (a7) (ET (opt_some a6) (ET (out_next g0) (ET (IP b8) (rfl)))),by omega,by omega⟩)
   ·replace b8:=OF b8
    refine c_skip (x_next (csr ((GA Y (gnx ((c_ret ?_)))))))
    have k9:bCheck list=0:=ET (a7) (ET (opt_some a6) (ET (out_next g0) (ET (IN b8) (rfl))))
    refine x_jmp1R (x_ret ⟨_,_,rfl,rfl,rfl⟩ ?_)
    exact ⟨_,_,rfl,f3.fr,f3.grow,by rw [k9]; exact rfl⟩
 ·refine c_seq (csr ((GM Y (gln el_34 Z Z Z (g_y (y_eql Z Z) Z Z (GM Y (g_split (t:=8) Z (fun b3=>?_) (fun b3=>?_))))))))
  ·replace b3:=OT b3
   refine gsk Z Z (gsk Z Z (gsk Z Z (g_y (y_pickT Z Z) Z Z (gnx ((c_condT Z (csr ((GA Y (gnx ((c_ret ?_))))))))))))
   have l0:bCheck list=2:=ET (IP b3) (rfl)
   refine x_thenR (x_jmp0R (x_ret ⟨_,_,rfl,rfl,rfl⟩ ?_))
   exact ⟨_,_,rfl,hI0.fr,hI0.grow,by rw [l0]; exact rfl⟩
  ·replace b3:=OF b3
   refine GM Y (gln el_34 Z Z Z (g_y (y_gtr Z Z) Z Z (g_y (y_pickF Z Z) Z Z (gnx ((c_cond Z (fun b9=>?_) (fun b9=>?_)))))))
   ·replace b9:=OT b9
    refine csr ((GA Y (gnx ((c_ret ?_)))))
    have l1:bCheck list=2:=ET (IN b3) (ET (IP b9) (rfl))
    refine x_thenR (x_jmp0R (x_ret ⟨_,_,rfl,rfl,rfl⟩ ?_))
    exact ⟨_,_,rfl,hI0.fr,hI0.grow,by rw [l1]; exact rfl⟩
   ·replace b9:=OF b9
    refine c_skip (x_next (csr ((GA Y (gnx ((c_seq (c_label (x_next (hP (list.length + 1,0,d) _ _ ⟨hI0,(Le.refl _ _),ET (IN b3) (ET (IN b9) (rfl)),by omega,by omega⟩ (.cons Z (.cons Z (.nil _)))))))))))))
def tschemes_l2:List Band→Nat→Out (Unit) (Out (Unit) (Int))
 | [],a0=>(Out.next (()))
 | a1 :: tl7,a0=>(if (a1.emp≠0) then (Out.ret ((Out.ret 50)))
 else (tschemes_l2 tl7 (a0 + 1) ))
def tschemes_l1:List (List Band)→Nat→Out (Unit) (Int)
 | [],a0=>(Out.next (()))
 | a1 :: tl1,a0=>(bnd (bCheck a1) fun a2=>
 (if (a2≠0) then (Out.ret a2)
 else (out (tschemes_l2 a1 0 ) fun _=>
 (tschemes_l1 tl1 (a0 + 1) ))))
def tschemes (t:Table):Int:=
 (if ((t.schemes.length:Int)=0) then 2
 else (if (8 < (t.schemes.length:Int)) then 2
 else (out (tschemes_l1 t.schemes 0 ) fun _=>
 0)))
theorem tschemes_c {t:Table} {cs_t:List Value} {d:Dat} {w:World} (hd:∀ b,d b→b < w.heap.size) (h_t:tableTy.rel d w t cs_t):Ret Tryz.prog 246 [.agg cs_t.toArray] w [] d (fun u d' w'=>u=.int .i64 ((tschemes t))):=by
 obtain ⟨v1,v2,v3,rfl,hS4,hS5,hS6⟩:=h_t
 obtain ⟨A7,c8,rfl,hn9,g9⟩:=hS4.fm
 obtain ⟨b3,b4,rfl,h0,h1⟩:=hS5.fm
 obtain ⟨b5,b6,rfl,h2,h3⟩:=hS6.fm
 refine ret_enter (n:=41) Tryz.func246 Z Z (ble Z) ?_
 have hI0:=Inv.start hd
 refine csr ((g_e (ev_box hI0 Z) Z Z ?_))
 rintro _ d7 ⟨b7,rfl,a5,e4⟩
 refine GA Y (gnx ((c_seq (csr ((gfa fo_26_0 Z Z Z (gld sh_22 Z a5 m0 (i:=0) Z Z Z (gln el_22 Z Z Z (g_y (y_eql Z Z) Z Z (GM Y (g_split (t:=12) Z (fun a3=>?_) (fun a3=>?_))))))))))))
 ·replace a3:=OT a3
  refine gsk Z Z (gsk Z Z (gsk Z Z (gsk Z Z (g_y (y_pickT Z Z) Z Z (gnx ((c_condT Z (csr ((GA Y (gnx ((c_ret ?_)))))))))))))
  have e5:tschemes t=2:=ET (IP a3) (rfl)
  refine x_thenR (x_ret ⟨_,_,rfl,rfl,rfl⟩ ?_)
  exact ⟨_,_,rfl,a5.fr,a5.grow,by rw [e5]; exact rfl⟩
 ·replace a3:=OF a3
  refine gfa fo_26_0 Z Z Z (gld sh_22 Z a5 m0 (i:=0) Z Z Z (gln el_22 Z Z Z (g_y (y_gtr Z Z) Z Z (g_y (y_pickF Z Z) Z Z (gnx ((c_cond Z (fun a4=>?_) (fun a4=>?_))))))))
  ·replace a4:=OT a4
   refine csr ((GA Y (gnx ((c_ret ?_)))))
   have e6:tschemes t=2:=ET (IN a3) (ET (IP a4) (rfl))
   refine x_thenR (x_ret ⟨_,_,rfl,rfl,rfl⟩ ?_)
   exact ⟨_,_,rfl,a5.fr,a5.grow,by rw [e6]; exact rfl⟩
  ·replace a4:=OF a4
   refine c_skip (x_next (c_seq (csr ((gfa fo_26_0 Z Z Z (gld sh_22 Z a5 m0 (i:=0) Z Z Z (gln el_22 Z Z Z (GM Y (gnx ((c_cut1 (ι:=Dat) (fun b8=>[]) (fun b8 c3=>Inv [] d w b8 [blk b7 26 [.slice A7 (t.schemes).length c8,.slice b3 (t.contribs).length b4,.slice b5 (t.kinds).length b6,.int .i64 t.limit,.int .i64 t.round]] c3∧Le d d7 b8 c3∧tschemes_l1 t.schemes 0 =Out.next (())) ?_ ?_)))))))))))
   ·refine c_block (c_loop (ι:=Nat × Dat) (fun ⟨a0,a9⟩=>[(19,.slice A7 (t.schemes).length c8),(20,.int .i64 (t.schemes.length:Int)),(21,.int .i64 (a0:Int))]) (fun ⟨a0,a9⟩ c4=>Inv [] d w a9 [blk b7 26 [.slice A7 (t.schemes).length c8,.slice b3 (t.contribs).length b4,.slice b5 (t.kinds).length b6,.int .i64 t.limit,.int .i64 t.round]] c4∧Le d d7 a9 c4∧tschemes_l1 t.schemes 0 =tschemes_l1 (t.schemes.drop a0) a0 ∧a0≤t.schemes.length) (fun ⟨a0,a9⟩=>t.schemes.length - a0) (0,d) (.cons Z (.cons Z (.cons Z (.nil _)))) ⟨a5,Le.refl _ _,rfl,Nat.zero_le _⟩ ?_)
    rintro ⟨a0,a9⟩ c4 ⟨c5,c6,b9,h4⟩
    refine csr ((g_y (y_lss Z Z) Z Z (gnx ((c_seq (c_cond Z (fun b0=>?_) (fun b0=>?_)))))))
    ·replace b0:=OT b0
     obtain ⟨a2,c0⟩:=has (xs:=t.schemes) (k:=a0) (by omega)
     refine c_skip (x_next (c_seq (c_block (csr (?_)))))
     obtain ⟨h5,h6,h7,e7,e8,e9,h8⟩:=Sl.at_ (hS4.mono (e4.t c6)) c0
     obtain ⟨h9,rfl,c7⟩:=e8
     obtain ⟨f0,f1,rfl,i0,i1⟩:=c7.fm
     refine g_y (y_indexAddr (i:=a0) el_22 Z e7 Z (rfl) (by omega)) Z Z (g_y (y_load1 sh_34 Z (e9.nth_ (i:=0) Z)) Z Z (GA Y (gnx ((c_seq (csr ((GM Y ?_))))))))
     have d8:=bCheck_c (list:=a2) c5.lt c7
     obtain ⟨d9,c1⟩:∃ r,bCheck a2=r:=⟨_,rfl⟩
     rw [c1] at d8
     refine g_e (ev_pure c5 pf_283 Z d8) Z Z ?_
     rintro _ e0 ⟨c9,d0,e1,rfl⟩
     refine GA Y (gnx ((csr ((GM Y (g_y (y_neq Z Z) Z Z (gnx ((c_cond Z (fun a6=>?_) (fun a6=>?_))))))))))
     ·replace a6:=OT a6
      refine csr ((GM Y (GA Y (gnx ((c_ret ?_))))))
      have f2:tschemes_l1 t.schemes 0 =(Out.ret d9):=b9.trans (ET (congrArg (fun l=>tschemes_l1 l a0 ) (drop_cons c0)) (ET (BE c1) (ET (IP a6) (rfl))))
      have f3:tschemes t=d9:=ET (IN a3) (ET (IN a4) (ET (out_ret f2) (rfl)))
      refine x_thenR (x_blockR (x_thenR (x_rndR (x_blockR (x_cutR (x_thenR (x_ret ⟨_,_,rfl,rfl,rfl⟩ ?_)))))))
      exact ⟨_,_,rfl,d0.fr,d0.grow,by rw [f3]; exact rfl⟩
     ·replace a6:=OF a6
      refine c_skip (x_next (csr ((GM Y (gln el_34 Z Z Z (GM Y (gnx ((c_cut1 (ι:=Dat) (fun b1=>[(19,.slice A7 (t.schemes).length c8),(20,.int .i64 (t.schemes.length:Int)),(21,.int .i64 (a0:Int))]) (fun b1 d1=>Inv [] d w b1 [blk b7 26 [.slice A7 (t.schemes).length c8,.slice b3 (t.contribs).length b4,.slice b5 (t.kinds).length b6,.int .i64 t.limit,.int .i64 t.round]] d1∧Le c9 e0 b1 d1∧tschemes_l2 a2 0 =Out.next (())) ?_ ?_)))))))))
      ·refine c_block (c_loop (ι:=Nat × Dat) (fun ⟨a1,a7⟩=>[(19,.slice A7 (t.schemes).length c8),(20,.int .i64 (t.schemes.length:Int)),(21,.int .i64 (a0:Int)),(30,.slice f0 (a2).length f1),(31,.int .i64 (a2.length:Int)),(32,.int .i64 (a1:Int))]) (fun ⟨a1,a7⟩ d2=>Inv [] d w a7 [blk b7 26 [.slice A7 (t.schemes).length c8,.slice b3 (t.contribs).length b4,.slice b5 (t.kinds).length b6,.int .i64 t.limit,.int .i64 t.round]] d2∧Le c9 e0 a7 d2∧tschemes_l2 a2 0 =tschemes_l2 (a2.drop a1) a1 ∧a1≤a2.length) (fun ⟨a1,a7⟩=>a2.length - a1) (0,c9) (.cons Z (.cons Z (.cons Z (.cons Z (.cons Z (.cons Z (.nil _))))))) ⟨d0,Le.refl _ _,rfl,Nat.zero_le _⟩ ?_)
       rintro ⟨a1,a7⟩ d2 ⟨e2,d3,d4,i2⟩
       refine csr ((g_y (y_lss Z Z) Z Z (gnx ((c_seq (c_cond Z (fun b2=>?_) (fun b2=>?_)))))))
       ·replace b2:=OT b2
        obtain ⟨d5,d6⟩:=has (xs:=a2) (k:=a1) (by omega)
        refine c_skip (x_next (c_seq (c_block (csr (?_)))))
        obtain ⟨i3,i4,i5,f4,f5,f6,i6⟩:=Sl.at_ (c7.mono (e1.t d3)) d6
        obtain rfl:=f5
        refine g_y (y_indexAddr (i:=a1) el_34 Z f4 Z (rfl) (by omega)) Z Z (g_y (y_loadA (cs:=[.int .i64 d5.frm,.int .i64 d5.rate,.int .i64 d5.emp]) sh_33 Z (f6.part (f:=0) (.take _ (.take _ (.take _ (.nil _)))))) Z Z (g_e (ev_alloc e2 ze_33) Z Z ?_))
        rintro _ i7 ⟨i8,rfl,f7,f8⟩
        refine g_e (ev_store f7 Z Z Z sz_33 Z (.here _ _ (.here _ _ (.here _ _ (.nil _)))) (.hd _)) Z Z ?_
        rintro _ i9 ⟨c2,f9⟩
        refine gnx ((csr ((gfa fo_33_2 Z Z Z (gld sh_3 Z c2 m0 (i:=2) Z Z Z (g_y (y_neq Z Z) Z Z (gnx ((c_cond Z (fun a8=>?_) (fun a8=>?_))))))))))
        ·replace a8:=OT a8
         refine csr ((GA Y (gnx ((c_ret ?_)))))
         have g0:tschemes_l2 a2 0 =(Out.ret ((Out.ret 50))):=d4.trans (ET (congrArg (fun l=>tschemes_l2 l a1 ) (drop_cons d6)) (ET (IP a8) (rfl)))
         have g1:tschemes_l1 t.schemes 0 =(Out.ret 50):=b9.trans (ET (congrArg (fun l=>tschemes_l1 l a0 ) (drop_cons c0)) (ET (BE c1) (ET (IN a6) (ET (out_ret g0) (rfl)))))
         have g2:tschemes t=50:=ET (IN a3) (ET (IN a4) (ET (out_ret g1) (rfl)))
         refine x_blockR (x_thenR (x_rndR (x_blockR (x_cutR (x_blockR (x_thenR (x_rndR (x_blockR (x_cutR (x_thenR (x_ret ⟨_,_,rfl,rfl,rfl⟩ ?_)))))))))))
         exact ⟨_,_,rfl,c2.fr,c2.grow,by rw [g2]; exact rfl⟩
        ·replace a8:=OF a8
         refine c_skip (x_blockN (x_next ?_))
         refine c_region (g_y (y_add Z Z (by omega)) Z Z (GM Y (g_nil ?_)))
         have g3:=c2.drop (.hd _)
         refine x_round (a1 + 1,a7) (by dsimp only; omega) (.cons Z (.cons Z (.cons Z (.cons Z (.cons Z (.cons Z (.nil _))))))) ⟨g3,((d3.t f8).t f9),d4.trans (ET (congrArg (fun l=>tschemes_l2 l a1 ) (drop_cons d6)) (ET (IN a8) (rfl))),by omega⟩
       ·replace b2:=OF b2
        refine c_exit (x_thenE (x_rndE (x_blockE (x_cut (a7) (.cons Z (.cons Z (.cons Z (.nil _)))) ⟨e2,d3,d4.trans (ET (congrArg (fun l=>tschemes_l2 l a1 ) (drop_nil (by omega))) (rfl))⟩))))
      ·rintro b1 d1 ⟨g4,g5,g6⟩
       refine x_blockN (x_next ?_)
       refine c_region (g_y (y_add Z Z (by omega)) Z Z (GM Y (g_nil (x_round (a0 + 1,b1) (by dsimp only; omega) (.cons Z (.cons Z (.cons Z (.nil _)))) ⟨g4,((c6.t e1).t g5),b9.trans (ET (congrArg (fun l=>tschemes_l1 l a0 ) (drop_cons c0)) (ET (BE c1) (ET (IN a6) (ET (out_next g6) (rfl))))),by omega⟩))))
    ·replace b0:=OF b0
     refine c_exit (x_thenE (x_rndE (x_blockE (x_cut (a9) (.nil _) ⟨c5,c6,b9.trans (ET (congrArg (fun l=>tschemes_l1 l a0 ) (drop_nil (by omega))) (rfl))⟩))))
   ·rintro b8 c3 ⟨e3,j0,g7⟩
    refine x_next (csr ((GA Y (gnx ((c_ret ?_))))))
    have g8:tschemes t=0:=ET (IN a3) (ET (IN a4) (ET (out_next g7) (rfl)))
    refine x_ret ⟨_,_,rfl,rfl,rfl⟩ (⟨_,_,rfl,e3.fr,e3.grow,by rw [g8]; exact rfl⟩)
def wName_m2 (s:ByteArray) (a0:Nat):Bool:=
 (if (97≤(byteAt s a0)) then (decide ((byteAt s a0)≤122))
 else false)
def wName_m1 (s:ByteArray) (a0:Nat):Out (Unit) (Out (Unit) (Bool)):=
 (bnd (wName_m2 s a0) fun a1=>
 (cond a1 ((Out.next (())))
 ((if ((a0:Int)=0) then (Out.ret ((Out.ret false)))
 else (if ((byteAt s a0) < 48) then (if ((byteAt s a0)≠45) then (Out.ret ((Out.ret false)))
 else (Out.next (())))
 else (if (57 < (byteAt s a0)) then (if ((byteAt s a0)≠45) then (Out.ret ((Out.ret false)))
 else (Out.next (())))
 else (Out.next (()))))))))
def wName_l1 (s:ByteArray):Nat→Nat→Out (Unit) (Bool)
 | 0,_=>default
 | a1 + 1,a0=>(if ((a0:Int) < (s.size:Int)) then (out (wName_m1 s a0) fun _=>
 (wName_l1 s a1 (a0 + 1)))
 else (Out.next (())))
def wName (s:ByteArray):Bool:=
 (if (s=(⟨#[]⟩:ByteArray)) then false
 else (if (16 < (s.size:Int)) then false
 else (out (wName_l1 s (s.size + 1) 0) fun _=>
 true)))
theorem wName_c {s:ByteArray} {d:Dat} {w:World} (hd:∀ b,d b→b < w.heap.size):Ret Tryz.prog 251 [.string s] w [] d (fun u d' w'=>u=.bool ((wName s))):=by
 refine ret_enter (n:=46) Tryz.func251 Z Z (ble Z) ?_
 have hI0:=Inv.start hd
 refine csr ((GA Y (gnx ((c_seq (csr ((GM Y (g_y (y_strEq Z Z) Z Z (GM Y (g_split (t:=8) Z (fun hg3=>?_) (fun hg3=>?_))))))))))))
 ·replace hg3:=OT hg3
  refine gsk Z Z (gsk Z Z (gsk Z Z (g_y (y_pickT Z Z) Z Z (gnx ((c_condT Z (csr ((GA Y (gnx ((c_ret ?_))))))))))))
  have hF4:wName s=false:=ET (IP hg3) (rfl)
  refine x_thenR (x_ret ⟨_,_,rfl,rfl,rfl⟩ ?_)
  exact ⟨_,_,rfl,hI0.fr,hI0.grow,by rw [hF4]; exact rfl⟩
 ·replace hg3:=OF hg3
  refine GM Y (g_y (y_lenStr Tryz.underlying9 Z) Z Z (g_y (y_gtr Z Z) Z Z (g_y (y_pickF Z Z) Z Z (gnx ((c_cond Z (fun hc5=>?_) (fun hc5=>?_)))))))
  ·replace hc5:=OT hc5
   refine csr ((GA Y (gnx ((c_ret ?_)))))
   have hF6:wName s=false:=ET (IN hg3) (ET (IP hc5) (rfl))
   refine x_thenR (x_ret ⟨_,_,rfl,rfl,rfl⟩ ?_)
   exact ⟨_,_,rfl,hI0.fr,hI0.grow,by rw [hF6]; exact rfl⟩
  ·replace hc5:=OF hc5
   refine c_skip (x_next (c_seq (csr ((GM Y (g_y (y_lenStr Tryz.underlying9 Z) Z Z (GM Y (gnx ((c_cut1 (ι:=Dat) (fun b7=>[]) (fun b7 c0=>Inv [] d w b7 [] c0∧Le d w b7 c0∧wName_l1 s (s.size + 1) 0=Out.next (())) ?_ ?_))))))))))
   ·refine c_block (c_loop (ι:=Nat × Nat × Dat) (fun ⟨a7,a0,a3⟩=>[(0,.string s),(14,.int .i64 (s.size:Int)),(15,.int .i64 (a0:Int))]) (fun ⟨a7,a0,a3⟩ b4=>Inv [] d w a3 [] b4∧Le d w a3 b4∧wName_l1 s (s.size + 1) 0=wName_l1 s a7 a0∧s.size < a0 + a7∧a0≤s.size) (fun ⟨a7,a0,a3⟩=>a7) (s.size + 1,0,d) (.cons Z (.cons Z (.cons Z (.nil _)))) ⟨hI0,Le.refl _ _,rfl,by omega⟩ ?_)
    rintro ⟨a7,a0,a3⟩ b4 ⟨c1,c4,b5,e1⟩
    obtain ⟨c6,rfl⟩:∃ z,a7=z + 1:=⟨a7 - 1,by omega⟩
    refine csr ((g_y (y_lss Z Z) Z Z (gnx ((c_seq (c_cond Z (fun a4=>?_) (fun a4=>?_)))))))
    ·replace a4:=OT a4
     refine c_skip (x_next (c_cut (ι:=Dat) (fun b6=>[(0,.string s),(14,.int .i64 (s.size:Int)),(15,.int .i64 (a0:Int))]) (fun b6 c2=>Inv [] d w b6 [] c2∧Le a3 b4 b6 c2∧wName_m1 s a0=Out.next (())) ?_ ?_))
     ·refine c_block (csr ((GM Y (GA Y (gnx ((csr ((GM Y (GM Y (g_y (y_indexStr (i:=a0) Tryz.underlying9 Z Z (rfl) (by omega)) Z Z (GA Y (g_nil ?_)))))))))))))
      refine x_next (c_cut (ι:=Bool × Dat) (fun ⟨b8,a8⟩=>[(0,.string s),(3,.int .i64 (a0:Int)),(4,.int .u8 (byteAt s a0)),(5,.bool b8),(14,.int .i64 (s.size:Int)),(15,.int .i64 (a0:Int))]) (fun ⟨b8,a8⟩ c3=>Inv [] d w a8 [] c3∧Le a3 b4 a8 c3∧wName_m2 s a0=b8) ?_ ?_)
      ·refine c_region (GM Y (g_y (y_geq Z Z) Z Z (GM Y (g_split (t:=23) Z (fun b0=>?_) (fun b0=>?_)))))
       ·replace b0:=OT b0
        refine GM Y (g_y (y_leq Z Z) Z Z (g_y (y_pickT Z Z) Z Z (GA Y (g_nil (x_cut ((decide ((byteAt s a0)≤122)),a3) (.cons Z (.cons Z (.cons Z (.cons Z (.cons Z (.cons Z (.nil _))))))) ⟨c1,(Le.refl _ _),ET (IP b0) (rfl)⟩)))))
       ·replace b0:=OF b0
        refine gsk Z Z (gsk Z Z (g_y (y_pickF Z Z) Z Z (GA Y (g_nil (x_cut (false,a3) (.cons Z (.cons Z (.cons Z (.cons Z (.cons Z (.cons Z (.nil _))))))) ⟨c1,(Le.refl _ _),ET (IN b0) (rfl)⟩)))))
      ·rintro ⟨b8,a8⟩ c3 ⟨a5,b9,b1⟩
       refine csr ((GM Y (g_y (y_not Z) Z Z (GM Y (g_split (t:=29) Z (fun a1=>?_) (fun a1=>?_))))))
       ·replace a1:=not_t a1
        refine GM Y (g_y (y_eql Z Z) Z Z (GM Y (g_split (t:=32) Z (fun a2=>?_) (fun a2=>?_))))
        ·replace a2:=OT a2
         refine gsk Z Z (gsk Z Z (gsk Z Z (gsk Z Z (gsk Z Z (gsk Z Z (gsk Z Z (gsk Z Z (gsk Z Z (gsk Z Z (g_y (y_pickT Z Z) Z Z (g_y (y_pickT Z Z) Z Z (gnx (?_)))))))))))))
         refine c_condT Z (csr ((GA Y (gnx ((c_ret ?_))))))
         have c7:wName_m1 s a0=(Out.ret ((Out.ret false))):=ET (BE b1) (ET (cond_f a1) (ET (IP a2) (rfl)))
         have c8:wName_l1 s (s.size + 1) 0=(Out.ret false):=b5.trans (ET (IP a4) (ET (out_ret c7) (rfl)))
         have c9:wName s=false:=ET (IN hg3) (ET (IN hc5) (ET (out_ret c8) (rfl)))
         refine x_blockR (x_cutR (x_rndR (x_blockR (x_cutR (x_thenR (x_ret ⟨_,_,rfl,rfl,rfl⟩ ?_))))))
         exact ⟨_,_,rfl,a5.fr,a5.grow,by rw [c9]; exact rfl⟩
        ·replace a2:=OF a2
         refine GM Y (g_y (y_lss Z Z) Z Z (GM Y (g_split (t:=35) Z (fun a6=>?_) (fun a6=>?_))))
         ·replace a6:=OT a6
          refine gsk Z Z (gsk Z Z (g_y (y_pickT Z Z) Z Z (GM Y (GM Y (g_y (y_neq Z Z) Z Z (g_y (y_pickT Z Z) Z Z (g_y (y_pickF Z Z) Z Z (g_y (y_pickT Z Z) Z Z (gnx ((c_cond Z (fun b2=>?_) (fun b2=>?_))))))))))))
          ·replace b2:=OT b2
           refine csr ((GA Y (gnx ((c_ret ?_)))))
           have d0:wName_m1 s a0=(Out.ret ((Out.ret false))):=ET (BE b1) (ET (cond_f a1) (ET (IN a2) (ET (IP a6) (ET (IP b2) (rfl)))))
           have d1:wName_l1 s (s.size + 1) 0=(Out.ret false):=b5.trans (ET (IP a4) (ET (out_ret d0) (rfl)))
           have d2:wName s=false:=ET (IN hg3) (ET (IN hc5) (ET (out_ret d1) (rfl)))
           refine x_blockR (x_cutR (x_rndR (x_blockR (x_cutR (x_thenR (x_ret ⟨_,_,rfl,rfl,rfl⟩ ?_))))))
           exact ⟨_,_,rfl,a5.fr,a5.grow,by rw [d2]; exact rfl⟩
          ·replace b2:=OF b2
           refine c_skip (x_blockN (x_cut (a8) (.cons Z (.cons Z (.cons Z (.nil _)))) ⟨a5,b9,ET (BE b1) (ET (cond_f a1) (ET (IN a2) (ET (IP a6) (ET (IN b2) (rfl)))))⟩))
         ·replace a6:=OF a6
          refine GM Y (g_y (y_gtr Z Z) Z Z (g_y (y_pickF Z Z) Z Z (GM Y (g_split (t:=39) Z (fun a9=>?_) (fun a9=>?_)))))
          ·replace a9:=OT a9
           refine GM Y (g_y (y_neq Z Z) Z Z (g_y (y_pickT Z Z) Z Z (g_y (y_pickF Z Z) Z Z (g_y (y_pickT Z Z) Z Z (gnx ((c_cond Z (fun b3=>?_) (fun b3=>?_))))))))
           ·replace b3:=OT b3
            refine csr ((GA Y (gnx ((c_ret ?_)))))
            have d3:wName_m1 s a0=(Out.ret ((Out.ret false))):=ET (BE b1) (ET (cond_f a1) (ET (IN a2) (ET (IN a6) (ET (IP a9) (ET (IP b3) (rfl))))))
            have d4:wName_l1 s (s.size + 1) 0=(Out.ret false):=b5.trans (ET (IP a4) (ET (out_ret d3) (rfl)))
            have d5:wName s=false:=ET (IN hg3) (ET (IN hc5) (ET (out_ret d4) (rfl)))
            refine x_blockR (x_cutR (x_rndR (x_blockR (x_cutR (x_thenR (x_ret ⟨_,_,rfl,rfl,rfl⟩ ?_))))))
            exact ⟨_,_,rfl,a5.fr,a5.grow,by rw [d5]; exact rfl⟩
           ·replace b3:=OF b3
            refine c_skip (x_blockN (x_cut (a8) (.cons Z (.cons Z (.cons Z (.nil _)))) ⟨a5,b9,ET (BE b1) (ET (cond_f a1) (ET (IN a2) (ET (IN a6) (ET (IP a9) (ET (IN b3) (rfl))))))⟩))
          ·replace a9:=OF a9
           refine gsk Z Z (gsk Z Z (g_y (y_pickF Z Z) Z Z (g_y (y_pickF Z Z) Z Z (g_y (y_pickT Z Z) Z Z (gnx ((c_condF Z (c_skip (x_blockN (x_cut (a8) (.cons Z (.cons Z (.cons Z (.nil _)))) ⟨a5,b9,ET (BE b1) (ET (cond_f a1) (ET (IN a2) (ET (IN a6) (ET (IN a9) (rfl)))))⟩))))))))))
       ·replace a1:=not_f a1
        refine gsk Z Z (gsk Z Z (gsk Z Z (gsk Z Z (gsk Z Z (gsk Z Z (gsk Z Z (gsk Z Z (gsk Z Z (gsk Z Z (gsk Z Z (gsk Z Z (gsk Z Z (gsk Z Z ?_)))))))))))))
        refine g_y (y_pickF Z Z) Z Z (gnx ((c_condF Z (c_skip (x_blockN (x_cut (a8) (.cons Z (.cons Z (.cons Z (.nil _)))) ⟨a5,b9,ET (BE b1) (ET (cond_t a1) (rfl))⟩))))))
     ·rintro b6 c2 ⟨d6,d7,d8⟩
      refine c_region (g_y (y_add Z Z (by omega)) Z Z (GM Y (g_nil (x_round (c6,a0 + 1,b6) (by dsimp only; omega) (.cons Z (.cons Z (.cons Z (.nil _)))) ⟨d6,(c4.t d7),b5.trans (ET (IP a4) (ET (out_next d8) (rfl))),by omega⟩))))
    ·replace a4:=OF a4
     refine c_exit (x_thenE (x_rndE (x_blockE (x_cut (a3) (.nil _) ⟨c1,c4,b5.trans (ET (IN a4) (rfl))⟩))))
   ·rintro b7 c0 ⟨c5,e2,d9⟩
    refine x_next (csr ((GA Y (gnx ((c_ret ?_))))))
    have e0:wName s=true:=ET (IN hg3) (ET (IN hc5) (ET (out_next d9) (rfl)))
    refine x_ret ⟨_,_,rfl,rfl,rfl⟩ (⟨_,_,rfl,c5.fr,c5.grow,by rw [e0]; exact rfl⟩)
def contribsEq (o:Contrib) (c:Contrib):Bool:=
 (decide (o.name=c.name))
theorem contribsEq_c {o:Contrib} {cs_o:List Value} {c:Contrib} {b_c:Nat} {cs_c:List Value} {d:Dat} {w:World} (hd:∀ b,d b→b < w.heap.size) (h_o:contribTy.rel d w o cs_o) (hc_c:Cel d w b_c 0 cs_c) (h_c:contribTy.rel d w c cs_c):Ret Tryz.prog 285 [.agg cs_o.toArray,.pointer (some ⟨b_c,0,none⟩)] w [] d (fun u d' w'=>u=.bool ((contribsEq o c))):=by
 obtain ⟨v1,rfl,hS2⟩:=h_o
 obtain ⟨A3,c4,rfl,hn5,hb6⟩:=hS2.fm
 obtain ⟨v7,rfl,hS8⟩:=h_c
 obtain ⟨A9,a3,rfl,a4,a5⟩:=hS8.fm
 refine ret_enter (n:=9) Tryz.func285 Z Z (ble Z) ?_
 have hI0:=Inv.start hd
 refine csr ((g_e (ev_box hI0 Z) Z Z ?_))
 rintro _ a6 ⟨a7,rfl,a0,a1⟩
 refine GA Y (gnx ((csr ((gfa fo_70_0 Z Z Z (gld sh_9 Z a0 m0 (i:=0) Z Z Z (gfa fo_70_0 Z Z Z (g_y (y_load1 sh_9 Z ((hc_c.mono a1).cells.nth_ (i:=0) Z)) Z Z (g_y (y_strEq Z Z) Z Z (GA Y (gnx ((c_ret ?_)))))))))))))
 have a2:contribsEq o c=(decide (o.name=c.name)):=rfl
 refine x_ret ⟨_,_,rfl,rfl,rfl⟩ (⟨_,_,rfl,a0.fr,a0.grow,by rw [a2]; exact rfl⟩)
def ixContrib_l1 (c:Contrib):List Contrib→Nat→Out (Unit) (Int)
 | [],a0=>(Out.next (()))
 | a1 :: tl1,a0=>(bnd (contribsEq a1 c) fun a2=>
 (cond a2 ((Out.ret ((a0:Int))))
 ((ixContrib_l1 c tl1 (a0 + 1) ))))
def ixContrib (list:(List Contrib)) (c:Contrib):Int:=
 (out (ixContrib_l1 c list 0 ) fun _=>
 (-1))
theorem ixContrib_c {list:(List Contrib)} {v_list:Value} {c:Contrib} {b_c:Nat} {cs_c:List Value} {d:Dat} {w:World} (hd:∀ b,d b→b < w.heap.size) (h_list:Sl contribTy d w v_list list) (hc_c:Cel d w b_c 0 cs_c) (h_c:contribTy.rel d w c cs_c):Ret Tryz.prog 311 [v_list,.func (.func 285) #[] #[.pointer (some ⟨b_c,0,none⟩)]] w [] d (fun u d' w'=>u=.int .i64 ((ixContrib list c))):=by
 obtain ⟨A1,c2,rfl,hn3,hb4⟩:=h_list.fm
 obtain ⟨v5,rfl,hS6⟩:=h_c
 obtain ⟨A7,c8,rfl,hn9,d0⟩:=hS6.fm
 refine ret_enter (n:=19) Tryz.func311 Z Z (ble Z) ?_
 have hI0:=Inv.start hd
 refine csr ((GA Y (gnx ((c_seq (csr ((GM Y (gln el_23 Z Z Z (GM Y (gnx ((c_cut1 (ι:=Dat) (fun a5=>[]) (fun a5 a6=>Inv [] d w a5 [] a6∧Le d w a5 a6∧ixContrib_l1 c list 0 =Out.next (())) ?_ ?_)))))))))))))
 ·refine c_block (c_loop (ι:=Nat × Dat) (fun ⟨a0,a2⟩=>[(0,.slice A1 (list).length c2),(1,.func (.func 285) #[] #[.pointer (some ⟨b_c,0,none⟩)]),(7,.int .i64 (list.length:Int)),(8,.int .i64 (a0:Int))]) (fun ⟨a0,a2⟩ a7=>Inv [] d w a2 [] a7∧Le d w a2 a7∧ixContrib_l1 c list 0 =ixContrib_l1 c (list.drop a0) a0 ∧a0≤list.length) (fun ⟨a0,a2⟩=>list.length - a0) (0,d) (.cons Z (.cons Z (.cons Z (.cons Z (.nil _))))) ⟨hI0,Le.refl _ _,rfl,Nat.zero_le _⟩ ?_)
  rintro ⟨a0,a2⟩ a7 ⟨a8,a3,a9,d1⟩
  refine csr ((g_y (y_lss Z Z) Z Z (gnx ((c_seq (c_cond Z (fun a4=>?_) (fun a4=>?_)))))))
  ·replace a4:=OT a4
   obtain ⟨a1,b0⟩:=has (xs:=list) (k:=a0) (by omega)
   refine c_skip (x_next (c_seq (c_block (csr ((GM Y (GA Y (gnx ((csr ((GM Y (GM Y ?_)))))))))))))
   refine GM Y ?_
   obtain ⟨d2,d3,d4,b7,b8,b9,d5⟩:=Sl.at_ (h_list.mono a3) b0
   obtain ⟨d6,rfl,b4⟩:=b8
   obtain ⟨c0,c1,rfl,d7,d8⟩:=b4.fm
   refine g_y (y_indexAddr (i:=a0) el_23 Z b7 Z (rfl) (by omega)) Z Z (g_y (y_loadA (cs:=[.string a1.name,.int .i64 a1.base,.slice c0 (a1.bands).length c1,.int .i64 a1.pceil,.int .i64 a1.yceil,.int .i64 a1.round]) sh_70 Z (b9.part (f:=0) (.take _ (.take _ (.take _ (.take _ (.take _ (.take _ (.nil _))))))))) Z Z ?_)
   have b5:=contribsEq_c (o:=a1) (c:=c) a8.lt (show contribTy.rel _ _ a1 _ from ⟨_,rfl,b4⟩) (hc_c.mono a3) (show contribTy.rel _ _ c _ from ⟨_,rfl,(hS6.mono a3)⟩)
   obtain ⟨d9,b1⟩:∃ r,contribsEq a1 c=r:=⟨_,rfl⟩
   rw [b1] at b5
   refine g_e (ev_pureC a8 pf_285 Z Z b5) Z Z ?_
   rintro _ e0 ⟨c3,b2,c4,rfl⟩
   refine gnx ((c_cond Z (fun b3=>?_) (fun b3=>?_)))
   ·skip
    refine csr ((GM Y (GA Y (gnx ((c_ret ?_))))))
    have c5:ixContrib_l1 c list 0 =(Out.ret ((a0:Int))):=a9.trans (ET (congrArg (fun l=>ixContrib_l1 c l a0 ) (drop_cons b0)) (ET (BE b1) (ET (cond_t b3) (rfl))))
    have c6:ixContrib list c=(a0:Int):=ET (out_ret c5) (rfl)
    refine x_blockR (x_thenR (x_rndR (x_blockR (x_cutR (x_thenR (x_ret ⟨_,_,rfl,rfl,rfl⟩ ?_))))))
    exact ⟨_,_,rfl,b2.fr,b2.grow,by rw [c6]; exact rfl⟩
   ·skip
    refine c_skip (x_blockN (x_next ?_))
    refine c_region (g_y (y_add Z Z (by omega)) Z Z (GM Y (g_nil (x_round (a0 + 1,c3) (by dsimp only; omega) (.cons Z (.cons Z (.cons Z (.cons Z (.nil _))))) ⟨b2,(a3.t c4),a9.trans (ET (congrArg (fun l=>ixContrib_l1 c l a0 ) (drop_cons b0)) (ET (BE b1) (ET (cond_f b3) (rfl)))),by omega⟩))))
  ·replace a4:=OF a4
   refine c_exit (x_thenE (x_rndE (x_blockE (x_cut (a2) (.nil _) ⟨a8,a3,a9.trans (ET (congrArg (fun l=>ixContrib_l1 c l a0 ) (drop_nil (by omega))) (rfl))⟩))))
 ·rintro a5 a6 ⟨b6,e1,c7⟩
  refine x_next (csr ((GA Y (gnx ((c_ret ?_))))))
  have c9:ixContrib list c=(-1):=ET (out_next c7) (rfl)
  refine x_ret ⟨_,_,rfl,rfl,rfl⟩ (⟨_,_,rfl,b6.fr,b6.grow,by rw [c9]; exact rfl⟩)
def hasContrib (list:(List Contrib)) (c:Contrib):Bool:=
 (bnd (ixContrib list c) fun a0=>
 (decide (0≤a0)))
theorem hasContrib_c {list:(List Contrib)} {v_list:Value} {c:Contrib} {b_c:Nat} {cs_c:List Value} {d:Dat} {w:World} (hd:∀ b,d b→b < w.heap.size) (h_list:Sl contribTy d w v_list list) (hc_c:Cel d w b_c 0 cs_c) (h_c:contribTy.rel d w c cs_c):Ret Tryz.prog 284 [v_list,.func (.func 285) #[] #[.pointer (some ⟨b_c,0,none⟩)]] w [] d (fun u d' w'=>u=.bool ((hasContrib list c))):=by
 obtain ⟨A1,c2,rfl,hn3,hb4⟩:=h_list.fm
 obtain ⟨v5,rfl,hS6⟩:=h_c
 obtain ⟨A7,c8,rfl,hn9,a5⟩:=hS6.fm
 refine ret_enter (n:=9) Tryz.func284 Z Z (ble Z) ?_
 have hI0:=Inv.start hd
 refine csr ((GA Y (gnx ((csr ((GM Y (GM Y ?_))))))))
 have a0:=ixContrib_c (list:=list) (c:=c) hI0.lt h_list hc_c (show contribTy.rel _ _ c _ from ⟨_,rfl,hS6⟩)
 obtain ⟨a3,a1⟩:∃ r,ixContrib list c=r:=⟨_,rfl⟩
 rw [a1] at a0
 refine g_e (ev_pure hI0 pf_311 Z a0) Z Z ?_
 rintro _ a6 ⟨a7,a2,a8,rfl⟩
 refine g_y (y_geq Z Z) Z Z (GA Y (gnx ((c_ret ?_))))
 have a4:hasContrib list c=(decide (0≤a3)):=ET (BE a1) (rfl)
 refine x_ret ⟨_,_,rfl,rfl,rfl⟩ (⟨_,_,rfl,a2.fr,a2.grow,by rw [a4]; exact rfl⟩)
def tcontribs_m1 (a0:Contrib):Bool:=
 (if (a0.base≠1) then (if (a0.base≠2) then (decide (a0.base≠2))
 else (bnd (fMode a0.round) fun a1=>
 (!a1)))
 else (bnd (fMode a0.round) fun a2=>
 (!a2)))
def tcontribs_l1 (t:Table):List Contrib→Nat→Out (Unit) (Int)
 | [],a1=>(Out.next (()))
 | a0 :: tl1,a1=>(bnd (wName a0.name) fun a3=>
 (cond a3 ((bnd (hasContrib ((t.contribs.take a1)) a0) fun a4=>
 (cond a4 ((Out.ret 4))
 ((bnd (tcontribs_m1 a0) fun a5=>
 (cond a5 ((Out.ret 1))
 ((if (a0.pceil < 0) then (Out.ret 1)
 else (if (100000000000 < a0.pceil) then (Out.ret 1)
 else (if (a0.yceil < 0) then (Out.ret 1)
 else (if (100000000000 < a0.yceil) then (Out.ret 1)
 else (bnd (bCheck a0.bands) fun a2=>
 (if (a2≠0) then (Out.ret a2)
 else (tcontribs_l1 t tl1 (a1 + 1) ))))))))))))))
 ((Out.ret 5))))
def tcontribs (t:Table):Int:=
 (if (6 < (t.contribs.length:Int)) then 2
 else (out (tcontribs_l1 t t.contribs 0 ) fun _=>
 0))
theorem tcontribs_c {t:Table} {cs_t:List Value} {d:Dat} {w:World} (hd:∀ b,d b→b < w.heap.size) (h_t:tableTy.rel d w t cs_t):Ret Tryz.prog 247 [.agg cs_t.toArray] w [] d (fun u d' w'=>u=.int .i64 ((tcontribs t))):=by
 obtain ⟨v1,v2,v3,rfl,hS4,hS5,hS6⟩:=h_t
 obtain ⟨A7,c8,rfl,hn9,k2⟩:=hS4.fm
 obtain ⟨c4,c5,rfl,k3,k4⟩:=hS5.fm
 obtain ⟨d9,e0,rfl,k5,k6⟩:=hS6.fm
 refine ret_enter (n:=69) Tryz.func247 Z Z (ble Z) ?_
 have hI0:=Inv.start hd
 refine csr ((g_e (ev_box hI0 Z) Z Z ?_))
 rintro _ e9 ⟨c6,rfl,c7,e1⟩
 refine GA Y (gnx ((c_seq (csr ((gfa fo_26_1 Z Z Z (gld sh_23 Z c7 m0 (i:=1) Z Z Z (gln el_23 Z Z Z (g_y (y_gtr Z Z) Z Z (gnx ((c_cond Z (fun a2=>?_) (fun a2=>?_)))))))))))))
 ·replace a2:=OT a2
  refine csr ((GA Y (gnx ((c_ret ?_)))))
  have g2:tcontribs t=2:=ET (IP a2) (rfl)
  refine x_thenR (x_ret ⟨_,_,rfl,rfl,rfl⟩ ?_)
  exact ⟨_,_,rfl,c7.fr,c7.grow,by rw [g2]; exact rfl⟩
 ·replace a2:=OF a2
  refine c_skip (x_next (c_seq (csr ((gfa fo_26_1 Z Z Z (gld sh_23 Z c7 m0 (i:=1) Z Z Z (gln el_23 Z Z Z (GM Y (gnx ((c_cut1 (ι:=Dat) (fun d4=>[]) (fun d4 e2=>Inv [] d w d4 [blk c6 26 [.slice A7 (t.schemes).length c8,.slice c4 (t.contribs).length c5,.slice d9 (t.kinds).length e0,.int .i64 t.limit,.int .i64 t.round]] e2∧Le d e9 d4 e2∧tcontribs_l1 t t.contribs 0 =Out.next (())) ?_ ?_)))))))))))
  ·refine c_block (c_loop (ι:=Nat × Dat) (fun ⟨a0,c3⟩=>[(1,.pointer (some ⟨c6,0,none⟩)),(11,.slice c4 (t.contribs).length c5),(12,.int .i64 (t.contribs.length:Int)),(13,.int .i64 (a0:Int))]) (fun ⟨a0,c3⟩ e3=>Inv [] d w c3 [blk c6 26 [.slice A7 (t.schemes).length c8,.slice c4 (t.contribs).length c5,.slice d9 (t.kinds).length e0,.int .i64 t.limit,.int .i64 t.round]] e3∧Le d e9 c3 e3∧tcontribs_l1 t t.contribs 0 =tcontribs_l1 t (t.contribs.drop a0) a0 ∧a0≤t.contribs.length) (fun ⟨a0,c3⟩=>t.contribs.length - a0) (0,d) (.cons Z (.cons Z (.cons Z (.cons Z (.nil _))))) ⟨c7,Le.refl _ _,rfl,Nat.zero_le _⟩ ?_)
   rintro ⟨a0,c3⟩ e3 ⟨f0,c9,a7,k7⟩
   refine csr ((g_y (y_lss Z Z) Z Z (gnx ((c_seq (c_cond Z (fun d0=>?_) (fun d0=>?_)))))))
   ·replace d0:=OT d0
    obtain ⟨a1,a8⟩:=has (xs:=t.contribs) (k:=a0) (by omega)
    refine c_skip (x_next (c_seq (c_block (csr ((GM Y ?_))))))
    obtain ⟨k8,k9,l0,g3,g4,g5,l1⟩:=Sl.at_ (hS5.mono (e1.t c9)) a8
    obtain ⟨l2,rfl,e4⟩:=g4
    obtain ⟨g6,g7,rfl,l3,l4⟩:=e4.fm
    refine g_y (y_indexAddr (i:=a0) el_23 Z g3 Z (rfl) (by omega)) Z Z (g_y (y_loadA (cs:=[.string a1.name,.int .i64 a1.base,.slice g6 (a1.bands).length g7,.int .i64 a1.pceil,.int .i64 a1.yceil,.int .i64 a1.round]) sh_70 Z (g5.part (f:=0) (.take _ (.take _ (.take _ (.take _ (.take _ (.take _ (.nil _))))))))) Z Z (g_e (ev_alloc f0 ze_70) Z Z ?_))
    rintro _ l5 ⟨g8,rfl,g9,d1⟩
    refine GA Y (g_e (ev_store g9 Z Z Z sz_70 Z (.here _ _ (.here _ _ (.here _ _ (.here _ _ (.here _ _ (.here _ _ (.nil _))))))) (.hd _)) Z Z ?_)
    rintro _ l6 ⟨e5,d2⟩
    refine gnx ((c_seq (c_block (csr ((gfa fo_70_0 Z Z Z (gld sh_9 Z e5 m0 (i:=0) Z Z Z ?_)))))))
    have f1:=wName_c (s:=a1.name) e5.lt
    obtain ⟨l7,a9⟩:∃ r,wName a1.name=r:=⟨_,rfl⟩
    rw [a9] at f1
    refine g_e (ev_pure e5 pf_251 Z f1) Z Z ?_
    rintro _ l8 ⟨l9,d5,d3,rfl⟩
    refine g_y (y_not Z) Z Z (GA Y (gnx ((c_cond Z (fun a3=>?_) (fun a3=>?_)))))
    ·replace a3:=not_t a3
     refine csr ((GA Y (gnx ((c_ret ?_)))))
     have h0:tcontribs_l1 t t.contribs 0 =(Out.ret 5):=a7.trans (ET (congrArg (fun l=>tcontribs_l1 t l a0 ) (drop_cons a8)) (ET (BE a9) (ET (cond_f a3) (rfl))))
     have h1:tcontribs t=5:=ET (IN a2) (ET (out_ret h0) (rfl))
     refine x_blockR (x_thenR (x_blockR (x_thenR (x_rndR (x_blockR (x_cutR (x_thenR (x_ret ⟨_,_,rfl,rfl,rfl⟩ ?_))))))))
     exact ⟨_,_,rfl,d5.fr,d5.grow,by rw [h1]; exact rfl⟩
    ·replace a3:=not_f a3
     refine csr ((gfa fo_26_1 Z Z Z (gld sh_23 Z d5 m1 (i:=1) Z Z Z (GM Y ?_))))
     have h2:(t.contribs.take a0).length=a0:=by rw [List.length_take]; omega
     have h3:=Sl.take (hS5.mono ((((e1.t c9).t d1).t d2).t d3)) (i:=a0) (by omega)
     have h4:=(hS5.mono ((((e1.t c9).t d1).t d2).t d3)).len.2; unfold big at h4
     refine g_y (y_slice_toL (i:=a0) el_23 Z Z (rfl) (by omega) h2) Z Z ?_
     obtain ⟨m6,f2,d6,b0⟩:=pub_blk d5 (.hd _) (by simp)
     refine g_y (y_makeFunc Z) Z Z ?_
     have f3:=hasContrib_c (list:=(t.contribs.take a0)) (c:=a1) f2.lt (h3.mono d6) b0 (show contribTy.rel _ _ a1 _ from ⟨_,rfl,(e4.mono (((d1.t d2).t d3).t d6))⟩)
     obtain ⟨m7,b2⟩:∃ r,hasContrib ((t.contribs.take a0)) a1=r:=⟨_,rfl⟩
     rw [b2] at f3
     refine g_e (ev_pure f2 pf_284 Z f3) Z Z ?_
     rintro _ h5 ⟨f4,b8,a5,rfl⟩
     refine GA Y (gnx ((c_cond Z (fun b3=>?_) (fun b3=>?_))))
     ·skip
      refine csr ((GA Y (gnx ((c_ret ?_)))))
      have h6:tcontribs_l1 t t.contribs 0 =(Out.ret 4):=a7.trans (ET (congrArg (fun l=>tcontribs_l1 t l a0 ) (drop_cons a8)) (ET (BE a9) (ET (cond_t a3) (ET (BE b2) (ET (cond_t b3) (rfl))))))
      have h7:tcontribs t=4:=ET (IN a2) (ET (out_ret h6) (rfl))
      refine x_blockR (x_thenR (x_blockR (x_thenR (x_rndR (x_blockR (x_cutR (x_thenR (x_ret ⟨_,_,rfl,rfl,rfl⟩ ?_))))))))
      exact ⟨_,_,rfl,b8.fr,b8.grow,by rw [h7]; exact rfl⟩
     ·skip
      refine c_cut (ι:=Bool × Dat) (fun ⟨d7,d8⟩=>[(1,.pointer (some ⟨c6,0,none⟩)),(4,.pointer (some ⟨g8,0,none⟩)),(11,.slice c4 (t.contribs).length c5),(12,.int .i64 (t.contribs.length:Int)),(13,.int .i64 (a0:Int)),(30,.bool d7)]) (fun ⟨d7,d8⟩ e6=>Inv [] d w d8 [blk c6 26 [.slice A7 (t.schemes).length c8,.slice c4 (t.contribs).length c5,.slice d9 (t.kinds).length e0,.int .i64 t.limit,.int .i64 t.round]] e6∧Le f4 h5 d8 e6∧tcontribs_m1 a1=d7) ?_ ?_
      ·refine csr ((gfa fo_70_1 Z Z Z (g_y (y_load1 sh_3 Z ((b0.mono a5).cells.nth_ (i:=1) Z)) Z Z (g_y (y_neq Z Z) Z Z (GM Y (g_split (t:=34) Z (fun b5=>?_) (fun b5=>?_)))))))
       ·replace b5:=OT b5
        refine gfa fo_70_1 Z Z Z (g_y (y_load1 sh_3 Z ((b0.mono a5).cells.nth_ (i:=1) Z)) Z Z (g_y (y_neq Z Z) Z Z (g_y (y_pickT Z Z) Z Z (GA Y (gnx ((c_cond Z (fun b9=>?_) (fun b9=>?_))))))))
        ·replace b9:=OT b9
         refine c_skip (x_cut ((decide (a1.base≠2)),f4) (.cons Z (.cons Z (.cons Z (.cons Z (.cons Z (.cons Z (.nil _))))))) ⟨b8,(Le.refl _ _),ET (IP b5) (ET (IP b9) (rfl))⟩)
        ·replace b9:=OF b9
         refine c_region (gfa fo_70_5 Z Z Z (g_y (y_load1 sh_3 Z ((b0.mono a5).cells.nth_ (i:=5) Z)) Z Z ?_))
         have f5:=fMode_c (mode:=a1.round) b8.lt
         obtain ⟨h8,f6⟩:∃ r,fMode a1.round=r:=⟨_,rfl⟩
         rw [f6] at f5
         refine g_e (ev_pure b8 pf_245 Z f5) Z Z ?_
         rintro _ m8 ⟨h9,i0,i1,rfl⟩
         refine g_y (y_not Z) Z Z (GA Y (g_nil (x_cut ((!h8),h9) (.cons Z (.cons Z (.cons Z (.cons Z (.cons Z (.cons Z (.nil _))))))) ⟨i0,i1,ET (IP b5) (ET (IN b9) (ET (BE f6) (rfl)))⟩)))
       ·replace b5:=OF b5
        refine gsk Z Z (gsk Z Z (gsk Z Z (g_y (y_pickF Z Z) Z Z (GA Y (gnx ((c_condF Z (c_region (gfa fo_70_5 Z Z Z (g_y (y_load1 sh_3 Z ((b0.mono a5).cells.nth_ (i:=5) Z)) Z Z ?_))))))))))
        have f7:=fMode_c (mode:=a1.round) b8.lt
        obtain ⟨i2,f8⟩:∃ r,fMode a1.round=r:=⟨_,rfl⟩
        rw [f8] at f7
        refine g_e (ev_pure b8 pf_245 Z f7) Z Z ?_
        rintro _ m9 ⟨i3,i4,i5,rfl⟩
        refine g_y (y_not Z) Z Z (GA Y (g_nil (x_cut ((!i2),i3) (.cons Z (.cons Z (.cons Z (.cons Z (.cons Z (.cons Z (.nil _))))))) ⟨i4,i5,ET (IN b5) (ET (BE f8) (rfl))⟩)))
      ·rintro ⟨d7,d8⟩ e6 ⟨a4,c0,c1⟩
       refine c_cond Z (fun b6=>?_) (fun b6=>?_)
       ·skip
        refine csr ((GA Y (gnx ((c_ret ?_)))))
        have i6:tcontribs_l1 t t.contribs 0 =(Out.ret 1):=a7.trans (ET (congrArg (fun l=>tcontribs_l1 t l a0 ) (drop_cons a8)) (ET (BE a9) (ET (cond_t a3) (ET (BE b2) (ET (cond_f b3) (ET (BE c1) (ET (cond_t b6) (rfl))))))))
        have i7:tcontribs t=1:=ET (IN a2) (ET (out_ret i6) (rfl))
        refine x_blockR (x_thenR (x_blockR (x_thenR (x_rndR (x_blockR (x_cutR (x_thenR (x_ret ⟨_,_,rfl,rfl,rfl⟩ ?_))))))))
        exact ⟨_,_,rfl,a4.fr,a4.grow,by rw [i7]; exact rfl⟩
       ·skip
        refine csr ((gfa fo_70_3 Z Z Z (g_y (y_load1 sh_2 Z ((b0.mono (a5.t c0)).cells.nth_ (i:=3) Z)) Z Z (g_y (y_lss Z Z) Z Z (GM Y (g_split (t:=47) Z (fun a6=>?_) (fun a6=>?_)))))))
        ·replace a6:=OT a6
         refine gsk Z Z (gsk Z Z (gsk Z Z (g_y (y_pickT Z Z) Z Z (GM Y (gsk Z Z (gsk Z Z (gsk Z Z (g_y (y_pickT Z Z) Z Z (GM Y (gsk Z Z (gsk Z Z (gsk Z Z (g_y (y_pickT Z Z) Z Z ?_)))))))))))))
         refine GA Y (gnx ((c_condT Z (csr ((GA Y (gnx ((c_ret ?_)))))))))
         have i8:tcontribs_l1 t t.contribs 0 =(Out.ret 1):=a7.trans (ET (congrArg (fun l=>tcontribs_l1 t l a0 ) (drop_cons a8)) (ET (BE a9) (ET (cond_t a3) (ET (BE b2) (ET (cond_f b3) (ET (BE c1) (ET (cond_f b6) (ET (IP a6) (rfl)))))))))
         have i9:tcontribs t=1:=ET (IN a2) (ET (out_ret i8) (rfl))
         refine x_blockR (x_thenR (x_blockR (x_thenR (x_rndR (x_blockR (x_cutR (x_thenR (x_ret ⟨_,_,rfl,rfl,rfl⟩ ?_))))))))
         exact ⟨_,_,rfl,a4.fr,a4.grow,by rw [i9]; exact rfl⟩
        ·replace a6:=OF a6
         refine gfa fo_70_3 Z Z Z (g_y (y_load1 sh_2 Z ((b0.mono (a5.t c0)).cells.nth_ (i:=3) Z)) Z Z (g_y (y_gtr Z Z) Z Z (g_y (y_pickF Z Z) Z Z (GM Y (g_split (t:=52) Z (fun b1=>?_) (fun b1=>?_))))))
         ·replace b1:=OT b1
          refine gsk Z Z (gsk Z Z (gsk Z Z (g_y (y_pickT Z Z) Z Z (GM Y (gsk Z Z (gsk Z Z (gsk Z Z (g_y (y_pickT Z Z) Z Z (GA Y (gnx ((c_condT Z (c_seq ?_)))))))))))))
          refine c_region (GA Y (gnx ((c_ret ?_))))
          have j0:tcontribs_l1 t t.contribs 0 =(Out.ret 1):=a7.trans (ET (congrArg (fun l=>tcontribs_l1 t l a0 ) (drop_cons a8)) (ET (BE a9) (ET (cond_t a3) (ET (BE b2) (ET (cond_f b3) (ET (BE c1) (ET (cond_f b6) (ET (IN a6) (ET (IP b1) (rfl))))))))))
          have j1:tcontribs t=1:=ET (IN a2) (ET (out_ret j0) (rfl))
          refine x_blockR (x_thenR (x_blockR (x_thenR (x_rndR (x_blockR (x_cutR (x_thenR (x_ret ⟨_,_,rfl,rfl,rfl⟩ ?_))))))))
          exact ⟨_,_,rfl,a4.fr,a4.grow,by rw [j1]; exact rfl⟩
         ·replace b1:=OF b1
          refine gfa fo_70_4 Z Z Z (g_y (y_load1 sh_2 Z ((b0.mono (a5.t c0)).cells.nth_ (i:=4) Z)) Z Z (g_y (y_lss Z Z) Z Z (g_y (y_pickF Z Z) Z Z (GM Y (g_split (t:=57) Z (fun b4=>?_) (fun b4=>?_))))))
          ·replace b4:=OT b4
           refine gsk Z Z (gsk Z Z (gsk Z Z (g_y (y_pickT Z Z) Z Z (GA Y (gnx ((c_condT Z (csr ((GA Y (gnx ((c_ret ?_)))))))))))))
           have j2:tcontribs_l1 t t.contribs 0 =(Out.ret 1):=a7.trans (ET (congrArg (fun l=>tcontribs_l1 t l a0 ) (drop_cons a8)) (ET (BE a9) (ET (cond_t a3) (ET (BE b2) (ET (cond_f b3) (ET (BE c1) (ET (cond_f b6) (ET (IN a6) (ET (IN b1) (ET (IP b4) (rfl)))))))))))
           have j3:tcontribs t=1:=ET (IN a2) (ET (out_ret j2) (rfl))
           refine x_blockR (x_thenR (x_blockR (x_thenR (x_rndR (x_blockR (x_cutR (x_thenR (x_ret ⟨_,_,rfl,rfl,rfl⟩ ?_))))))))
           exact ⟨_,_,rfl,a4.fr,a4.grow,by rw [j3]; exact rfl⟩
          ·replace b4:=OF b4
           refine gfa fo_70_4 Z Z Z (g_y (y_load1 sh_2 Z ((b0.mono (a5.t c0)).cells.nth_ (i:=4) Z)) Z Z (g_y (y_gtr Z Z) Z Z (g_y (y_pickF Z Z) Z Z (GA Y (gnx ((c_cond Z (fun b7=>?_) (fun b7=>?_))))))))
           ·replace b7:=OT b7
            refine csr ((GA Y (gnx ((c_ret ?_)))))
            have j4:tcontribs_l1 t t.contribs 0 =(Out.ret 1):=a7.trans (ET (congrArg (fun l=>tcontribs_l1 t l a0 ) (drop_cons a8)) (ET (BE a9) (ET (cond_t a3) (ET (BE b2) (ET (cond_f b3) (ET (BE c1) (ET (cond_f b6) (ET (IN a6) (ET (IN b1) (ET (IN b4) (ET (IP b7) (rfl))))))))))))
            have j5:tcontribs t=1:=ET (IN a2) (ET (out_ret j4) (rfl))
            refine x_blockR (x_thenR (x_blockR (x_thenR (x_rndR (x_blockR (x_cutR (x_thenR (x_ret ⟨_,_,rfl,rfl,rfl⟩ ?_))))))))
            exact ⟨_,_,rfl,a4.fr,a4.grow,by rw [j5]; exact rfl⟩
           ·replace b7:=OF b7
            refine c_skip (x_blockN (x_next ?_))
            refine csr ((gfa fo_70_2 Z Z Z (g_y (y_load1 sh_34 Z ((b0.mono (a5.t c0)).cells.nth_ (i:=2) Z)) Z Z ?_)))
            have f9:=bCheck_c (list:=a1.bands) a4.lt (e4.mono (((((d1.t d2).t d3).t d6).t a5).t c0))
            obtain ⟨g0,e7⟩:∃ r,bCheck a1.bands=r:=⟨_,rfl⟩
            rw [e7] at f9
            refine g_e (ev_pure a4 pf_283 Z f9) Z Z ?_
            rintro _ n0 ⟨j6,e8,j7,rfl⟩
            refine GA Y (gnx ((csr ((GM Y (g_y (y_neq Z Z) Z Z (gnx ((c_cond Z (fun c2=>?_) (fun c2=>?_))))))))))
            ·replace c2:=OT c2
             refine csr ((GM Y (GA Y (gnx ((c_ret ?_))))))
             have j8:tcontribs_l1 t t.contribs 0 =(Out.ret g0):=a7.trans (ET (congrArg (fun l=>tcontribs_l1 t l a0 ) (drop_cons a8)) (ET (BE a9) (ET (cond_t a3) (ET (BE b2) (ET (cond_f b3) (ET (BE c1) (ET (cond_f b6) (ET (IN a6) (ET (IN b1) (ET (IN b4) (ET (IN b7) (ET (BE e7) (ET (IP c2) (rfl))))))))))))))
             have j9:tcontribs t=g0:=ET (IN a2) (ET (out_ret j8) (rfl))
             refine x_blockR (x_thenR (x_rndR (x_blockR (x_cutR (x_thenR (x_ret ⟨_,_,rfl,rfl,rfl⟩ ?_))))))
             exact ⟨_,_,rfl,e8.fr,e8.grow,by rw [j9]; exact rfl⟩
            ·replace c2:=OF c2
             refine c_skip (x_blockN (x_next ?_))
             refine c_region (g_y (y_add Z Z (by omega)) Z Z (GM Y (g_nil (x_round (a0 + 1,j6) (by dsimp only; omega) (.cons Z (.cons Z (.cons Z (.cons Z (.nil _))))) ⟨e8,(((((((c9.t d1).t d2).t d3).t d6).t a5).t c0).t j7),a7.trans (ET (congrArg (fun l=>tcontribs_l1 t l a0 ) (drop_cons a8)) (ET (BE a9) (ET (cond_t a3) (ET (BE b2) (ET (cond_f b3) (ET (BE c1) (ET (cond_f b6) (ET (IN a6) (ET (IN b1) (ET (IN b4) (ET (IN b7) (ET (BE e7) (ET (IN c2) (rfl)))))))))))))),by omega⟩))))
   ·replace d0:=OF d0
    refine c_exit (x_thenE (x_rndE (x_blockE (x_cut (c3) (.nil _) ⟨f0,c9,a7.trans (ET (congrArg (fun l=>tcontribs_l1 t l a0 ) (drop_nil (by omega))) (rfl))⟩))))
  ·rintro d4 e2 ⟨g1,n1,k0⟩
   refine x_next (csr ((GA Y (gnx ((c_ret ?_))))))
   have k1:tcontribs t=0:=ET (IN a2) (ET (out_next k0) (rfl))
   refine x_ret ⟨_,_,rfl,rfl,rfl⟩ (⟨_,_,rfl,g1.fr,g1.grow,by rw [k1]; exact rfl⟩)
def kindsEq (o:Kind) (k:Kind):Bool:=
 (decide (o.name=k.name))
theorem kindsEq_c {o:Kind} {k:Kind} {b_k:Nat} {cs_k:List Value} {d:Dat} {w:World} (hd:∀ b,d b→b < w.heap.size) (hc_k:Cel d w b_k 0 cs_k) (h_k:kindTy.rel d w k cs_k):Ret Tryz.prog 287 [.agg #[.string o.name,.int .i64 o.cash,.int .i64 o.taxable,.int .i64 o.social],.pointer (some ⟨b_k,0,none⟩)] w [] d (fun u d' w'=>u=.bool ((kindsEq o k))):=by
 obtain rfl:=h_k
 refine ret_enter (n:=9) Tryz.func287 Z Z (ble Z) ?_
 have hI0:=Inv.start hd
 refine csr ((g_e (ev_box hI0 Z) Z Z ?_))
 rintro _ w1 ⟨b4,rfl,hI2,hle3⟩
 refine GA Y (gnx ((csr ((gfa fo_36_0 Z Z Z (gld sh_9 Z hI2 m0 (i:=0) Z Z Z (gfa fo_36_0 Z Z Z (g_y (y_load1 sh_9 Z ((hc_k.mono hle3).cells.nth_ (i:=0) Z)) Z Z (g_y (y_strEq Z Z) Z Z (GA Y (gnx ((c_ret ?_)))))))))))))
 have hF5:kindsEq o k=(decide (o.name=k.name)):=rfl
 refine x_ret ⟨_,_,rfl,rfl,rfl⟩ (⟨_,_,rfl,hI2.fr,hI2.grow,by rw [hF5]; exact rfl⟩)
def ixKind_l1 (k:Kind):List Kind→Nat→Out (Unit) (Int)
 | [],a0=>(Out.next (()))
 | a1 :: tl1,a0=>(bnd (kindsEq a1 k) fun a2=>
 (cond a2 ((Out.ret ((a0:Int))))
 ((ixKind_l1 k tl1 (a0 + 1) ))))
def ixKind (list:(List Kind)) (k:Kind):Int:=
 (out (ixKind_l1 k list 0 ) fun _=>
 (-1))
theorem ixKind_c {list:(List Kind)} {v_list:Value} {k:Kind} {b_k:Nat} {cs_k:List Value} {d:Dat} {w:World} (hd:∀ b,d b→b < w.heap.size) (h_list:Sl kindTy d w v_list list) (hc_k:Cel d w b_k 0 cs_k) (h_k:kindTy.rel d w k cs_k):Ret Tryz.prog 312 [v_list,.func (.func 287) #[] #[.pointer (some ⟨b_k,0,none⟩)]] w [] d (fun u d' w'=>u=.int .i64 ((ixKind list k))):=by
 obtain ⟨A1,c2,rfl,hn3,hb4⟩:=h_list.fm
 obtain rfl:=h_k
 refine ret_enter (n:=19) Tryz.func312 Z Z (ble Z) ?_
 have hI0:=Inv.start hd
 refine csr ((GA Y (gnx ((c_seq (csr ((GM Y (gln el_24 Z Z Z (GM Y (gnx ((c_cut1 (ι:=Dat) (fun a4=>[]) (fun a4 a6=>Inv [] d w a4 [] a6∧Le d w a4 a6∧ixKind_l1 k list 0 =Out.next (())) ?_ ?_)))))))))))))
 ·refine c_block (c_loop (ι:=Nat × Dat) (fun ⟨a0,a1⟩=>[(0,.slice A1 (list).length c2),(1,.func (.func 287) #[] #[.pointer (some ⟨b_k,0,none⟩)]),(7,.int .i64 (list.length:Int)),(8,.int .i64 (a0:Int))]) (fun ⟨a0,a1⟩ a7=>Inv [] d w a1 [] a7∧Le d w a1 a7∧ixKind_l1 k list 0 =ixKind_l1 k (list.drop a0) a0 ∧a0≤list.length) (fun ⟨a0,a1⟩=>list.length - a0) (0,d) (.cons Z (.cons Z (.cons Z (.cons Z (.nil _))))) ⟨hI0,Le.refl _ _,rfl,Nat.zero_le _⟩ ?_)
  rintro ⟨a0,a1⟩ a7 ⟨a8,a5,a9,c6⟩
  refine csr ((g_y (y_lss Z Z) Z Z (gnx ((c_seq (c_cond Z (fun a3=>?_) (fun a3=>?_)))))))
  ·replace a3:=OT a3
   obtain ⟨a2,b0⟩:=has (xs:=list) (k:=a0) (by omega)
   refine c_skip (x_next (c_seq (c_block (csr ((GM Y (GA Y (gnx ((csr ((GM Y (GM Y ?_)))))))))))))
   refine GM Y ?_
   obtain ⟨c7,c8,c9,b6,b7,b8,d0⟩:=Sl.at_ (h_list.mono a5) b0
   obtain rfl:=b7
   refine g_y (y_indexAddr (i:=a0) el_24 Z b6 Z (rfl) (by omega)) Z Z (g_y (y_loadA (cs:=[.string a2.name,.int .i64 a2.cash,.int .i64 a2.taxable,.int .i64 a2.social]) sh_36 Z (b8.part (f:=0) (.take _ (.take _ (.take _ (.take _ (.nil _))))))) Z Z ?_)
   have b4:=kindsEq_c (o:=a2) (k:=k) a8.lt (hc_k.mono a5) (show kindTy.rel _ _ k _ from rfl)
   obtain ⟨d1,b1⟩:∃ r,kindsEq a2 k=r:=⟨_,rfl⟩
   rw [b1] at b4
   refine g_e (ev_pureC a8 pf_287 Z Z b4) Z Z ?_
   rintro _ d2 ⟨b9,b2,c0,rfl⟩
   refine gnx ((c_cond Z (fun b3=>?_) (fun b3=>?_)))
   ·skip
    refine csr ((GM Y (GA Y (gnx ((c_ret ?_))))))
    have c1:ixKind_l1 k list 0 =(Out.ret ((a0:Int))):=a9.trans (ET (congrArg (fun l=>ixKind_l1 k l a0 ) (drop_cons b0)) (ET (BE b1) (ET (cond_t b3) (rfl))))
    have c3:ixKind list k=(a0:Int):=ET (out_ret c1) (rfl)
    refine x_blockR (x_thenR (x_rndR (x_blockR (x_cutR (x_thenR (x_ret ⟨_,_,rfl,rfl,rfl⟩ ?_))))))
    exact ⟨_,_,rfl,b2.fr,b2.grow,by rw [c3]; exact rfl⟩
   ·skip
    refine c_skip (x_blockN (x_next ?_))
    refine c_region (g_y (y_add Z Z (by omega)) Z Z (GM Y (g_nil (x_round (a0 + 1,b9) (by dsimp only; omega) (.cons Z (.cons Z (.cons Z (.cons Z (.nil _))))) ⟨b2,(a5.t c0),a9.trans (ET (congrArg (fun l=>ixKind_l1 k l a0 ) (drop_cons b0)) (ET (BE b1) (ET (cond_f b3) (rfl)))),by omega⟩))))
  ·replace a3:=OF a3
   refine c_exit (x_thenE (x_rndE (x_blockE (x_cut (a1) (.nil _) ⟨a8,a5,a9.trans (ET (congrArg (fun l=>ixKind_l1 k l a0 ) (drop_nil (by omega))) (rfl))⟩))))
 ·rintro a4 a6 ⟨b5,d3,c4⟩
  refine x_next (csr ((GA Y (gnx ((c_ret ?_))))))
  have c5:ixKind list k=(-1):=ET (out_next c4) (rfl)
  refine x_ret ⟨_,_,rfl,rfl,rfl⟩ (⟨_,_,rfl,b5.fr,b5.grow,by rw [c5]; exact rfl⟩)
def hasKind (list:(List Kind)) (k:Kind):Bool:=
 (bnd (ixKind list k) fun r6=>
 (decide (0≤r6)))
theorem hasKind_c {list:(List Kind)} {v_list:Value} {k:Kind} {b_k:Nat} {cs_k:List Value} {d:Dat} {w:World} (hd:∀ b,d b→b < w.heap.size) (h_list:Sl kindTy d w v_list list) (hc_k:Cel d w b_k 0 cs_k) (h_k:kindTy.rel d w k cs_k):Ret Tryz.prog 286 [v_list,.func (.func 287) #[] #[.pointer (some ⟨b_k,0,none⟩)]] w [] d (fun u d' w'=>u=.bool ((hasKind list k))):=by
 obtain ⟨A1,c2,rfl,hn3,hb4⟩:=h_list.fm
 obtain rfl:=h_k
 refine ret_enter (n:=9) Tryz.func286 Z Z (ble Z) ?_
 have hI0:=Inv.start hd
 refine csr ((GA Y (gnx ((csr ((GM Y (GM Y ?_))))))))
 have hq5:=ixKind_c (list:=list) (k:=k) hI0.lt h_list hc_k (show kindTy.rel _ _ k _ from rfl)
 obtain ⟨r6,hr7⟩:∃ r,ixKind list k=r:=⟨_,rfl⟩
 rw [hr7] at hq5
 refine g_e (ev_pure hI0 pf_312 Z hq5) Z Z ?_
 rintro _ w9 ⟨d8,a0,a2,rfl⟩
 refine g_y (y_geq Z Z) Z Z (GA Y (gnx ((c_ret ?_))))
 have a1:hasKind list k=(decide (0≤r6)):=ET (BE hr7) (rfl)
 refine x_ret ⟨_,_,rfl,rfl,rfl⟩ (⟨_,_,rfl,a0.fr,a0.grow,by rw [a1]; exact rfl⟩)
def tkinds_l1 (t:Table):List Kind→Nat→Out (Unit) (Int)
 | [],a1=>(Out.next (()))
 | a0 :: tl1,a1=>(bnd (wName a0.name) fun a2=>
 (cond a2 ((bnd (hasKind ((t.kinds.take a1)) a0) fun a3=>
 (cond a3 ((Out.ret 4))
 ((bnd (tsign a0.cash) fun a4=>
 (cond a4 ((bnd (tsign a0.taxable) fun a5=>
 (cond a5 ((bnd (tsign a0.social) fun a6=>
 (cond a6 ((tkinds_l1 t tl1 (a1 + 1) ))
 ((Out.ret 1)))))
 ((Out.ret 1)))))
 ((Out.ret 1))))))))
 ((Out.ret 5))))
def tkinds (t:Table):Int:=
 (if ((t.kinds.length:Int)=0) then 2
 else (if (12 < (t.kinds.length:Int)) then 2
 else (out (tkinds_l1 t t.kinds 0 ) fun _=>
 0)))
theorem tkinds_c {t:Table} {cs_t:List Value} {d:Dat} {w:World} (hd:∀ b,d b→b < w.heap.size) (h_t:tableTy.rel d w t cs_t):Ret Tryz.prog 248 [.agg cs_t.toArray] w [] d (fun u d' w'=>u=.int .i64 ((tkinds t))):=by
 obtain ⟨v1,v2,v3,rfl,hS4,hS5,hS6⟩:=h_t
 obtain ⟨A7,c8,rfl,hn9,h6⟩:=hS4.fm
 obtain ⟨e0,e1,rfl,h7,h8⟩:=hS5.fm
 obtain ⟨c6,c7,rfl,h9,i0⟩:=hS6.fm
 refine ret_enter (n:=53) Tryz.func248 Z Z (ble Z) ?_
 have hI0:=Inv.start hd
 refine csr ((g_e (ev_box hI0 Z) Z Z ?_))
 rintro _ e2 ⟨c9,rfl,a6,d0⟩
 refine GA Y (gnx ((c_seq (csr ((gfa fo_26_2 Z Z Z (gld sh_24 Z a6 m0 (i:=2) Z Z Z (gln el_24 Z Z Z (g_y (y_eql Z Z) Z Z (GM Y (g_split (t:=9) Z (fun a2=>?_) (fun a2=>?_))))))))))))
 ·replace a2:=OT a2
  refine gsk Z Z (gsk Z Z (gsk Z Z (gsk Z Z (g_y (y_pickT Z Z) Z Z (gnx ((c_condT Z (csr ((GA Y (gnx ((c_ret ?_)))))))))))))
  have f3:tkinds t=2:=ET (IP a2) (rfl)
  refine x_thenR (x_ret ⟨_,_,rfl,rfl,rfl⟩ ?_)
  exact ⟨_,_,rfl,a6.fr,a6.grow,by rw [f3]; exact rfl⟩
 ·replace a2:=OF a2
  refine gfa fo_26_2 Z Z Z (gld sh_24 Z a6 m0 (i:=2) Z Z Z (gln el_24 Z Z Z (g_y (y_gtr Z Z) Z Z (g_y (y_pickF Z Z) Z Z (gnx ((c_cond Z (fun a3=>?_) (fun a3=>?_))))))))
  ·replace a3:=OT a3
   refine csr ((GA Y (gnx ((c_ret ?_)))))
   have f4:tkinds t=2:=ET (IN a2) (ET (IP a3) (rfl))
   refine x_thenR (x_ret ⟨_,_,rfl,rfl,rfl⟩ ?_)
   exact ⟨_,_,rfl,a6.fr,a6.grow,by rw [f4]; exact rfl⟩
  ·replace a3:=OF a3
   refine c_skip (x_next (c_seq (csr ((gfa fo_26_2 Z Z Z (gld sh_24 Z a6 m0 (i:=2) Z Z Z (gln el_24 Z Z Z (GM Y (gnx ((c_cut1 (ι:=Dat) (fun b8=>[]) (fun b8 d1=>Inv [] d w b8 [blk c9 26 [.slice A7 (t.schemes).length c8,.slice e0 (t.contribs).length e1,.slice c6 (t.kinds).length c7,.int .i64 t.limit,.int .i64 t.round]] d1∧Le d e2 b8 d1∧tkinds_l1 t t.kinds 0 =Out.next (())) ?_ ?_)))))))))))
   ·refine c_block (c_loop (ι:=Nat × Dat) (fun ⟨a0,b2⟩=>[(1,.pointer (some ⟨c9,0,none⟩)),(16,.slice c6 (t.kinds).length c7),(17,.int .i64 (t.kinds.length:Int)),(18,.int .i64 (a0:Int))]) (fun ⟨a0,b2⟩ d2=>Inv [] d w b2 [blk c9 26 [.slice A7 (t.schemes).length c8,.slice e0 (t.contribs).length e1,.slice c6 (t.kinds).length c7,.int .i64 t.limit,.int .i64 t.round]] d2∧Le d e2 b2 d2∧tkinds_l1 t t.kinds 0 =tkinds_l1 t (t.kinds.drop a0) a0 ∧a0≤t.kinds.length) (fun ⟨a0,b2⟩=>t.kinds.length - a0) (0,d) (.cons Z (.cons Z (.cons Z (.cons Z (.nil _))))) ⟨a6,Le.refl _ _,rfl,Nat.zero_le _⟩ ?_)
    rintro ⟨a0,b2⟩ d2 ⟨e3,b5,a8,i1⟩
    refine csr ((g_y (y_lss Z Z) Z Z (gnx ((c_seq (c_cond Z (fun b6=>?_) (fun b6=>?_)))))))
    ·replace b6:=OT b6
     obtain ⟨a1,a9⟩:=has (xs:=t.kinds) (k:=a0) (by omega)
     refine c_skip (x_next (c_seq (c_block (csr ((GM Y ?_))))))
     obtain ⟨i2,i3,i4,f5,f6,f7,i5⟩:=Sl.at_ (hS6.mono (d0.t b5)) a9
     obtain rfl:=f6
     refine g_y (y_indexAddr (i:=a0) el_24 Z f5 Z (rfl) (by omega)) Z Z (g_y (y_loadA (cs:=[.string a1.name,.int .i64 a1.cash,.int .i64 a1.taxable,.int .i64 a1.social]) sh_36 Z (f7.part (f:=0) (.take _ (.take _ (.take _ (.take _ (.nil _))))))) Z Z (g_e (ev_alloc e3 ze_36) Z Z ?_))
     rintro _ i6 ⟨i7,rfl,f8,d3⟩
     refine GA Y (g_e (ev_store f8 Z Z Z sz_36 Z (.here _ _ (.here _ _ (.here _ _ (.here _ _ (.nil _))))) (.hd _)) Z Z ?_)
     rintro _ i8 ⟨d4,d5⟩
     refine gnx ((c_block (csr ((gfa fo_36_0 Z Z Z (gld sh_9 Z d4 m0 (i:=0) Z Z Z ?_))))))
     have e4:=wName_c (s:=a1.name) d4.lt
     obtain ⟨i9,b0⟩:∃ r,wName a1.name=r:=⟨_,rfl⟩
     rw [b0] at e4
     refine g_e (ev_pure d4 pf_251 Z e4) Z Z ?_
     rintro _ j0 ⟨j1,b9,d6,rfl⟩
     refine g_y (y_not Z) Z Z (GA Y (gnx ((c_cond Z (fun a4=>?_) (fun a4=>?_)))))
     ·replace a4:=not_t a4
      refine csr ((GA Y (gnx ((c_ret ?_)))))
      have f9:tkinds_l1 t t.kinds 0 =(Out.ret 5):=a8.trans (ET (congrArg (fun l=>tkinds_l1 t l a0 ) (drop_cons a9)) (ET (BE b0) (ET (cond_f a4) (rfl))))
      have g0:tkinds t=5:=ET (IN a2) (ET (IN a3) (ET (out_ret f9) (rfl)))
      refine x_blockR (x_blockR (x_thenR (x_rndR (x_blockR (x_cutR (x_thenR (x_ret ⟨_,_,rfl,rfl,rfl⟩ ?_)))))))
      exact ⟨_,_,rfl,b9.fr,b9.grow,by rw [g0]; exact rfl⟩
     ·replace a4:=not_f a4
      refine csr ((gfa fo_26_2 Z Z Z (gld sh_24 Z b9 m1 (i:=2) Z Z Z (GM Y ?_))))
      have g1:(t.kinds.take a0).length=a0:=by rw [List.length_take]; omega
      have g2:=Sl.take (hS6.mono ((((d0.t b5).t d3).t d5).t d6)) (i:=a0) (by omega)
      have g3:=(hS6.mono ((((d0.t b5).t d3).t d5).t d6)).len.2; unfold big at g3
      refine g_y (y_slice_toL (i:=a0) el_24 Z Z (rfl) (by omega) g1) Z Z ?_
      obtain ⟨j2,e5,e6,c0⟩:=pub_blk b9 (.hd _) (by simp)
      refine g_y (y_makeFunc Z) Z Z ?_
      have e7:=hasKind_c (list:=(t.kinds.take a0)) (k:=a1) e5.lt (g2.mono e6) c0 (show kindTy.rel _ _ a1 _ from rfl)
      obtain ⟨j3,b3⟩:∃ r,hasKind ((t.kinds.take a0)) a1=r:=⟨_,rfl⟩
      rw [b3] at e7
      refine g_e (ev_pure e5 pf_286 Z e7) Z Z ?_
      rintro _ j4 ⟨j5,c1,c2,rfl⟩
      refine GA Y (gnx ((c_cond Z (fun b4=>?_) (fun b4=>?_))))
      ·skip
       refine csr ((GA Y (gnx ((c_ret ?_)))))
       have g4:tkinds_l1 t t.kinds 0 =(Out.ret 4):=a8.trans (ET (congrArg (fun l=>tkinds_l1 t l a0 ) (drop_cons a9)) (ET (BE b0) (ET (cond_t a4) (ET (BE b3) (ET (cond_t b4) (rfl))))))
       have g5:tkinds t=4:=ET (IN a2) (ET (IN a3) (ET (out_ret g4) (rfl)))
       refine x_blockR (x_blockR (x_thenR (x_rndR (x_blockR (x_cutR (x_thenR (x_ret ⟨_,_,rfl,rfl,rfl⟩ ?_)))))))
       exact ⟨_,_,rfl,c1.fr,c1.grow,by rw [g5]; exact rfl⟩
      ·skip
       refine csr ((gfa fo_36_1 Z Z Z (g_y (y_load1 sh_3 Z ((c0.mono c2).cells.nth_ (i:=1) Z)) Z Z ?_)))
       have e8:=tsign_c (n:=a1.cash) c1.lt
       obtain ⟨j6,b7⟩:∃ r,tsign a1.cash=r:=⟨_,rfl⟩
       rw [b7] at e8
       refine g_e (ev_pure c1 pf_288 Z e8) Z Z ?_
       rintro _ j7 ⟨j8,c3,d7,rfl⟩
       refine g_y (y_not Z) Z Z (GM Y (g_split (t:=40) Z (fun a5=>?_) (fun a5=>?_)))
       ·replace a5:=not_t a5
        refine gsk Z Z (gsk Z Z (gsk Z Z (gsk Z Z (g_y (y_pickT Z Z) Z Z (GM Y (gsk Z Z (gsk Z Z (gsk Z Z (gsk Z Z (g_y (y_pickT Z Z) Z Z (GA Y (gnx (?_)))))))))))))
        refine c_condT Z (csr ((GA Y (gnx ((c_ret ?_))))))
        have g6:tkinds_l1 t t.kinds 0 =(Out.ret 1):=a8.trans (ET (congrArg (fun l=>tkinds_l1 t l a0 ) (drop_cons a9)) (ET (BE b0) (ET (cond_t a4) (ET (BE b3) (ET (cond_f b4) (ET (BE b7) (ET (cond_f a5) (rfl))))))))
        have g7:tkinds t=1:=ET (IN a2) (ET (IN a3) (ET (out_ret g6) (rfl)))
        refine x_blockR (x_blockR (x_thenR (x_rndR (x_blockR (x_cutR (x_thenR (x_ret ⟨_,_,rfl,rfl,rfl⟩ ?_)))))))
        exact ⟨_,_,rfl,c3.fr,c3.grow,by rw [g7]; exact rfl⟩
       ·replace a5:=not_f a5
        refine gfa fo_36_2 Z Z Z (g_y (y_load1 sh_3 Z ((c0.mono (c2.t d7)).cells.nth_ (i:=2) Z)) Z Z ?_)
        have e9:=tsign_c (n:=a1.taxable) c3.lt
        obtain ⟨j9,c4⟩:∃ r,tsign a1.taxable=r:=⟨_,rfl⟩
        rw [c4] at e9
        refine g_e (ev_pure c3 pf_288 Z e9) Z Z ?_
        rintro _ k0 ⟨k1,c5,f0,rfl⟩
        refine g_y (y_not Z) Z Z (g_y (y_pickF Z Z) Z Z (GM Y (g_split (t:=46) Z (fun a7=>?_) (fun a7=>?_))))
        ·replace a7:=not_t a7
         refine gsk Z Z (gsk Z Z (gsk Z Z (gsk Z Z (g_y (y_pickT Z Z) Z Z (GA Y (gnx ((c_condT Z (csr ((GA Y (gnx (?_)))))))))))))
         refine c_ret ?_
         have g8:tkinds_l1 t t.kinds 0 =(Out.ret 1):=a8.trans (ET (congrArg (fun l=>tkinds_l1 t l a0 ) (drop_cons a9)) (ET (BE b0) (ET (cond_t a4) (ET (BE b3) (ET (cond_f b4) (ET (BE b7) (ET (cond_t a5) (ET (BE c4) (ET (cond_f a7) (rfl))))))))))
         have g9:tkinds t=1:=ET (IN a2) (ET (IN a3) (ET (out_ret g8) (rfl)))
         refine x_blockR (x_blockR (x_thenR (x_rndR (x_blockR (x_cutR (x_thenR (x_ret ⟨_,_,rfl,rfl,rfl⟩ ?_)))))))
         exact ⟨_,_,rfl,c5.fr,c5.grow,by rw [g9]; exact rfl⟩
        ·replace a7:=not_f a7
         refine gfa fo_36_3 Z Z Z (g_y (y_load1 sh_3 Z ((c0.mono ((c2.t d7).t f0)).cells.nth_ (i:=3) Z)) Z Z ?_)
         have f1:=tsign_c (n:=a1.social) c5.lt
         obtain ⟨k2,d8⟩:∃ r,tsign a1.social=r:=⟨_,rfl⟩
         rw [d8] at f1
         refine g_e (ev_pure c5 pf_288 Z f1) Z Z ?_
         rintro _ k3 ⟨h0,d9,h1,rfl⟩
         refine g_y (y_not Z) Z Z (g_y (y_pickF Z Z) Z Z (GA Y (gnx ((c_cond Z (fun b1=>?_) (fun b1=>?_))))))
         ·replace b1:=not_t b1
          refine csr ((GA Y (gnx ((c_ret ?_)))))
          have h2:tkinds_l1 t t.kinds 0 =(Out.ret 1):=a8.trans (ET (congrArg (fun l=>tkinds_l1 t l a0 ) (drop_cons a9)) (ET (BE b0) (ET (cond_t a4) (ET (BE b3) (ET (cond_f b4) (ET (BE b7) (ET (cond_t a5) (ET (BE c4) (ET (cond_t a7) (ET (BE d8) (ET (cond_f b1) (rfl))))))))))))
          have h3:tkinds t=1:=ET (IN a2) (ET (IN a3) (ET (out_ret h2) (rfl)))
          refine x_blockR (x_blockR (x_thenR (x_rndR (x_blockR (x_cutR (x_thenR (x_ret ⟨_,_,rfl,rfl,rfl⟩ ?_)))))))
          exact ⟨_,_,rfl,d9.fr,d9.grow,by rw [h3]; exact rfl⟩
         ·replace b1:=not_f b1
          refine c_skip (x_blockN (x_blockN (x_next ?_)))
          refine c_region (g_y (y_add Z Z (by omega)) Z Z (GM Y (g_nil (x_round (a0 + 1,h0) (by dsimp only; omega) (.cons Z (.cons Z (.cons Z (.cons Z (.nil _))))) ⟨d9,((((((((b5.t d3).t d5).t d6).t e6).t c2).t d7).t f0).t h1),a8.trans (ET (congrArg (fun l=>tkinds_l1 t l a0 ) (drop_cons a9)) (ET (BE b0) (ET (cond_t a4) (ET (BE b3) (ET (cond_f b4) (ET (BE b7) (ET (cond_t a5) (ET (BE c4) (ET (cond_t a7) (ET (BE d8) (ET (cond_t b1) (rfl)))))))))))),by omega⟩))))
    ·replace b6:=OF b6
     refine c_exit (x_thenE (x_rndE (x_blockE (x_cut (b2) (.nil _) ⟨e3,b5,a8.trans (ET (congrArg (fun l=>tkinds_l1 t l a0 ) (drop_nil (by omega))) (rfl))⟩))))
   ·rintro b8 d1 ⟨f2,k4,h4⟩
    refine x_next (csr ((GA Y (gnx ((c_ret ?_))))))
    have h5:tkinds t=0:=ET (IN a2) (ET (IN a3) (ET (out_next h4) (rfl)))
    refine x_ret ⟨_,_,rfl,rfl,rfl⟩ (⟨_,_,rfl,f2.fr,f2.grow,by rw [h5]; exact rfl⟩)
def tCheck (t:Table):Int:=
 (bnd (fRate t.limit) fun a3=>
 (cond a3 ((bnd (fMode t.round) fun a4=>
 (cond a4 ((bnd (tschemes t) fun a0=>
 (bnd (tcontribs t) fun a1=>
 (bnd (tkinds t) fun a2=>
 (if (a0≠0) then a0
 else (if (a1≠0) then a1
 else (if (a2≠0) then a2
 else 0)))))))
 1)))
 50))
theorem tCheck_c {t:Table} {cs_t:List Value} {d:Dat} {w:World} (hd:∀ b,d b→b < w.heap.size) (h_t:tableTy.rel d w t cs_t):Ret Tryz.prog 185 [.agg cs_t.toArray] w [] d (fun u d' w'=>u=.int .i64 ((tCheck t))):=by
 obtain ⟨v1,v2,v3,rfl,hS4,hS5,hS6⟩:=h_t
 obtain ⟨A7,c8,rfl,hn9,e8⟩:=hS4.fm
 obtain ⟨b8,b9,rfl,e9,f0⟩:=hS5.fm
 obtain ⟨c0,c1,rfl,f1,f2⟩:=hS6.fm
 refine ret_enter (n:=27) Tryz.func185 Z Z (ble Z) ?_
 have hI0:=Inv.start hd
 refine csr ((g_e (ev_box hI0 Z) Z Z ?_))
 rintro _ f3 ⟨f4,rfl,c2,a2⟩
 refine GA Y (gnx ((c_seq (csr ((gfa fo_26_3 Z Z Z (gld sh_3 Z c2 m0 (i:=3) Z Z Z ?_)))))))
 have c7:=fRate_c (rate:=t.limit) c2.lt
 obtain ⟨f5,a9⟩:∃ r,fRate t.limit=r:=⟨_,rfl⟩
 rw [a9] at c7
 refine g_e (ev_pure c2 pf_244 Z c7) Z Z ?_
 rintro _ f6 ⟨f7,b3,a3,rfl⟩
 refine g_y (y_not Z) Z Z (gnx ((c_cond Z (fun a0=>?_) (fun a0=>?_))))
 ·replace a0:=not_t a0
  refine csr ((GA Y (gnx ((c_ret ?_)))))
  have d3:tCheck t=50:=ET (BE a9) (ET (cond_f a0) (rfl))
  refine x_thenR (x_ret ⟨_,_,rfl,rfl,rfl⟩ ?_)
  exact ⟨_,_,rfl,b3.fr,b3.grow,by rw [d3]; exact rfl⟩
 ·replace a0:=not_f a0
  refine c_skip (x_next (c_seq (csr ((gfa fo_26_4 Z Z Z (gld sh_3 Z b3 m0 (i:=4) Z Z Z ?_))))))
  have c9:=fMode_c (mode:=t.round) b3.lt
  obtain ⟨f8,b2⟩:∃ r,fMode t.round=r:=⟨_,rfl⟩
  rw [b2] at c9
  refine g_e (ev_pure b3 pf_245 Z c9) Z Z ?_
  rintro _ d4 ⟨d5,c3,a4,rfl⟩
  refine g_y (y_not Z) Z Z (gnx ((c_cond Z (fun a1=>?_) (fun a1=>?_))))
  ·replace a1:=not_t a1
   refine csr ((GA Y (gnx ((c_ret ?_)))))
   have d6:tCheck t=1:=ET (BE a9) (ET (cond_t a0) (ET (BE b2) (ET (cond_f a1) (rfl))))
   refine x_thenR (x_ret ⟨_,_,rfl,rfl,rfl⟩ ?_)
   exact ⟨_,_,rfl,c3.fr,c3.grow,by rw [d6]; exact rfl⟩
  ·replace a1:=not_f a1
   refine c_skip (x_next (c_seq (c_seq ?_)))
   have c4:=c3.drew; have a5:=Le.drew d5 d4
   refine c_drawK 8 follows_mixed c4 (k_y 0 (by kernel_rfl) Z Z Z (fun f9 ⟨g0,d7,g1⟩=>(y_loadA (cs:=[.slice A7 (t.schemes).length c8,.slice b8 (t.contribs).length b9,.slice c0 (t.kinds).length c1,.int .i64 t.limit,.int .i64 t.round]) sh_26 Z ((blk_cells d7 m0).part (f:=0) (.take _ (.take _ (.take _ (.take _ (.take _ (.nil _))))))))) (k_y 2 (by kernel_rfl) Z Z Z (fun g2 ⟨g3,d8,g4⟩=>(y_loadA (cs:=[.slice A7 (t.schemes).length c8,.slice b8 (t.contribs).length b9,.slice c0 (t.kinds).length c1,.int .i64 t.limit,.int .i64 t.round]) sh_26 Z ((blk_cells d8 m0).part (f:=0) (.take _ (.take _ (.take _ (.take _ (.take _ (.nil _))))))))) (k_y 4 (by kernel_rfl) Z Z Z (fun g5 ⟨g6,d9,g7⟩=>(y_loadA (cs:=[.slice A7 (t.schemes).length c8,.slice b8 (t.contribs).length b9,.slice c0 (t.kinds).length c1,.int .i64 t.limit,.int .i64 t.round]) sh_26 Z ((blk_cells d9 m0).part (f:=0) (.take _ (.take _ (.take _ (.take _ (.take _ (.nil _))))))))) (k_y 7 (by kernel_rfl) Z Z Z (fun _ _=>(y_move Z)) (k_all (is:=[1]) (by kernel_rfl) (by simp) (.cons ?_ .nil))))))
   have d0:=tschemes_c (t:=t) c4.lt (show tableTy.rel _ _ t _ from ⟨_,_,_,rfl,(hS4.mono (((a2.t a3).t a4).t a5)),(hS5.mono (((a2.t a3).t a4).t a5)),(hS6.mono (((a2.t a3).t a4).t a5))⟩)
   obtain ⟨e0,b4⟩:∃ r,tschemes t=r:=⟨_,rfl⟩
   rw [b4] at d0
   refine k_op Z Z Z (ev_pure c4 pf_246 Z d0) ?_
   rintro _ g8 ⟨g9,c5,b0,rfl⟩
   refine k_next c5 b0 (k_all (is:=[3]) (by kernel_rfl) (by simp) (.cons ?_ .nil))
   have d1:=tcontribs_c (t:=t) c5.lt (show tableTy.rel _ _ t _ from ⟨_,_,_,rfl,(hS4.mono ((((a2.t a3).t a4).t a5).t b0)),(hS5.mono ((((a2.t a3).t a4).t a5).t b0)),(hS6.mono ((((a2.t a3).t a4).t a5).t b0))⟩)
   obtain ⟨e1,b5⟩:∃ r,tcontribs t=r:=⟨_,rfl⟩
   rw [b5] at d1
   refine k_op Z Z Z (ev_pure c5 pf_247 Z d1) ?_
   rintro _ h0 ⟨h1,c6,b7,rfl⟩
   refine k_next c6 b7 (k_all (is:=[5]) (by kernel_rfl) (by simp) (.cons ?_ .nil))
   have d2:=tkinds_c (t:=t) c6.lt (show tableTy.rel _ _ t _ from ⟨_,_,_,rfl,(hS4.mono (((((a2.t a3).t a4).t a5).t b0).t b7)),(hS5.mono (((((a2.t a3).t a4).t a5).t b0).t b7)),(hS6.mono (((((a2.t a3).t a4).t a5).t b0).t b7))⟩)
   obtain ⟨e2,b6⟩:∃ r,tkinds t=r:=⟨_,rfl⟩
   rw [b6] at d2
   refine k_op Z Z Z (ev_pure c6 pf_248 Z d2) ?_
   rintro _ h2 ⟨h3,a6,e3,rfl⟩
   refine k_next a6 e3 (k_y 6 (by kernel_rfl) Z Z Z (fun _ _=>(y_buildA ze_372 ar_372 (.cons Z Z Z Z (.here _ _ (.nil _)) (ble Z) (.cons Z Z Z Z (.next _ (.here _ _ (.nil _))) (ble Z) (.cons Z Z Z Z (.next _ (.next _ (.here _ _ (.nil _)))) (ble Z) (.nil _)))))) (k_done (by kernel_rfl) (x_draw ?_)))
   refine x_next (c_block (c_loop_n 3 (csr ((g_y (y_lss Z Z) Z Z (gnx ((c_seq (c_condT Z (c_skip (x_next (c_seq (c_block ?_)))))))))))))
   refine csr ((g_y (y_index1 (i:=0) ar_372 sh_44 Z Z Z (ble Z) Z) Z Z (GA Y (gnx ((csr ((GM Y (g_y (y_neq Z Z) Z Z (gnx ((c_cond Z (fun a7=>?_) (fun a7=>?_)))))))))))))
   ·replace a7:=OT a7
    refine csr ((GM Y (GA Y (gnx ((c_ret ?_))))))
    have e4:tCheck t=e0:=ET (BE a9) (ET (cond_t a0) (ET (BE b2) (ET (cond_t a1) (ET (BE b4) (ET (BE b5) (ET (BE b6) (ET (IP a7) (rfl))))))))
    refine x_blockR (x_thenR (x_thenR (x_blockR (x_thenR (x_ret ⟨_,_,rfl,rfl,rfl⟩ ?_)))))
    exact ⟨_,_,rfl,a6.fr,a6.grow,by rw [e4]; exact rfl⟩
   ·replace a7:=OF a7
    refine c_skip (x_blockN (x_next ?_))
    refine c_region (g_y (y_add Z Z (by omega)) Z Z (GM Y (g_nil (x_again (csr ((g_y (y_lss Z Z) Z Z (gnx ((c_seq (c_condT Z (c_skip (x_next ?_)))))))))))))
    refine c_seq (c_block (csr ((g_y (y_index1 (i:=1) ar_372 sh_44 Z Z Z (ble Z) Z) Z Z (GA Y (gnx ((csr ((GM Y (g_y (y_neq Z Z) Z Z (gnx (?_)))))))))))))
    refine c_cond Z (fun a8=>?_) (fun a8=>?_)
    ·replace a8:=OT a8
     refine csr ((GM Y (GA Y (gnx ((c_ret ?_))))))
     have e5:tCheck t=e1:=ET (BE a9) (ET (cond_t a0) (ET (BE b2) (ET (cond_t a1) (ET (BE b4) (ET (BE b5) (ET (BE b6) (ET (IN a7) (ET (IP a8) (rfl)))))))))
     refine x_blockR (x_thenR (x_thenR (x_blockR (x_thenR (x_ret ⟨_,_,rfl,rfl,rfl⟩ ?_)))))
     exact ⟨_,_,rfl,a6.fr,a6.grow,by rw [e5]; exact rfl⟩
    ·replace a8:=OF a8
     refine c_skip (x_blockN (x_next ?_))
     refine c_region (g_y (y_add Z Z (by omega)) Z Z (GM Y (g_nil (x_again (csr ((g_y (y_lss Z Z) Z Z (gnx ((c_seq (c_condT Z (c_skip (x_next ?_)))))))))))))
     refine c_seq (c_block (csr ((g_y (y_index1 (i:=2) ar_372 sh_44 Z Z Z (ble Z) Z) Z Z (GA Y (gnx ((csr ((GM Y (g_y (y_neq Z Z) Z Z (gnx (?_)))))))))))))
     refine c_cond Z (fun b1=>?_) (fun b1=>?_)
     ·replace b1:=OT b1
      refine csr ((GM Y (GA Y (gnx ((c_ret ?_))))))
      have e6:tCheck t=e2:=ET (BE a9) (ET (cond_t a0) (ET (BE b2) (ET (cond_t a1) (ET (BE b4) (ET (BE b5) (ET (BE b6) (ET (IN a7) (ET (IN a8) (ET (IP b1) (rfl))))))))))
      refine x_blockR (x_thenR (x_thenR (x_blockR (x_thenR (x_ret ⟨_,_,rfl,rfl,rfl⟩ ?_)))))
      exact ⟨_,_,rfl,a6.fr,a6.grow,by rw [e6]; exact rfl⟩
     ·replace b1:=OF b1
      refine c_skip (x_blockN (x_next ?_))
      refine c_region (g_y (y_add Z Z (by omega)) Z Z (GM Y (g_nil (x_again (csr ((g_y (y_lss Z Z) Z Z (gnx ((c_seq (c_condF Z (c_exit (x_thenE (x_thenE (x_blockE (x_next ?_))))))))))))))))
      refine csr ((GA Y (gnx ((c_ret ?_)))))
      have e7:tCheck t=0:=ET (BE a9) (ET (cond_t a0) (ET (BE b2) (ET (cond_t a1) (ET (BE b4) (ET (BE b5) (ET (BE b6) (ET (IN a7) (ET (IN a8) (ET (IN b1) (rfl))))))))))
      refine x_ret ⟨_,_,rfl,rfl,rfl⟩ (⟨_,_,rfl,a6.fr,a6.grow,by rw [e7]; exact rfl⟩)
end Go.Proofs.YtclblpmjamcknaaGreat
