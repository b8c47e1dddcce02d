import Derived.Test.YtclblpmjamcknaaGreatFlt1
import Derived.Laws.Cover3
namespace Go.Sx
open Ieee
theorem two_dbl (a:Nat):((2 ^ (a + a):Nat):Int)=((2 ^ a:Nat):Int) * ((2 ^ a:Nat):Int):=by rw [Nat.pow_add,Int.natCast_mul]
def Wx (x:Nat) (i:Int):Prop:=∃ neg m e,double.read x=.number neg m e∧(-1074:Int)≤e∧signed neg m (e + 1074).toNat=i * (2 ^ 1074:Nat)
structure Wd (x:Nat) (i:Int):Prop where
  ex:Wx x i
  lo:-9007199254740992 < i
  hi:i < 9007199254740992
theorem signed_eq (neg:Bool) (m up:Nat):signed neg m up=(if neg then -(m:Int) else (m:Int)) * (2 ^ up:Nat):=by
  unfold signed
  rw [Nat.shiftLeft_eq]
  cases neg <;> simp [Int.neg_mul]
theorem signed_up (neg:Bool) (m up k:Nat):signed neg m up * (2 ^ k:Nat)=signed neg m (up + k):=by
  rw [signed_eq,signed_eq,Int.mul_assoc,Nat.pow_add,Int.natCast_mul]
theorem natAbs_signed (neg:Bool) (m up:Nat):(signed neg m up).natAbs=m * 2 ^ up:=by
  rw [signed_eq,Int.natAbs_mul,Int.natAbs_natCast]
  cases neg <;> simp
theorem wd_write (neg:Bool) (mag:Nat) (place:Int) (K:Nat) (i:Int) (hK:0≤place + K) (hv:signed neg mag (place + K).toNat=i * (2 ^ K:Nat)) (h1:-9007199254740992 < i) (h2:i < 9007199254740992) :
    Wd (double.write (.number neg mag place)) i:=by
  refine ⟨?_,h1,h2⟩
  have ha:=congrArg Int.natAbs hv
  rw [natAbs_signed,Int.natAbs_mul,Int.natAbs_natCast] at ha
  rcases Nat.eq_zero_or_pos i.natAbs with h0 | hp
  · have hi:i=0:=Int.natAbs_eq_zero.1 h0
    subst hi
    have hm:mag=0:=by
      have:=Nat.two_pow_pos (place + K).toNat
      rw [h0,Nat.zero_mul] at ha
      rcases Nat.mul_eq_zero.1 ha with h | h
      · exact h
      · omega
    subst hm
    have e:double.write (.number neg 0 place)=double.word neg 0:=by simp [Format.write,Format.nearest]
    refine ⟨neg,0,-1074,?_,by omega,by simp [signed,-Nat.reducePow,-Int.reducePow]⟩
    rw [e]
    cases neg <;> decide
  · have hlt:i.natAbs < 2 ^ 53:=by omega
    have hr:=nearest_exact neg hp hlt hK ha
    refine ⟨neg,_,_,hr,by omega,?_⟩
    have hL:i.natAbs.log2≤52:=by
      have:=(Nat.log2_lt (by omega:i.natAbs≠0)).2 hlt
      omega
    have e1:((i.natAbs.log2:Int) - 52 + 1074).toNat=i.natAbs.log2 + 1022:=by omega
    rw [e1,signed_eq]
    have e2:(i.natAbs * 2 ^ (52 - i.natAbs.log2)) * 2 ^ (i.natAbs.log2 + 1022)=i.natAbs * 2 ^ 1074:=by
      rw [Nat.mul_assoc,← Nat.pow_add,show 52 - i.natAbs.log2 + (i.natAbs.log2 + 1022)=1074 by omega]
    have e3:((i.natAbs * 2 ^ (52 - i.natAbs.log2):Nat):Int) * ((2 ^ (i.natAbs.log2 + 1022):Nat):Int)=(i.natAbs:Int) * ((2 ^ 1074:Nat):Int):=by
      rw [← Int.natCast_mul,e2,Int.natCast_mul]
    have hsgn:(if neg then -(mag:Int) else (mag:Int)) * ((2 ^ (place + K).toNat:Nat):Int)=i * ((2 ^ K:Nat):Int):=by rw [← signed_eq]; exact hv
    have hp1:(0:Int) < ((2 ^ (place + K).toNat:Nat):Int):=Int.natCast_pos.2 (Nat.two_pow_pos _)
    have hp2:(0:Int) < ((2 ^ K:Nat):Int):=Int.natCast_pos.2 (Nat.two_pow_pos _)
    have hi:i=if neg then -(i.natAbs:Int) else (i.natAbs:Int):=by
      cases neg
      · simp only [Bool.false_eq_true,if_false] at hsgn ⊢
        have h3:0≤i * ((2 ^ K:Nat):Int):=by rw [← hsgn]; exact Int.mul_nonneg (Int.natCast_nonneg _) (Int.le_of_lt hp1)
        have h4:0≤i:=by
          rcases Int.lt_or_le i 0 with h | h
          · have:=Int.mul_neg_of_neg_of_pos h hp2; omega
          · exact h
        omega
      · simp only [if_true] at hsgn ⊢
        have h3:i * ((2 ^ K:Nat):Int)≤0:=by
          rw [← hsgn,Int.neg_mul]
          have:=Int.mul_nonneg (Int.natCast_nonneg mag) (Int.le_of_lt hp1)
          omega
        have h4:i≤0:=by
          rcases Int.lt_or_le 0 i with h | h
          · have:=Int.mul_pos h hp2; omega
          · exact h
        omega
    cases neg
    · simp only [Bool.false_eq_true,if_false] at hi ⊢
      rw [e3,← hi]
    · simp only [if_true] at hi ⊢
      rw [Int.neg_mul,e3,← Int.neg_mul,← hi]
theorem wd_ofInt {i:Int} (h1:-9007199254740992 < i) (h2:i < 9007199254740992):Wd (FloatKind.f64.nearest i) i:=by
  refine wd_write (i < 0) i.natAbs 0 0 i (by omega) ?_ h1 h2
  rw [signed_eq]
  by_cases h:i < 0
  · simp [h]; omega
  · simp [h]; omega
theorem wd_sum {x y:Nat} {i j:Int} (hx:Wd x i) (hy:Wd y j) (h1:-9007199254740992 < i + j) (h2:i + j < 9007199254740992):∃ z,double.add x y=some z∧Wd z (i + j):=by
  obtain ⟨s,m,e,hr,he,hv⟩:=hx.ex
  obtain ⟨t,n,f,hs,hf,hu⟩:=hy.ex
  refine ⟨_,?_,wd_write (if signed s m (e - min e f).toNat + signed t n (f - min e f).toNat=0 then s && t else decide (signed s m (e - min e f).toNat + signed t n (f - min e f).toNat < 0))
    (signed s m (e - min e f).toNat + signed t n (f - min e f).toNat).natAbs (min e f) 1074 (i + j) (by omega) ?_ h1 h2⟩
  · simp only [Format.add,hr,hs,Datum.sum,Option.map_some]
  · have e1:(e - min e f).toNat + (min e f + (1074:Nat)).toNat=(e + 1074).toNat:=by omega
    have e2:(f - min e f).toNat + (min e f + (1074:Nat)).toNat=(f + 1074).toNat:=by omega
    have key:(signed s m (e - min e f).toNat + signed t n (f - min e f).toNat) * ((2 ^ (min e f + (1074:Nat)).toNat:Nat):Int)=(i + j) * ((2 ^ 1074:Nat):Int):=by
      rw [Int.add_mul,signed_up,signed_up,e1,e2,hv,hu,← Int.add_mul]
    generalize hT:signed s m (e - min e f).toNat + signed t n (f - min e f).toNat=T at key ⊢
    rw [← key,signed_eq]
    by_cases h0:T=0
    · subst h0; simp
    · rw [if_neg h0]
      by_cases hneg:T < 0
      · simp only [hneg,decide_true,if_true]
        congr 1
        omega
      · simp only [hneg,decide_false,Bool.false_eq_true,if_false]
        congr 1
        omega
theorem wd_opposite {x:Nat} {i:Int} (hx:Wd x i):∃ neg m e,(double.read x).opposite=.number neg m e∧(-1074:Int)≤e∧signed neg m (e + 1074).toNat=(-i) * (2 ^ 1074:Nat):=by
  obtain ⟨s,m,e,hr,he,hv⟩:=hx.ex
  refine ⟨!s,m,e,by rw [hr]; rfl,he,?_⟩
  rw [signed_eq] at hv ⊢
  rw [Int.neg_mul,← hv]
  cases s <;> simp [Int.neg_mul]
theorem read_neg (x:Nat):double.read (x ^^^ 2 ^ 63)=(double.read x).opposite:=by
  have e1:double.signWeight=2 ^ 63:=by decide
  have hmod:(x ^^^ 2 ^ 63) % 2 ^ 63=x % 2 ^ 63:=by
    rw [Nat.xor_mod_two_pow]; simp
  have hdiv:(x ^^^ 2 ^ 63) / 2 ^ 63=(x / 2 ^ 63) ^^^ 1:=by
    rw [Nat.xor_div_two_pow]
  have hsg:((x ^^^ 2 ^ 63) / 2 ^ 63 % 2 == 1)=!(x / 2 ^ 63 % 2 == 1):=by
    rw [hdiv]
    have:(x / 2 ^ 63 ^^^ 1) % 2=(x / 2 ^ 63 % 2) ^^^ 1:=by
      have:=Nat.xor_mod_two_pow (a:=x / 2 ^ 63) (b:=1) (n:=1)
      simpa using this
    rw [this]
    rcases Nat.mod_two_eq_zero_or_one (x / 2 ^ 63) with h | h <;> rw [h] <;> rfl
  unfold Format.read
  simp only [e1,hmod,hsg]
  by_cases h1:x % 2 ^ 63 < double.binade
  · simp only [if_pos h1,Datum.opposite]
  · simp only [if_neg h1]
    by_cases h2:x % 2 ^ 63 < double.infRung
    · simp only [if_pos h2,Datum.opposite]
    · simp only [if_neg h2]
      by_cases h3:x % 2 ^ 63=double.infRung
      · simp only [if_pos h3,Datum.opposite]
      · simp only [if_neg h3,Datum.opposite]
theorem wd_neg {x:Nat} {i:Int} (hx:Wd x i):Wd (Op.negFloat .f64 x) (-i):=by
  have e:Op.negFloat .f64 x=x ^^^ 2 ^ 63:=rfl
  refine ⟨?_,by have:=hx.hi; omega,by have:=hx.lo; omega⟩
  unfold Wx
  rw [e,read_neg]
  exact wd_opposite hx
theorem wd_diff {x y:Nat} {i j:Int} (hx:Wd x i) (hy:Wd y j) (h1:-9007199254740992 < i - j) (h2:i - j < 9007199254740992):∃ z,double.sub x y=some z∧Wd z (i - j):=by
  have h:=wd_sum hx (wd_neg hy) (by omega) (by omega)
  obtain ⟨z,hz,hw⟩:=h
  refine ⟨z,?_,by rw [Int.sub_eq_add_neg]; exact hw⟩
  rw [← hz]
  show _=double.add x (y ^^^ 2 ^ 63)
  unfold Format.add Format.sub
  rw [read_neg]
theorem wd_prod {x y:Nat} {i j:Int} (hx:Wd x i) (hy:Wd y j) (h1:-9007199254740992 < i * j) (h2:i * j < 9007199254740992):∃ z,double.mul x y=some z∧Wd z (i * j):=by
  obtain ⟨s,m,e,hr,he,hv⟩:=hx.ex
  obtain ⟨t,n,f,hs,hf,hu⟩:=hy.ex
  refine ⟨_,?_,wd_write (s ^^ t) (m * n) (e + f) 2148 (i * j) (by omega) ?_ h1 h2⟩
  · simp only [Format.mul,hr,hs,Datum.product,Option.map_some]
  · have e1:(e + f + (2148:Nat)).toNat=(e + 1074).toNat + (f + 1074).toNat:=by omega
    have e2:(i * j) * ((2 ^ 2148:Nat):Int)=(i * ((2 ^ 1074:Nat):Int)) * (j * ((2 ^ 1074:Nat):Int)):=by
      rw [show (2148:Nat)=1074 + 1074 from rfl,two_dbl 1074]
      generalize ((2 ^ 1074:Nat):Int)=p
      rw [Int.mul_assoc,Int.mul_assoc,Int.mul_left_comm j p]
    rw [e2,← hv,← hu,signed_eq,signed_eq,signed_eq,e1,Nat.pow_add,Int.natCast_mul,Int.natCast_mul]
    generalize ((2 ^ (e + 1074).toNat:Nat):Int)=p
    generalize ((2 ^ (f + 1074).toNat:Nat):Int)=q
    have:(if (s ^^ t)=true then -((m:Int) * (n:Int)) else (m:Int) * (n:Int))=(if s=true then -(m:Int) else (m:Int)) * (if t=true then -(n:Int) else (n:Int)):=by
      cases s <;> cases t
      · rfl
      · exact (Int.mul_neg _ _).symm
      · exact (Int.neg_mul _ _).symm
      · exact (Int.neg_mul_neg _ _).symm
    rw [this]
    generalize (if s=true then -(m:Int) else (m:Int))=a
    generalize (if t=true then -(n:Int) else (n:Int))=b
    rw [Int.mul_assoc,Int.mul_assoc,Int.mul_left_comm b p]
theorem wd_order {x y:Nat} {i j:Int} (hx:Wx x i) (hy:Wx y j):double.order x y=some (compare i j):=by
  obtain ⟨s,m,e,hr,he,hv⟩:=hx
  obtain ⟨t,n,f,hs,hf,hu⟩:=hy
  simp only [Format.order,hr,hs,Datum.order]
  congr 1
  have e1:(e - min e f).toNat + (min e f + 1074).toNat=(e + 1074).toNat:=by omega
  have e2:(f - min e f).toNat + (min e f + 1074).toNat=(f + 1074).toNat:=by omega
  have k1:signed s m (e - min e f).toNat * ((2 ^ (min e f + 1074).toNat:Nat):Int)=i * ((2 ^ 1074:Nat):Int):=by rw [signed_up,e1,hv]
  have k2:signed t n (f - min e f).toNat * ((2 ^ (min e f + 1074).toNat:Nat):Int)=j * ((2 ^ 1074:Nat):Int):=by rw [signed_up,e2,hu]
  have hp:(0:Int) < ((2 ^ (min e f + 1074).toNat:Nat):Int):=Int.natCast_pos.2 (Nat.two_pow_pos _)
  have hq:(0:Int) < ((2 ^ 1074:Nat):Int):=Int.natCast_pos.2 (Nat.two_pow_pos 1074)
  generalize ((2 ^ (min e f + 1074).toNat:Nat):Int)=p at k1 k2 hp
  generalize ((2 ^ 1074:Nat):Int)=q at k1 k2 hq
  generalize signed s m (e - min e f).toNat=a at k1 ⊢
  generalize signed t n (f - min e f).toNat=b at k2 ⊢
  have hlt:∀ {a b i j:Int},a * p=i * q→b * p=j * q→a < b→i < j:=by
    intro a b i j h1 h2 h
    have h3:a * p < b * p:=Int.mul_lt_mul_of_pos_right h hp
    rw [h1,h2] at h3
    exact Int.lt_of_mul_lt_mul_right h3 (Int.le_of_lt hq)
  have hback:∀ {a b i j:Int},a * p=i * q→b * p=j * q→i < j→a < b:=by
    intro a b i j h1 h2 h
    have h3:i * q < j * q:=Int.mul_lt_mul_of_pos_right h hq
    rw [← h1,← h2] at h3
    exact Int.lt_of_mul_lt_mul_right h3 (Int.le_of_lt hp)
  show compareOfLessAndEq a b=compareOfLessAndEq i j
  unfold compareOfLessAndEq
  rcases Int.lt_trichotomy a b with h | h | h
  · rw [if_pos h,if_pos (hlt k1 k2 h)]
  · subst h
    have:i=j:=by
      rcases Int.lt_trichotomy i j with h | h | h
      · exact absurd (hback k1 k2 h) (Int.lt_irrefl _)
      · exact h
      · exact absurd (hback k2 k1 h) (Int.lt_irrefl _)
    subst this
    simp
  · have h':=hlt k2 k1 h
    rw [if_neg (by omega),if_neg (by omega),if_neg (by omega),if_neg (by omega)]
theorem wd_toInt {x:Nat} {i:Int} (hx:Wd x i):floatToIntVal .f64 x .i64=some i:=by
  obtain ⟨s,m,e,hr,he,hv⟩:=hx.ex
  have h1:=hx.lo
  have h2:=hx.hi
  have hz:(FloatKind.f64.decode x).toInt .zero=some i:=by
    show (double.read x).toInt .zero=some i
    rw [hr]
    simp only [Datum.toInt,Datum.integral]
    congr 1
    have ha:=congrArg Int.natAbs hv
    rw [natAbs_signed,Int.natAbs_mul,Int.natAbs_natCast] at ha
    have hcut:Toward.zero.cut s (m <<< e.toNat) (-e).toNat=i.natAbs:=by
      rcases Int.le_total 0 e with h | h
      · have e0:(-e).toNat=0:=by omega
        have e1:(e + 1074).toNat=e.toNat + 1074:=by omega
        rw [e0]
        rw [e1,Nat.pow_add,← Nat.mul_assoc] at ha
        have h3:=Nat.eq_of_mul_eq_mul_right (Nat.two_pow_pos 1074) ha
        unfold Toward.cut
        simp [Nat.shiftLeft_eq,h3]
      · have e0:e.toNat=0:=by omega
        have e1:(e + 1074).toNat + (-e).toNat=1074:=by omega
        rw [e0,Nat.shiftLeft_zero]
        have h3:m=i.natAbs * 2 ^ (-e).toNat:=by
          have:m * 2 ^ (e + 1074).toNat=(i.natAbs * 2 ^ (-e).toNat) * 2 ^ (e + 1074).toNat:=by
            rw [ha,Nat.mul_assoc,← Nat.pow_add,Nat.add_comm,e1]
          exact Nat.eq_of_mul_eq_mul_right (Nat.two_pow_pos _) this
        rw [h3]
        rcases Nat.eq_zero_or_pos i.natAbs with h0 | hp
        · rw [h0]; simp [Toward.cut]
        · have hlog:(-e).toNat≤(i.natAbs * 2 ^ (-e).toNat).log2:=by
            rw [Nat.le_log2 (Nat.ne_of_gt (Nat.mul_pos hp (Nat.two_pow_pos _)))]
            exact Nat.le_mul_of_pos_left _ hp
          have hmin:min (-e).toNat ((i.natAbs * 2 ^ (-e).toNat).log2 + 2)=(-e).toNat:=by omega
          unfold Toward.cut
          simp only [hmin,Nat.one_shiftLeft,Nat.mul_div_cancel _ (Nat.two_pow_pos _)]
          simp
    rw [hcut]
    rw [signed_eq] at hv ⊢
    have hp1:(0:Int) < ((2 ^ (e + 1074).toNat:Nat):Int):=Int.natCast_pos.2 (Nat.two_pow_pos _)
    have hp2:(0:Int) < ((2 ^ 1074:Nat):Int):=Int.natCast_pos.2 (Nat.two_pow_pos 1074)
    generalize ((2 ^ (e + 1074).toNat:Nat):Int)=p at hv hp1
    generalize ((2 ^ 1074:Nat):Int)=q at hv hp2
    cases s
    · simp only [Bool.false_eq_true,if_false] at hv ⊢
      have h3:0≤i * q:=by rw [← hv]; exact Int.mul_nonneg (Int.natCast_nonneg _) (Int.le_of_lt hp1)
      have h4:0≤i:=by
        rcases Int.lt_or_le i 0 with h | h
        · have:=Int.mul_neg_of_neg_of_pos h hp2; omega
        · exact h
      simp; omega
    · simp only [if_true] at hv ⊢
      have h3:i * q≤0:=by
        rw [← hv,Int.neg_mul]
        have:=Int.mul_nonneg (Int.natCast_nonneg m) (Int.le_of_lt hp1)
        omega
      have h4:i≤0:=by
        rcases Int.lt_or_le 0 i with h | h
        · have:=Int.mul_pos h hp2; omega
        · exact h
      simp; omega
  unfold floatToIntVal
  have hm:IntKind.i64.min=-9223372036854775808:=by decide
  have hM:IntKind.i64.max=9223372036854775807:=by decide
  rw [hz]
  simp only [hm,hM]
  rw [if_pos (by omega)]
theorem wd_zero:Wd 0 0:=⟨⟨false,0,-1074,by decide,by omega,by simp [signed,-Nat.reducePow,-Int.reducePow]⟩,by omega,by omega⟩
theorem wx_most:Wx 4845873199050653696 9007199254740992:=⟨false,2 ^ 52,1,by decide,by omega,by rw [signed_eq]; decide +kernel⟩
theorem wx_least:Wx 14069245235905429504 (-9007199254740992):=⟨true,2 ^ 52,1,by decide,by omega,by rw [signed_eq]; decide +kernel⟩
structure Pr where
  re:Int
  im:Int
  deriving DecidableEq,Inhabited
def CxV (v:Value) (x:Pr):Prop:=∃ a b,v=.complex .f64 a b∧Wd a x.re∧Wd b x.im
def prTy:Ty Pr where
  size:=1
  rel:=fun _ _ x cs=>∃ v,cs=[v]∧CxV v x
  len:=by rintro d w x cs ⟨v,rfl,_⟩; rfl
  mono:=by rintro d w d' w' x cs _ h; exact h
  one:=by
    rintro d w x cs ⟨v,rfl,a,b,rfl,_⟩ u hu
    simp at hu; subst hu; rfl
section
variable {P : Program} {n : Nat} {L : Env} {w : World} {t yt ty s : TypeId} {x y : Operand} {a b c d : Nat} {i j k l : Int}
theorem run_eqGuard_fl (op:BinOp) (t:TypeId) (x y:Operand) (k k':FloatKind) (a b:Nat):(eqGuard op t x y (.float k a) (.float k' b)).run P w=.ok () w:=by
  unfold eqGuard; cases op <;> rfl
theorem run_eqGuard_cx (op:BinOp) (t:TypeId) (x y:Operand) (k k':FloatKind) (a b c d:Nat):(eqGuard op t x y (.complex k a b) (.complex k' c d)).run P w=.ok () w:=by
  unfold eqGuard; cases op <;> rfl
theorem ford (ha:Wx a i) (hb:Wx b j):FloatKind.f64.format.order a b=some (compare i j):=wd_order ha hb
theorem cmp_le (i j:Int):(some (compare i j) == some Ordering.lt || some (compare i j) == some Ordering.eq)=decide (i≤j):=by
  rcases Int.lt_trichotomy i j with h | h | h
  · have:compare i j=.lt:=by show compareOfLessAndEq i j=_; unfold compareOfLessAndEq; rw [if_pos h]
    rw [this,decide_eq_true (by omega)]; rfl
  · subst h
    have:compare i i=.eq:=by show compareOfLessAndEq i i=_; unfold compareOfLessAndEq; simp
    rw [this,decide_eq_true (by omega)]; rfl
  · have:compare i j=.gt:=by show compareOfLessAndEq i j=_; unfold compareOfLessAndEq; rw [if_neg (by omega),if_neg (by omega)]
    rw [this,decide_eq_false (by omega)]; rfl
theorem cmp_ge (i j:Int):(some (compare i j) == some Ordering.gt || some (compare i j) == some Ordering.eq)=decide (j≤i):=by
  rcases Int.lt_trichotomy i j with h | h | h
  · have:compare i j=.lt:=by show compareOfLessAndEq i j=_; unfold compareOfLessAndEq; rw [if_pos h]
    rw [this,decide_eq_false (by omega)]; rfl
  · subst h
    have:compare i i=.eq:=by show compareOfLessAndEq i i=_; unfold compareOfLessAndEq; simp
    rw [this,decide_eq_true (by omega)]; rfl
  · have:compare i j=.gt:=by show compareOfLessAndEq i j=_; unfold compareOfLessAndEq; rw [if_neg (by omega),if_neg (by omega)]
    rw [this,decide_eq_true (by omega)]; rfl
theorem cmp_eq (i j:Int):(some (compare i j) == some Ordering.eq)=decide (i=j):=by
  rcases Int.lt_trichotomy i j with h | h | h
  · have:compare i j=.lt:=by show compareOfLessAndEq i j=_; unfold compareOfLessAndEq; rw [if_pos h]
    rw [this,decide_eq_false (by omega)]; rfl
  · subst h
    have:compare i i=.eq:=by show compareOfLessAndEq i i=_; unfold compareOfLessAndEq; simp
    rw [this,decide_eq_true (by omega)]; rfl
  · have:compare i j=.gt:=by show compareOfLessAndEq i j=_; unfold compareOfLessAndEq; rw [if_neg (by omega),if_neg (by omega)]
    rw [this,decide_eq_false (by omega)]; rfl
theorem y_fleq (hx:opv L x=some (.float .f64 a)) (hy:opv L y=some (.float .f64 b)) (ha:Wx a i) (hb:Wx b j):Yv P n (.binOp .leq t x y yt) ty L w (.bool (decide (i≤j))):=by
  intro ac dd pos after guard hag
  simp only [execOp,hag.eval hx,hag.eval hy,Sem.run_bind,run_eqGuard_fl,Result.andThen_ok,binOp_float_cmp_leq,ford ha hb,cmp_le,Sem.run_pure]
theorem y_fgeq (hx:opv L x=some (.float .f64 a)) (hy:opv L y=some (.float .f64 b)) (ha:Wx a i) (hb:Wx b j):Yv P n (.binOp .geq t x y yt) ty L w (.bool (decide (j≤i))):=by
  intro ac dd pos after guard hag
  simp only [execOp,hag.eval hx,hag.eval hy,Sem.run_bind,run_eqGuard_fl,Result.andThen_ok,binOp_float_cmp_geq,ford ha hb,cmp_ge,Sem.run_pure]
theorem y_feql (hx:opv L x=some (.float .f64 a)) (hy:opv L y=some (.float .f64 b)) (ha:Wx a i) (hb:Wx b j):Yv P n (.binOp .eql t x y yt) ty L w (.bool (decide (i=j))):=by
  intro ac dd pos after guard hag
  simp only [execOp,hag.eval hx,hag.eval hy,Sem.run_bind,run_eqGuard_fl,Result.andThen_ok,binOp_float_cmp_eql,ford ha hb,cmp_eq,Sem.run_pure]
theorem y_cadd {r q:Nat} (hx:opv L x=some (.complex .f64 a b)) (hy:opv L y=some (.complex .f64 c d)) (h1:Ieee.double.add a c=some r) (h2:Ieee.double.add b d=some q) :
    Yv P n (.binOp .add t x y yt) ty L w (.complex .f64 r q):=by
  intro ac dd pos after guard hag
  have h:cSumBits .add .f64 a b c d=some (r,q):=by
    have e1:floatBits .add .f64 a c=some r:=h1
    have e2:floatBits .add .f64 b d=some q:=h2
    simp [cSumBits,e1,e2]
  simp only [execOp,hag.eval hx,hag.eval hy,Sem.run_bind,run_eqGuard_cx,Result.andThen_ok,run_complex_sum w .add (.inl rfl) t .f64 a b c d r q h,Sem.run_pure]
theorem y_cmul {r q p1 p2 p3 p4:Nat} (hx:opv L x=some (.complex .f64 a b)) (hy:opv L y=some (.complex .f64 c d)) (h1:Ieee.double.mul a c=some p1) (h2:Ieee.double.mul b d=some p2) (h3:Ieee.double.sub p1 p2=some r)
    (h4:Ieee.double.mul a d=some p3) (h5:Ieee.double.mul b c=some p4) (h6:Ieee.double.add p3 p4=some q):Yv P n (.binOp .mul t x y yt) ty L w (.complex .f64 r q):=by
  intro ac dd pos after guard hag
  have h:cMulBits a b c d=some (r,q):=by
    have e1:floatBits .mul .f64 a c=some p1:=h1
    have e2:floatBits .mul .f64 b d=some p2:=h2
    have e3:floatBits .sub .f64 p1 p2=some r:=h3
    have e4:floatBits .mul .f64 a d=some p3:=h4
    have e5:floatBits .mul .f64 b c=some p4:=h5
    have e6:floatBits .add .f64 p3 p4=some q:=h6
    simp [cMulBits,e1,e2,e3,e4,e5,e6]
  simp only [execOp,hag.eval hx,hag.eval hy,Sem.run_bind,run_eqGuard_cx,Result.andThen_ok,run_complex_mul w t a b c d r q h,Sem.run_pure]
theorem y_cneg (hx:opv L x=some (.complex .f64 a b)):Yv P n (.unOp .neg t x) ty L w (.complex .f64 (Op.negFloat .f64 a) (Op.negFloat .f64 b)):=by
  intro ac dd pos after guard hag
  simp [execOp,hag.eval hx,Op.unary]
theorem y_i2f (hs:(P.underlying s).isSome=true) (ht:P.underlying t=some (.float .f64)) (hx:opv L x=some (.int .i64 i)):Yv P n (.convert s t x) ty L w (.float .f64 (FloatKind.f64.nearest i)):=by
  intro ac dd pos after guard hag
  simp only [execOp,hag.eval hx,Sem.run_bind,run_convert_int_float w s t .i64 .f64 i hs ht,Result.andThen_ok,Sem.run_pure]
  rfl
theorem y_f2i (hs:(P.underlying s).isSome=true) (ht:P.underlying t=some (.int .i64)) (hx:opv L x=some (.float .f64 a)) (ha:Wd a i):Yv P n (.convert s t x) ty L w (.int .i64 i):=by
  intro ac dd pos after guard hag
  simp only [execOp,hag.eval hx,Sem.run_bind,run_convert_float_int w s t .f64 .i64 a i hs ht (wd_toInt ha),Result.andThen_ok,Sem.run_pure]
theorem y_complex {ts:Array TypeId} (hx:opv L x=some (.float .f64 a)) (hy:opv L y=some (.float .f64 b)):Yv P n (.call { callee:=.builtin .complex,args:=#[x,y],argTypes:=ts }) ty L w (.complex .f64 a b):=by
  intro ac dd pos after guard hag
  simp [execOp,resolve,invoke,builtin,hag.eval hx,hag.eval hy,run_complex]
theorem y_real {ts:Array TypeId} (hx:opv L x=some (.complex .f64 a b)):Yv P n (.call { callee:=.builtin .real,args:=#[x],argTypes:=ts }) ty L w (.float .f64 a):=by
  intro ac dd pos after guard hag
  simp [execOp,resolve,invoke,builtin,hag.eval hx,run_real]
theorem y_imag {ts:Array TypeId} (hx:opv L x=some (.complex .f64 a b)):Yv P n (.call { callee:=.builtin .imag,args:=#[x],argTypes:=ts }) ty L w (.float .f64 b):=by
  intro ac dd pos after guard hag
  simp [execOp,resolve,invoke,builtin,hag.eval hx,run_imag]
end
end Go.Sx
