import Derived.Test.YtclblpmjamcknaaGreatCore13
import Derived.Laws.ComplexArith
namespace Go.Sx
open Ieee
theorem cut_exact (neg:Bool) (q k:Nat) (hq:0 < q):Toward.even.cut neg (q * 2 ^ k) k=q:=by
  have hlog:k≤(q * 2 ^ k).log2:=by
    rw [Nat.le_log2 (by have:=Nat.two_pow_pos k; exact Nat.ne_of_gt (Nat.mul_pos hq this))]
    exact Nat.le_mul_of_pos_left _ hq
  have hmin:min k ((q * 2 ^ k).log2 + 2)=k:=by omega
  unfold Toward.cut
  simp only [hmin,Nat.one_shiftLeft]
  have h1:q * 2 ^ k / 2 ^ k=q:=Nat.mul_div_cancel _ (Nat.two_pow_pos k)
  have h2:q * 2 ^ k % 2 ^ k=0:=Nat.mul_mod_left _ _
  have h3:=Nat.two_pow_pos k
  rw [h1,h2]
  have h5:(2 ^ k == 2 * 0)=false:=by simp
  simp [h5]
theorem log2_mul_pow (q k:Nat) (hq:0 < q):(q * 2 ^ k).log2=q.log2 + k:=by
  have hp:=Nat.two_pow_pos k
  have hne:q * 2 ^ k≠0:=Nat.ne_of_gt (Nat.mul_pos hq hp)
  have h1:2 ^ q.log2≤q:=Nat.log2_self_le (by omega)
  have h2:q < 2 ^ (q.log2 + 1):=Nat.lt_log2_self
  apply Nat.le_antisymm
  · have:q * 2 ^ k < 2 ^ (q.log2 + k + 1):=by
      rw [show q.log2 + k + 1=(q.log2 + 1) + k by omega,Nat.pow_add]
      exact Nat.mul_lt_mul_of_pos_right h2 hp
    have:=(Nat.log2_lt hne).2 this
    omega
  · rw [Nat.le_log2 hne,Nat.pow_add]
    exact Nat.mul_le_mul_right _ h1
theorem read_word (neg:Bool) {X:Nat} (hr:X < 2 ^ 63) (h1:¬ X < 2 ^ 52) (h2:X < 2047 * 2 ^ 52):double.read (double.word neg X)=.number neg (2 ^ 52 + X % 2 ^ 52) (-1074 + ((X / 2 ^ 52 - 1:Nat):Int)):=by
  have e1:double.signWeight=2 ^ 63:=by decide
  have e2:double.binade=2 ^ 52:=by decide
  have e3:double.infRung=2047 * 2 ^ 52:=by decide
  have e4:double.leastPlace=-1074:=by decide
  have hmod:double.word neg X % 2 ^ 63=X:=by
    unfold Format.word
    rw [e1]
    cases neg
    · exact Nat.mod_eq_of_lt hr
    · show (2 ^ 63 + X) % 2 ^ 63=X
      rw [Nat.add_mod_left]
      exact Nat.mod_eq_of_lt hr
  have hsgn:(double.word neg X / 2 ^ 63 % 2 == 1)=neg:=by
    unfold Format.word
    rw [e1]
    cases neg
    · show (X / 2 ^ 63 % 2 == 1)=false
      rw [Nat.div_eq_of_lt hr]; rfl
    · show ((2 ^ 63 + X) / 2 ^ 63 % 2 == 1)=true
      rw [Nat.add_div_left _ (Nat.two_pow_pos 63),Nat.div_eq_of_lt hr]; rfl
  unfold Format.read
  simp only [e1,e2,e3,e4,hmod,hsgn,if_neg h1,if_pos h2]
theorem nearest_exact (neg:Bool) {mag v K:Nat} {place:Int} (hv:0 < v) (hlt:v < 2 ^ 53) (hK:0≤place + K) (hval:mag * 2 ^ (place + K).toNat=v * 2 ^ K) :
    double.read (double.nearest neg mag place)=.number neg (v * 2 ^ (52 - v.log2)) ((v.log2:Int) - 52):=by
  have hL:v.log2≤52:=by
    have:=(Nat.log2_lt (by omega:v≠0)).2 hlt
    omega
  have hp:=Nat.two_pow_pos (place + K).toNat
  have hmag:0 < mag:=by
    rcases Nat.eq_zero_or_pos mag with h | h
    · subst h
      have:=Nat.mul_pos hv (Nat.two_pow_pos K)
      omega
    · exact h
  have hdig:(mag.log2:Int) + place=v.log2:=by
    have h1:=log2_mul_pow mag (place + K).toNat hmag
    have h2:=log2_mul_pow v K hv
    rw [hval,h2] at h1
    omega
  have hlast:max (place + (mag.log2:Int) - 52) (-1074)=(v.log2:Int) - 52:=by omega
  have hkept:Toward.even.cut neg (mag <<< (place - ((v.log2:Int) - 52)).toNat) (((v.log2:Int) - 52) - place).toNat=v * 2 ^ (52 - v.log2):=by
    rcases Int.le_total ((v.log2:Int) - 52) place with hle | hle
    · have e1:(((v.log2:Int) - 52) - place).toNat=0:=by omega
      obtain ⟨a,ha⟩:∃ a:Nat,place - ((v.log2:Int) - 52)=a:=⟨_,(Int.toNat_of_nonneg (by omega)).symm⟩
      have e2:mag * 2 ^ a=v * 2 ^ (52 - v.log2):=by
        have e3:(place + K).toNat + (52 - v.log2)=a + K:=by omega
        have:mag * 2 ^ a * 2 ^ K=v * 2 ^ (52 - v.log2) * 2 ^ K:=by
          rw [Nat.mul_assoc,← Nat.pow_add,← e3,Nat.pow_add,← Nat.mul_assoc,hval]
          rw [Nat.mul_assoc,Nat.mul_comm (2 ^ K),← Nat.mul_assoc]
        exact Nat.eq_of_mul_eq_mul_right (Nat.two_pow_pos K) this
      rw [e1,ha,Int.toNat_natCast,Nat.shiftLeft_eq,e2]
      have:=cut_exact neg (v * 2 ^ (52 - v.log2)) 0 (Nat.mul_pos hv (Nat.two_pow_pos _))
      simpa using this
    · have e1:(place - ((v.log2:Int) - 52)).toNat=0:=by omega
      obtain ⟨a,ha⟩:∃ a:Nat,((v.log2:Int) - 52) - place=a:=⟨_,(Int.toNat_of_nonneg (by omega)).symm⟩
      have e2:mag=v * 2 ^ (52 - v.log2) * 2 ^ a:=by
        have e3:(place + K).toNat + (52 - v.log2) + a=K:=by omega
        have:mag * 2 ^ (place + K).toNat=v * 2 ^ (52 - v.log2) * 2 ^ a * 2 ^ (place + K).toNat:=by
          rw [hval,Nat.mul_assoc,Nat.mul_assoc,← Nat.pow_add,← Nat.pow_add]
          congr 2; omega
        exact Nat.eq_of_mul_eq_mul_right hp this
      rw [e1,ha,Int.toNat_natCast,Nat.shiftLeft_zero,e2]
      exact cut_exact neg _ a (Nat.mul_pos hv (Nat.two_pow_pos _))
  have hk1:2 ^ 52≤v * 2 ^ (52 - v.log2):=by
    have h1:2 ^ v.log2≤v:=Nat.log2_self_le (by omega)
    calc 2 ^ 52=2 ^ v.log2 * 2 ^ (52 - v.log2):=by rw [← Nat.pow_add]; congr 1; omega
      _≤_:=Nat.mul_le_mul_right _ h1
  have hk2:v * 2 ^ (52 - v.log2) < 2 ^ 53:=by
    have h2:v < 2 ^ (v.log2 + 1):=Nat.lt_log2_self
    calc v * 2 ^ (52 - v.log2) < 2 ^ (v.log2 + 1) * 2 ^ (52 - v.log2):=Nat.mul_lt_mul_of_pos_right h2 (Nat.two_pow_pos _)
      _=2 ^ 53:=by rw [← Nat.pow_add]; congr 1; omega
  generalize hq:v * 2 ^ (52 - v.log2)=q at *
  have hw:double.nearest neg mag place=double.word neg ((v.log2 + 1022) * 2 ^ 52 + q):=by
    have e1:double.fractionBits=52:=rfl
    have e2:double.binade=2 ^ 52:=by decide
    have e3:double.infRung=2047 * 2 ^ 52:=by decide
    have e4:double.leastPlace=-1074:=by decide
    unfold Format.nearest
    rw [if_neg (by omega)]
    simp only [e1,e2,e3,e4]
    rw [show (place + (mag.log2:Int) - ((52:Nat):Int))=place + (mag.log2:Int) - 52 by rfl,hlast,hkept]
    have e5:((v.log2:Int) - 52 - -1074).toNat=v.log2 + 1022:=by omega
    rw [e5,Nat.min_eq_left]
    have h1:(v.log2 + 1022) * 2 ^ 52≤1074 * 2 ^ 52:=Nat.mul_le_mul_right _ (by omega)
    have h2:1074 * 2 ^ 52 + 2 ^ 53≤2047 * 2 ^ 52:=by decide
    exact Nat.le_trans (Nat.add_le_add h1 (Nat.le_of_lt hk2)) h2
  rw [hw]
  have hr:(v.log2 + 1022) * 2 ^ 52 + q < 2 ^ 63:=by
    have:(v.log2 + 1022) * 2 ^ 52≤1074 * 2 ^ 52:=Nat.mul_le_mul_right _ (by omega)
    omega
  have h1:¬ ((v.log2 + 1022) * 2 ^ 52 + q < 2 ^ 52):=by omega
  have h2:(v.log2 + 1022) * 2 ^ 52 + q < 2047 * 2 ^ 52:=by
    have:(v.log2 + 1022) * 2 ^ 52≤1074 * 2 ^ 52:=Nat.mul_le_mul_right _ (by omega)
    omega
  have h3:((v.log2 + 1022) * 2 ^ 52 + q) % 2 ^ 52=q - 2 ^ 52:=by omega
  have h4:((v.log2 + 1022) * 2 ^ 52 + q) / 2 ^ 52=v.log2 + 1023:=by omega
  obtain ⟨X,hX⟩:∃ X,(v.log2 + 1022) * 2 ^ 52 + q=X:=⟨_,rfl⟩
  rw [hX] at hr h1 h2 h3 h4 ⊢
  have e5:2 ^ 52 + (q - 2 ^ 52)=q:=Nat.add_sub_cancel' hk1
  have e6:(-1074:Int) + ((v.log2 + 1023 - 1:Nat):Int)=(v.log2:Int) - 52:=by omega
  rw [read_word neg hr h1 h2,h3,h4,e5,e6]
end Go.Sx
