import Derived.Test.YtclblpmjamcknaaGreatP1
set_option linter.unusedVariables false
set_option linter.unusedSimpArgs false
namespace Go.Proofs.YtclblpmjamcknaaGreat
open Go.Sx
theorem pWhole_in {x:Int} (h:-9007199254740992≤x∧x≤9007199254740992):pWhole x=true:=by
  unfold pWhole; rw [if_pos h.1,if_pos h.2]; simp
theorem pRight_in {p:Pr} (h1:-9007199254740992≤p.re∧p.re≤9007199254740992) (h2:-9007199254740992≤p.im∧p.im≤9007199254740992):pRight p=true:=by
  unfold pRight; simp only [bnd,pWhole_in h1,pWhole_in h2,cond_true]
theorem pSub_in {a b:Pr} (h1:-100000000000≤a.re∧a.re≤100000000000) (h2:-100000000000≤a.im∧a.im≤100000000000) (h3:-100000000000≤b.re∧b.re≤100000000000) (h4:-100000000000≤b.im∧b.im≤100000000000):pSub a b=(⟨a.re - b.re,a.im - b.im⟩,0):=by
  unfold pSub pAdd2
  simp only [bnd]
  rw [pRight_in (by omega) (by omega),pRight_in (by show _≤0 + a.re∧0 + a.re≤_; omega) (by show _≤0 + a.im∧0 + a.im≤_; omega),pRight_in (by show _≤-b.re∧-b.re≤_; omega) (by show _≤-b.im∧-b.im≤_; omega),pRight_in (by show _≤0 + a.re + -b.re∧0 + a.re + -b.re≤_; omega) (by show _≤0 + a.im + -b.im∧0 + a.im + -b.im≤_; omega)]
  simp only [cond_true]
  rw [show 0 + a.re + -b.re=a.re - b.re by omega,show 0 + a.im + -b.im=a.im - b.im by omega]
theorem shLess_ok {a b:Share} (h:(shLess a b).2=0):shLess a b=(⟨a.ee - b.ee,a.er - b.er⟩,0)∧((-100000000000≤a.ee∧a.ee≤100000000000)∧(-100000000000≤a.er∧a.er≤100000000000)∧(-100000000000≤b.ee∧b.ee≤100000000000)∧(-100000000000≤b.er∧b.er≤100000000000))∧(-100000000000≤a.ee - b.ee∧a.ee - b.ee≤100000000000)∧(-100000000000≤a.er - b.er∧a.er - b.er≤100000000000):=by
  unfold shLess at h ⊢
  simp only [bnd] at h ⊢
  cases hr:mRight [a.ee,a.er,b.ee,b.er] with
  | false=>rw [hr] at h; cases h
  | true=>
    have hd:=mRight4 hr
    rw [hr] at h
    simp only [cond_true] at h ⊢
    rw [pShare_val (s:=a) (by omega) (by omega),pShare_val (s:=b) (by omega) (by omega)] at h ⊢
    simp only [ne_eq,not_true_eq_false,if_false,reduceIte] at h ⊢
    rw [pSub_in (by simp only; omega) (by simp only; omega) (by simp only; omega) (by simp only; omega)] at h ⊢
    simp only [ne_eq,not_true_eq_false,if_false,reduceIte] at h ⊢
    unfold pSides at h ⊢
    rw [pRight_in (by simp only; omega) (by simp only; omega)] at h ⊢
    simp only [bnd,cond_true,ne_eq,not_true_eq_false,if_false,reduceIte] at h ⊢
    cases hr2:mRight [a.ee - b.ee,a.er - b.er] with
    | false=>rw [hr2] at h; cases h
    | true=>
      have h5:=mRight_mem hr2 _ (.head _)
      have h6:=mRight_mem hr2 _ (.tail _ (.head _))
      exact ⟨rfl,hd,h5,h6⟩
def rest:List Share→List Share→List Share
  | a :: l,b :: m=>⟨a.ee - b.ee,a.er - b.er⟩ :: rest l m
  | _,_=>[]
def smallS (a b:Share):Prop:=((-100000000000≤a.ee∧a.ee≤100000000000)∧(-100000000000≤a.er∧a.er≤100000000000)∧(-100000000000≤b.ee∧b.ee≤100000000000)∧(-100000000000≤b.er∧b.er≤100000000000))∧(-100000000000≤a.ee - b.ee∧a.ee - b.ee≤100000000000)∧(-100000000000≤a.er - b.er∧a.er - b.er≤100000000000)
inductive Near:List Share→List Share→Prop
  | nil:Near [] []
  | cons {a b l m}:smallS a b→Near l m→Near (a :: l) (b :: m)
theorem shDelta_l1_ok (posted:List Share):∀ (l:List Share) (k:Nat) (xs:List Share),posted.length=k + l.length→(∃ y e,e≠0∧shDelta_l1 posted l k xs=.ret (y,e))∨(shDelta_l1 posted l k xs=.next (xs ++ rest l (posted.drop k))∧Near l (posted.drop k))
  | [],k,xs,hk=>by
    right
    have:posted.drop k=[]:=List.drop_eq_nil_of_le (by simp at hk; omega)
    rw [this]
    refine ⟨?_,.nil⟩
    unfold shDelta_l1; simp [rest]
  | a :: l,k,xs,hk=>by
    have hk2:k < posted.length:=by simp at hk; omega
    have e:posted.drop k=posted[k] :: posted.drop (k + 1):=List.drop_eq_getElem_cons hk2
    have em:shDelta_m1 posted k a=((shLess a posted[k]).2,(shLess a posted[k]).1.ee,(shLess a posted[k]).1.er):=by
      unfold shDelta_m1; rw [List.getElem?_eq_getElem hk2]; rfl
    unfold shDelta_l1
    rw [em]
    simp only [bnd]
    by_cases h1:(shLess a posted[k]).2≠0
    · rw [if_pos h1]; exact .inl ⟨_,_,h1,rfl⟩
    rw [if_neg h1]
    have h2:=shLess_ok (Decidable.not_not.1 h1)
    rw [h2.1]
    rcases shDelta_l1_ok posted l (k + 1) (xs ++ [⟨a.ee - posted[k].ee,a.er - posted[k].er⟩]) (by simp at hk; omega) with h3 | ⟨h3,h4⟩
    · exact .inl h3
    · right
      rw [h3,e]
      exact ⟨by simp [rest],.cons h2.2 h4⟩
theorem shDelta_ok {due posted:List Share} (h:(shDelta due posted).2=0):shDelta due posted=(rest due posted,0)∧Near due posted:=by
  unfold shDelta at h ⊢
  by_cases h1:(due.length:Int)≠posted.length
  · rw [if_pos h1] at h; cases h
  rw [if_neg h1] at h ⊢
  rcases shDelta_l1_ok posted due 0 [] (by omega) with ⟨y,e,h2,h3⟩ | ⟨h3,h4⟩
  · rw [h3] at h; exact absurd h h2
  · rw [h3]; exact ⟨by simp [out],by simpa using h4⟩
theorem pTotal2_ok {a b:Share} (h:(pTotal [a,b]).2=0):pTotal [a,b]=(⟨a.ee + b.ee,a.er + b.er⟩,0):=by
  unfold pTotal at h ⊢
  unfold pTotal_l1 at h ⊢
  simp only [bnd] at h ⊢
  by_cases h1:(mAdd 0 a.ee).2≠0
  · rw [if_pos h1] at h; exact absurd h h1
  rw [if_neg h1] at h ⊢
  rw [(mAdd_ok (Decidable.not_not.1 h1)).1] at h ⊢
  by_cases h2:(mAdd 0 a.er).2≠0
  · rw [if_pos h2] at h; exact absurd h h2
  rw [if_neg h2] at h ⊢
  rw [(mAdd_ok (Decidable.not_not.1 h2)).1] at h ⊢
  unfold pTotal_l1 at h ⊢
  simp only [bnd] at h ⊢
  by_cases h3:(mAdd (0 + a.ee) b.ee).2≠0
  · rw [if_pos h3] at h; exact absurd h h3
  rw [if_neg h3] at h ⊢
  rw [(mAdd_ok (Decidable.not_not.1 h3)).1] at h ⊢
  by_cases h4:(mAdd (0 + a.er) b.er).2≠0
  · rw [if_pos h4] at h; exact absurd h h4
  rw [if_neg h4] at h ⊢
  rw [(mAdd_ok (Decidable.not_not.1 h4)).1] at h ⊢
  simp [pTotal_l1,out]
def plus:List Share→List Share→List Share
  | a :: l,b :: m=>⟨a.ee + b.ee,a.er + b.er⟩ :: plus l m
  | l,_=>l
theorem sSum_l2_ok:∀ (l:List Share) (k:Nat) (xs:List Share),xs.length=k + l.length→(∃ y e,e≠0∧sSum_l2 l k xs=.ret (.ret (y,e)))∨sSum_l2 l k xs=.next (xs.take k ++ plus (xs.drop k) l)
  | [],k,xs,hk=>by
    right
    have:xs.drop k=[]:=List.drop_eq_nil_of_le (by simp at hk; omega)
    rw [this,List.take_of_length_le (by simp at hk; omega)]
    unfold sSum_l2; simp [plus]
  | a :: l,k,xs,hk=>by
    have hk2:k < xs.length:=by simp at hk; omega
    have e:xs.drop k=xs[k] :: xs.drop (k + 1):=List.drop_eq_getElem_cons hk2
    have em:sSum_m1 xs k a=((pTotal [xs[k],a]).2,(pTotal [xs[k],a]).1.ee,(pTotal [xs[k],a]).1.er):=by
      unfold sSum_m1; rw [List.getElem?_eq_getElem hk2]; rfl
    unfold sSum_l2
    rw [em,List.getElem?_eq_getElem hk2]
    simp only [bnd,opt]
    by_cases h1:(pTotal [xs[k],a]).2≠0
    · rw [if_pos h1]; exact .inl ⟨_,_,h1,rfl⟩
    rw [if_neg h1]
    have h2:=pTotal2_ok (Decidable.not_not.1 h1)
    rw [h2]
    rcases sSum_l2_ok l (k + 1) (xs.set k ⟨xs[k].ee + a.ee,xs[k].er + a.er⟩) (by simp at hk ⊢; omega) with h3 | h3
    · exact .inl h3
    · right
      rw [h3,e]
      congr 1
      rw [List.take_succ_eq_append_getElem (by simpa using hk2),List.drop_set_of_lt (by omega)]
      simp [plus]
      rw [List.take_set,List.set_eq_of_length_le (by simp; omega)]
theorem sSum2_ok {a b:List Share} {n:Nat} (hn:n≤64) (ha:a.length=n) (hb:b.length=n) (h:(sSum (n:Int) [a,b]).2=0):sSum (n:Int) [a,b]=(plus (plus (List.replicate n ⟨0,0⟩) a) b,0):=by
  unfold sSum at h ⊢
  rw [if_neg (by omega),if_neg (by omega)] at h ⊢
  simp only [Int.toNat_natCast] at h ⊢
  have len:∀ (l m:List Share),(plus l m).length=l.length:=by
    intro l
    induction l with
    | nil=>intro m; cases m <;> rfl
    | cons x l ih=>intro m; cases m with
      | nil=>rfl
      | cons y m=>simp [plus,ih]
  unfold sSum_l1 at h ⊢
  rw [if_neg (by omega)] at h ⊢
  rcases sSum_l2_ok a 0 (List.replicate n ⟨0,0⟩) (by simp; omega) with ⟨y,e,h2,h3⟩ | h3
  · rw [h3] at h; exact absurd h h2
  rw [h3] at h ⊢
  simp only [out,List.take_zero,List.nil_append,List.drop_zero] at h ⊢
  unfold sSum_l1 at h ⊢
  rw [if_neg (by omega)] at h ⊢
  rcases sSum_l2_ok b 0 (plus (List.replicate n ⟨0,0⟩) a) (by rw [len]; simp; omega) with ⟨y,e,h2,h4⟩ | h4
  · rw [h4] at h; exact absurd h h2
  rw [h4] at h ⊢
  simp [out,sSum_l1]
theorem plus_zero:∀ (l:List Share),plus (List.replicate l.length ⟨0,0⟩) l=l
  | []=>rfl
  | a :: l=>by simp [List.replicate_succ,plus,plus_zero l]
theorem plus_rest:∀ {l m:List Share},Near l m→plus m (rest l m)=l
  | _,_,.nil=>rfl
  | _,_,.cons (a:=a) (b:=b) h1 h=>by
    simp only [rest,plus,plus_rest h]
    rw [show b.ee + (a.ee - b.ee)=a.ee by omega,show b.er + (a.er - b.er)=a.er by omega]
theorem rest_len:∀ {l m:List Share},Near l m→(rest l m).length=m.length
  | _,_,.nil=>rfl
  | _,_,.cons h1 h=>by simp [rest,rest_len h]
theorem sSum_n {n:Int} {l:List (List Share)} (h:(sSum n l).2=0):0≤n∧n≤64:=by
  unfold sSum at h
  by_cases h1:n < 0
  · rw [if_pos h1] at h; cases h
  rw [if_neg h1] at h
  by_cases h2:64 < n
  · rw [if_pos h2] at h; cases h
  omega
theorem shPost_ok {due posted:List Share} (hd:Near due posted) (h:(shPost posted (rest due posted)).2=0):shPost posted (rest due posted)=(due,0):=by
  unfold shPost at h ⊢
  rw [if_neg (by rw [rest_len hd]; simp)] at h ⊢
  simp only [bnd] at h ⊢
  rw [sSum2_ok (by have:=sSum_n h; omega) rfl (rest_len hd) h]
  rw [plus_zero,plus_rest hd]
end Go.Proofs.YtclblpmjamcknaaGreat
