import Derived.Test.YtclblpmjamcknaaGreatCore4
namespace Go.Sx
open Go.RowKit
section
variable {P : Program} {n : Nat} {Q : Exit → Act → World → Prop} {L : Env} {w : World} {ops : Array Oper} {rest : List Oper} {o : Oper}
variable {M : List Nat} {d0 d : Dat} {we : World} {rs rs' : List Res}
inductive Part:Nat→Nat→List Value→List Value→Prop
  | nil (cs:List Value):Part 0 0 cs []
  | take (u:Value) {k:Nat} {cs out:List Value}:Part 0 k cs out→Part 0 (k + 1) (u :: cs) (u :: out)
  | skip (u:Value) {o k:Nat} {cs out:List Value}:Part o k cs out→Part (o + 1) k (u :: cs) out
theorem Part.spec {o k:Nat} {cs out:List Value} (h:Part o k cs out):∀ i u,out[i]?=some u→cs[o + i]?=some u:=by
  induction h with
  | nil cs=>intro i u hi; simp at hi
  | @take u k cs out h ih=>
    intro i v hi
    cases i with
    | zero=>simpa using hi
    | succ i=>have:=ih i v (by simpa using hi); simpa [Nat.add_comm,Nat.add_left_comm] using this
  | @skip u o k cs out h ih=>
    intro i v hi
    have:=ih i v hi
    rw [show o + 1 + i=(o + i) + 1 by omega]
    simpa using this
theorem CellsAt.part {b o f k:Nat} {cs out:List Value} (h:CellsAt w b o cs) (hp:Part f k cs out):CellsAt w b (o + f) out:=by
  intro j u hj
  have:=h (f + j) u (hp.spec j u hj)
  rw [show o + f + j=o + (f + j) by omega]
  exact this
theorem CellsAt.nth_ {b o i:Nat} {cs:List Value} {u:Value} (h:CellsAt w b o cs) (hi:nth cs i=some u):w.cell? ⟨b,o + i,none⟩=some u:=h i u (by rw [← nth_eq]; exact hi)
theorem wp_scope_ghost {P:Program} {a:Act} {w:World} {Q:Exit→Act→World→Prop} {c rest:Code} (l:Nat) (I:Nat→Act→World→Prop) (hf:findLabel c l=some rest)
    (first:c.wp P (Exit.jump l (fun a w=>∃ k,I k a w) Q) a w)
    (pass:∀ k a w,I k a w→rest.wp P (Exit.jump l (fun a' w'=>∃ k',k' < k∧I k' a' w') Q) a w):(Code.scope c).wp P Q a w:=by
  refine wp_scope_jumps l (fun a w=>∃ k,I k a w) (fun a w=>leastOf (fun k=>I k a w)) hf first ?_
  intro a w hI
  refine Code.wp_mono ?_ (pass _ a w (leastOf_spec hI).1)
  intro e a' w' hq
  cases e with
  | goto l'=>
    obtain ⟨rfl,k',hlt,hI'⟩:=hq
    exact ⟨rfl,⟨k',hI'⟩,Nat.lt_of_le_of_lt ((leastOf_spec ⟨k',hI'⟩).2 k' hI') hlt⟩
  | normal=>exact hq
  | exit id=>exact hq
  | ret=>exact hq
  | panic ch=>exact hq
  | outgrown=>exact hq
def Jmp0 {ι:Type} (n l:Nat) (st:ι→Env) (J:ι→World→Prop) (Q:Exit→Act→World→Prop):Exit→Act→World→Prop:=Exit.jump l (fun a w=>∃ i,Agree n a (st i)∧J i w) Q
def Jmp1 {ι:Type} (n l:Nat) (st:ι→Env) (J:ι→World→Prop) (μ:ι→Nat) (i:ι) (Q:Exit→Act→World→Prop):Exit→Act→World→Prop:=
  Exit.jump l (fun a' w'=>∃ j,μ j < μ i∧Agree n a' (st j)∧J j w') Q
theorem c_scope {ι:Type} (st:ι→Env) (J:ι→World→Prop) (μ:ι→Nat) {c rest:Code} (l:Nat) (hf:findLabel c l=some rest)
    (first:C P n (Jmp0 n l st J Q) c L w) (pass:∀ i w,J i w→C P n (Jmp1 n l st J μ i Q) rest (st i) w):C P n Q (.scope c) L w:=by
  intro a ha
  refine wp_scope_ghost l (fun k a w=>∃ i,μ i=k∧Agree n a (st i)∧J i w) hf ?_ ?_
  · refine Code.wp_mono ?_ (first a ha)
    intro e a' w' hq
    cases e with
    | goto l'=>obtain ⟨rfl,i,h1,h2⟩:=hq; exact ⟨rfl,μ i,i,rfl,h1,h2⟩
    | normal=>exact hq
    | exit id=>exact hq
    | ret=>exact hq
    | panic ch=>exact hq
    | outgrown=>exact hq
  · rintro k a w ⟨i,rfl,hi,hJ⟩
    refine Code.wp_mono ?_ (pass i w hJ a hi)
    intro e a' w' hq
    cases e with
    | goto l'=>obtain ⟨rfl,j,h1,h2,h3⟩:=hq; exact ⟨rfl,μ j,h1,j,rfl,h2,h3⟩
    | normal=>exact hq
    | exit id=>exact hq
    | ret=>exact hq
    | panic ch=>exact hq
    | outgrown=>exact hq
section
variable {ι : Type} {st : ι → Env} {J : ι → World → Prop} {μ : ι → Nat} {l : Nat} {i : ι}
theorem x_jmp0R (h:X n Q .ret L w):X n (Jmp0 n l st J Q) .ret L w:=fun a ha=>h a ha
theorem x_jmp1R (h:X n Q .ret L w):X n (Jmp1 n l st J μ i Q) .ret L w:=fun a ha=>h a ha
theorem x_jump1 (j:ι) (hlt:μ j < μ i) (hs:Sub L (st j)) (hJ:J j w):X n (Jmp1 n l st J μ i Q) (.goto l) L w:=fun _ ha=>⟨rfl,j,hlt,ha.sub hs,hJ⟩
end
def OnlyN (K:Act→World→Prop):Exit→Act→World→Prop
  | .normal,a,w=>K a w
  | _,_,_=>False
section
variable {K : Act → World → Prop} {S : World → Prop} {fuel : Nat} {listed listed' : Array Bool}
end
theorem x_draw (h:X n Q .normal L w):X n (fun _ a w=>Q .normal a w) .normal L w:=fun a ha=>h a ha
end
end Go.Sx
