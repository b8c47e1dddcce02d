import Derived.Test.YtclblpmjamcknaaGreatCore9
import Derived.KernelRfl
namespace Go.Sx
open Go.RowKit
section
variable {P : Program} {n : Nat} {Q : Exit → Act → World → Prop} {L : Env} {w : World} {ops : Array Oper} {rest : List Oper} {o : Oper}
variable {M : List Nat} {d0 d : Dat} {we : World} {rs rs' : List Res} {r : Res}
theorem Inv.front (h:Inv M d0 we d rs w) (hd:Del r rs rs'):Inv M d0 we d (r :: rs') w:=by
  have hoth:=hd.other h.sep
  refine ⟨h.fr,h.sub,h.new,h.lt,?_,?_,?_,?_⟩
  · intro s hs; cases hs with
    | head=>exact h.ok r hd.mem
    | tail _ hs=>exact h.ok s (hd.sub s hs)
  · intro s hs; cases hs with
    | head=>exact h.nod r hd.mem
    | tail _ hs=>exact h.nod s (hd.sub s hs)
  · intro s hs; cases hs with
    | head=>exact h.old r hd.mem
    | tail _ hs=>exact h.old s (hd.sub s hs)
  · exact List.pairwise_cons.2 ⟨fun s hs b hb hbs=>(hoth s hs).2 b hbs hb,hd.sep h.sep⟩
inductive AllI (p:Nat→Prop):List Nat→Prop
  | nil:AllI p []
  | cons {i:Nat} {l:List Nat}:p i→AllI p l→AllI p (i :: l)
theorem AllI.mem {p:Nat→Prop} {l:List Nat} (h:AllI p l):∀ i ∈ l,p i:=by
  induction h with
  | nil=>simp
  | cons h1 _ ih=>intro j hj; cases hj with
    | head=>exact h1
    | tail _ hj=>exact ih j hj
section
variable {K : Act → World → Prop} {S : World → Prop} {fuel : Nat} {listed listed' : Array Bool} {is : List Nat}
end
theorem c_scopeP {ι:Type} (st:ι→Env) (J:ι→World→Prop) (μ:ι→Nat) {c post:Code} (l:Nat) (hf:findLabel c l=some (.seq .skip post))
    (pass:∀ i w,J i w→C P n (Jmp1 n l st J μ i Q) post (st i) w)
    (first:(∀ i w L',J i w→Sub L' (st i)→C P n (Jmp0 n l st J Q) post L' w)→C P n (Jmp0 n l st J Q) c L w):C P n Q (.scope c) L w:=by
  refine c_scope st J μ l hf (first ?_) (fun i w hJ=>c_seq (c_skip (x_next (pass i w hJ))))
  intro i w L' hJ hs
  refine c_sub hs (c_mono ?_ (pass i w hJ))
  intro e a w hq
  cases e with
  | goto l'=>obtain ⟨h1,j,_,h2,h3⟩:=hq; exact ⟨h1,j,h2,h3⟩
  | normal=>exact hq
  | exit id=>exact hq
  | ret=>exact hq
  | panic ch=>exact hq
  | outgrown=>exact hq
def byteAt (s:ByteArray) (i:Nat):Int:=((s[i]?).map (·.toNat)).getD 0
theorem y_indexStr {t ty:TypeId} {x y:Operand} {k:IntKind} {j:Int} {i:Nat} {s:ByteArray} (ht:P.underlying t=some .string) (hx:opv L x=some (.string s)) (hy:opv L y=some (.int k j)) (hj:j=(i:Int)) (hlt:i < s.size) :
    Yv P n (.index t x y) ty L w (.int .u8 (byteAt s i)):=by
  intro a d pos after guard ha
  subst hj
  have h1:s[i]?=some s[i]:=by simp [hlt]
  simp [execOp,ha.eval hx,ha.eval hy,Instr.index,asIntOf,underlying,ht,byteAt,h1]
end
end Go.Sx
namespace Go.Sx
open Go.RowKit
section
variable {P : Program} {n : Nat} {Q : Exit → Act → World → Prop} {L : Env} {w : World} {ops : Array Oper} {rest : List Oper}
theorem bt {b:Bool} (h:b=true):some (Value.bool b)=some (.bool true):=by rw [h]
theorem bf {b:Bool} (h:b=false):some (Value.bool b)=some (.bool false):=by rw [h]
end
end Go.Sx
namespace Go.Sx
open Go.RowKit
end Go.Sx
