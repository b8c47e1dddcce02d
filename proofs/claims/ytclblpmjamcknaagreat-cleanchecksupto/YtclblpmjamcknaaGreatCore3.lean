import Derived.Test.YtclblpmjamcknaaGreatCore2
import Derived.Maps.AppendAt
import Derived.Laws.OwnMore
import Derived.Laws.CopyRow
namespace Go.Sx
open Go.RowKit
inductive Reps {α:Type} (E:α→List Value→Prop):List α→List Value→Prop
  | nil:Reps E [] []
  | cons {x:α} {cs:List Value} {xs:List α} {ds:List Value}:E x cs→Reps E xs ds→Reps E (x :: xs) (cs ++ ds)
theorem Reps.mono {α:Type} {E F:α→List Value→Prop} (h:∀ x cs,E x cs→F x cs) {xs:List α} {ds:List Value} (hr:Reps E xs ds):Reps F xs ds:=by
  induction hr with
  | nil=>exact .nil
  | cons h1 _ ih=>exact .cons (h _ _ h1) ih
theorem Reps.append {α:Type} {E:α→List Value→Prop} {xs ys:List α} {ds es:List Value} (h:Reps E xs ds) (k:Reps E ys es):Reps E (xs ++ ys) (ds ++ es):=by
  induction h with
  | nil=>exact k
  | cons h1 _ ih=>rw [List.cons_append,List.append_assoc]; exact .cons h1 ih
theorem Reps.one {α:Type} {E:α→List Value→Prop} {x:α} {cs:List Value} (h:E x cs):Reps E [x] cs:=by
  have:=Reps.cons h (Reps.nil (E:=E))
  simpa using this
theorem Reps.length {α:Type} {E:α→List Value→Prop} {size:Nat} (hE:∀ x cs,E x cs→cs.length=size) {xs:List α} {ds:List Value} (h:Reps E xs ds):ds.length=xs.length * size:=by
  induction h with
  | nil=>simp
  | cons h1 _ ih=>simp [hE _ _ h1,ih,Nat.add_mul]; omega
theorem Reps.at_ {α:Type} {E:α→List Value→Prop} {size:Nat} (hE:∀ x cs,E x cs→cs.length=size) {xs:List α} {ds:List Value} (h:Reps E xs ds) :
    ∀ {i:Nat} {x:α},xs[i]?=some x→∃ pre cs post,ds=pre ++ (cs ++ post)∧pre.length=i * size∧E x cs:=by
  induction h with
  | nil=>intro i x hi; simp at hi
  | @cons y cs xs ds h1 h2 ih=>
    intro i x hi
    cases i with
    | zero=>simp at hi; subst hi; exact ⟨[],cs,ds,rfl,by simp,h1⟩
    | succ i=>
      obtain ⟨pre,cs',post,rfl,hl,hx⟩:=ih (by simpa using hi)
      exact ⟨cs ++ pre,cs',post,by simp,by simp [hE _ _ h1,hl,Nat.add_mul]; omega,hx⟩
theorem Reps.take {α:Type} {E:α→List Value→Prop} {size:Nat} (hE:∀ x cs,E x cs→cs.length=size) {xs:List α} {ds:List Value} (h:Reps E xs ds) :
    ∀ i,Reps E (xs.take i) (ds.take (i * size)):=by
  induction h with
  | nil=>intro i; simpa using Reps.nil
  | @cons y cs xs ds h1 h2 ih=>
    intro i
    cases i with
    | zero=>simpa using Reps.nil
    | succ i=>
      have hl:=hE _ _ h1
      have:(cs ++ ds).take ((i + 1) * size)=cs ++ ds.take (i * size):=by
        rw [List.take_append]
        have e1:(i + 1) * size - cs.length=i * size:=by rw [hl,Nat.add_mul]; omega
        rw [e1,List.take_of_length_le (by rw [hl,Nat.add_mul]; omega)]
      rw [this]
      exact .cons h1 (ih i)
theorem Reps.drop {α:Type} {E:α→List Value→Prop} {size:Nat} (hE:∀ x cs,E x cs→cs.length=size) {xs:List α} {ds:List Value} (h:Reps E xs ds) :
    ∀ i,Reps E (xs.drop i) (ds.drop (i * size)):=by
  induction h with
  | nil=>intro i; simpa using Reps.nil
  | @cons y cs xs ds h1 h2 ih=>
    intro i
    cases i with
    | zero=>simpa using Reps.cons h1 h2
    | succ i=>
      have hl:=hE _ _ h1
      have:(cs ++ ds).drop ((i + 1) * size)=ds.drop (i * size):=by
        rw [List.drop_append]
        have e1:(i + 1) * size - cs.length=i * size:=by rw [hl,Nat.add_mul]; omega
        rw [e1,List.drop_of_length_le (by rw [hl,Nat.add_mul]; omega)]
        simp
      rw [this]
      exact ih i
theorem Reps.set_ {α:Type} {E:α→List Value→Prop} {xs:List α} {pre cs post:List Value} {size:Nat} (hE:∀ x cs,E x cs→cs.length=size) {i:Nat} (hi:i < xs.length)
    (h:Reps E xs (pre ++ (cs ++ post))) (hp:pre.length=i * size) (hc:cs.length=size) {y:α} {cs':List Value} (hy:E y cs'):Reps E (xs.set i y) (pre ++ (cs' ++ post)):=by
  have h1:=h.take hE i
  have h2:=h.drop hE (i + 1)
  have e1:(pre ++ (cs ++ post)).take (i * size)=pre:=by rw [← hp]; simp
  have e2:(pre ++ (cs ++ post)).drop ((i + 1) * size)=post:=by
    have:(i + 1) * size=pre.length + (cs.length + 0):=by rw [hp,hc,Nat.add_mul]; omega
    rw [this]
    simp
  rw [e1] at h1
  rw [e2] at h2
  have e3:xs.set i y=xs.take i ++ y :: xs.drop (i + 1):=by
    rw [List.set_eq_take_append_cons_drop]
    simp [hi]
  rw [e3]
  exact h1.append (.cons hy h2)
structure Ty (α:Type) where
  size:Nat
  rel:Dat→World→α→List Value→Prop
  len:∀ {d w x cs},rel d w x cs→cs.length=size
  mono:∀ {d w d' w' x cs},Le d w d' w'→rel d w x cs→rel d' w' x cs
  one:∀ {d w x cs},rel d w x cs→∀ u ∈ cs,u.oneCell'=true
def big:Nat:=137438953472
structure SlAt {α:Type} (T:Ty α) (d:Dat) (w:World) (b o:Nat) (xs:List α) (cs:List Value):Prop where
  dat:d b
  reps:Reps (T.rel d w) xs cs
  cells:CellsAt w b o cs
def Sl {α:Type} (T:Ty α) (d:Dat) (w:World) (v:Value) (xs:List α):Prop:=
  ∃ A c,v=.slice A xs.length c∧xs.length≤c∧xs.length≤big∧(xs=[]∨∃ b o cs,A=some ⟨b,o,none⟩∧SlAt T d w b o xs cs)
section
variable {α : Type} {T : Ty α} {d d' : Dat} {w w' : World} {v : Value} {xs ys : List α} {b o : Nat} {cs : List Value}
theorem cell_of_heap (h:w'.heap[b]?=w.heap[b]?) (o:Nat):w'.cell? ⟨b,o,none⟩=w.cell? ⟨b,o,none⟩:=by simp [World.cell?,h]
theorem CellsAt.keep (h:CellsAt w b o cs) (hb:w'.heap[b]?=w.heap[b]?):CellsAt w' b o cs:=fun j u hu=>(cell_of_heap hb _).trans (h j u hu)
theorem CellsAt.sub {pre ds post:List Value} (h:CellsAt w b o (pre ++ (ds ++ post))):CellsAt w b (o + pre.length) ds:=by
  intro j u hu
  have hlt:j < ds.length:=by
    rcases Nat.lt_or_ge j ds.length with h' | h'
    · exact h'
    · rw [List.getElem?_eq_none h'] at hu; cases hu
  have:=h (pre.length + j) u (by
    rw [List.getElem?_append_right (by omega)]
    rw [show pre.length + j - pre.length=j by omega,List.getElem?_append_left hlt]
    exact hu)
  rw [show o + pre.length + j=o + (pre.length + j) by omega]
  exact this
theorem SlAt.mono (h:SlAt T d w b o xs cs) (hle:Le d w d' w'):SlAt T d' w' b o xs cs:=
  ⟨hle.sub b h.dat,h.reps.mono fun _ _ hx=>T.mono hle hx,h.cells.keep (hle.blk b h.dat)⟩
theorem Sl.mono (h:Sl T d w v xs) (hle:Le d w d' w'):Sl T d' w' v xs:=by
  obtain ⟨A,c,rfl,h1,h2,h3⟩:=h
  refine ⟨A,c,rfl,h1,h2,h3.imp id ?_⟩
  rintro ⟨b,o,cs,hA,hs⟩
  exact ⟨b,o,cs,hA,hs.mono hle⟩
theorem Sl.form (h:Sl T d w v xs):∃ A c,v=.slice A xs.length c∧xs.length≤c∧xs.length≤big:=by
  obtain ⟨A,c,rfl,h1,h2,_⟩:=h
  exact ⟨A,c,rfl,h1,h2⟩
theorem Sl.fm (h : Sl T d w v xs) : ∃ A c, v = .slice A xs.length c ∧ xs.length ≤ c ∧ xs.length ≤ 137438953472 := h.form
theorem Sl.m (h : Sl T d w v xs) (hle : Le d w d' w') : Sl T d' w' v xs := h.mono hle
theorem Sl.nil_ (T:Ty α) (d:Dat) (w:World) (A:Option Addr) (c:Nat):Sl T d w (.slice A 0 c) []:=⟨A,c,rfl,Nat.zero_le _,Nat.zero_le _,.inl rfl⟩
theorem Sl.at_ {A:Option Addr} {n c i:Nat} {x:α} (h:Sl T d w (.slice A n c) xs) (hi:xs[i]?=some x) :
    ∃ b o cs,A=some ⟨b,o,none⟩∧T.rel d w x cs∧CellsAt w b (o + i * T.size) cs∧d b:=by
  obtain ⟨A',c',hv,_,_,h3⟩:=h
  injection hv with hA _ _
  subst hA
  rcases h3 with rfl | ⟨b,o,cs,hA,hs⟩
  · simp at hi
  · obtain ⟨pre,cs',post,rfl,hl,hx⟩:=hs.reps.at_ (fun _ _ h=>T.len h) hi
    exact ⟨b,o,cs',hA,hx,by rw [← hl]; exact hs.cells.sub,hs.dat⟩
theorem Sl.len {A:Option Addr} {n c:Nat} (h:Sl T d w (.slice A n c) xs):n=xs.length∧xs.length≤c∧xs.length≤big:=by
  obtain ⟨A',c',hv,h1,h2,_⟩:=h
  injection hv with _ hn hc
  subst hc
  exact ⟨hn,h1,h2⟩
end
def Ty.slice {α:Type} (T:Ty α):Ty (List α) where
  size:=1
  rel:=fun d w xs cs=>∃ v,cs=[v]∧Sl T d w v xs
  len:=by rintro d w x cs ⟨v,rfl,_⟩; rfl
  mono:=by rintro d w d' w' x cs hle ⟨v,rfl,h⟩; exact ⟨v,rfl,h.mono hle⟩
  one:=by
    rintro d w x cs ⟨v,rfl,h⟩ u hu
    obtain ⟨A,c,rfl,_⟩:=h
    simp at hu; subst hu; rfl
def Ty.plain {α:Type} (size:Nat) (enc:α→List Value) (h:∀ x,(enc x).length=size∧(enc x).all (·.oneCell')=true):Ty α where
  size:=size
  rel:=fun _ _ x cs=>cs=enc x
  len:=by rintro d w x cs rfl; exact (h x).1
  mono:=by rintro d w d' w' x cs _ rfl; rfl
  one:=by
    rintro d w x cs rfl u hu
    have:=(h x).2
    rw [List.all_eq_true] at this
    exact this u hu
def row {α:Type} (T:Ty α) (e:TypeId) (v:Value) (xs:List α):Res where
  fp:=v.ownBlock.toList
  ok:=fun d w=>∃ cells,Reps (T.rel d w) xs cells∧w.ownsRow 0 e T.size v xs.length cells∧xs.length≤big
  mono:=by
    rintro d w d' w' hle hk ⟨cells,h1,h2,h3⟩
    refine ⟨cells,h1.mono fun _ _ hx=>T.mono hle hx,⟨h2.1,?_⟩,h3⟩
    rcases h2.2 with hn | ⟨g,cap,cur,hv,hb,hg,rest⟩
    · exact .inl hn
    · refine .inr ⟨g,cap,cur,hv,hb,?_,rest⟩
      rw [hk g (by simp [hv,Value.ownBlock])]
      exact hg
  lt:=by
    rintro d w ⟨cells,_,h2,_⟩ b hb
    have:v.ownBlock=some b:=by simpa [Option.mem_toList] using hb
    exact (h2.lt b this).2
section
variable {α : Type} {T : Ty α} {d d' : Dat} {w w' : World} {v : Value} {xs ys : List α} {e : TypeId}
theorem row_nil (T:Ty α) (e:TypeId) (d:Dat) (w:World):(row T e (.slice none 0 0) []).ok d w:=
  ⟨[],.nil,World.ownsRow_nil _ _ _ _,Nat.zero_le _⟩
theorem row_sl (h:(row T e v xs).ok d w) (hd:∀ b ∈ (row T e v xs).fp,d b):Sl T d w v xs:=by
  obtain ⟨cells,h1,h2,h3⟩:=h
  rcases h2.2 with ⟨rfl,hn⟩ | ⟨g,cap,cur,rfl,hb,hg,hc,hm,hs,ht⟩
  · have:xs=[]:=List.eq_nil_of_length_eq_zero hn
    subst this
    exact Sl.nil_ T d w none 0
  · refine ⟨_,_,rfl,hc,h3,.inr ⟨g,0,cells,rfl,hd g (by simp [row,Value.ownBlock]),h1,?_⟩⟩
    intro j u hu
    have:=h2.cells (g:=g) rfl j u hu
    simpa [add_none] using this
theorem row_form (h:(row T e v xs).ok d w):∃ A c,v=.slice A xs.length c∧xs.length≤c∧xs.length≤big:=by
  obtain ⟨cells,h1,h2,h3⟩:=h
  rcases h2.2 with ⟨rfl,hn⟩ | ⟨g,cap,cur,rfl,hb,hg,hc,hm,hs,ht⟩
  · exact ⟨none,0,by rw [hn],by omega,h3⟩
  · exact ⟨_,cap,rfl,hc,h3⟩
theorem row_at {A:Option Addr} {n c i:Nat} {x:α} (h:(row T e (.slice A n c) xs).ok d w) (hi:xs[i]?=some x) :
    ∃ g cs,A=some ⟨g,0,none⟩∧T.rel d w x cs∧CellsAt w g (i * T.size) cs:=by
  obtain ⟨cells,h1,h2,h3⟩:=h
  rcases h2.2 with ⟨hv,hn⟩ | ⟨g,cap,cur,hv,hb,hg,hc,hm,hs,ht⟩
  · have:xs=[]:=List.eq_nil_of_length_eq_zero hn
    subst this
    simp at hi
  · injection hv with hA _ _
    subst hA
    have hca:CellsAt w g 0 cells:=by
      intro j u hu
      have:=h2.cells (g:=g) rfl j u hu
      simpa [add_none] using this
    obtain ⟨pre,cs',post,rfl,hl,hx⟩:=h1.at_ (fun _ _ h=>T.len h) hi
    have:=hca.sub (pre:=pre) (ds:=cs') (post:=post)
    refine ⟨g,cs',rfl,hx,?_⟩
    rw [Nat.zero_add,hl] at this
    exact this
end
end Go.Sx
