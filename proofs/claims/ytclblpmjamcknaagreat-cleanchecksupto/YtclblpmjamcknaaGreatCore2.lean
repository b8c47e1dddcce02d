import Derived.Test.YtclblpmjamcknaaGreatCore1
namespace Go.Sx
open Go.RowKit
abbrev Dat:=Nat→Prop
structure Fr (M:List Nat) (w w':World):Prop where
  os:w'.os=w.os
  tape:w'.tape=w.tape
  output:w'.output=w.output
  size:w.heap.size≤w'.heap.size
  blk:∀ b,b < w.heap.size→b ∉ M→w'.heap[b]?=w.heap[b]?
theorem Fr.refl (M:List Nat) (w:World):Fr M w w:=⟨rfl,rfl,rfl,Nat.le_refl _,fun _ _ _=>rfl⟩
theorem Fr.below {w w':World} (h:Fr [] w w'):Below w.heap.size w w':=⟨h.os,h.tape,h.output,h.size,fun k hk=>h.blk k hk (by simp)⟩
theorem Fr.trans {M M':List Nat} {w w' w'':World} (h:Fr M w w') (h':Fr M' w' w'') (hM:∀ b,b ∈ M'→b ∈ M∨w.heap.size≤b):Fr M w w'':=
  ⟨h'.os.trans h.os,h'.tape.trans h.tape,h'.output.trans h.output,Nat.le_trans h.size h'.size,
    fun b hb hn=>(h'.blk b (Nat.lt_of_lt_of_le hb h.size) (fun hm=>(hM b hm).elim hn (fun hge=>absurd hb (by omega)))).trans (h.blk b hb hn)⟩
structure Le (d:Dat) (w:World) (d':Dat) (w':World):Prop where
  sub:∀ b,d b→d' b
  blk:∀ b,d b→w'.heap[b]?=w.heap[b]?
theorem Le.refl (d:Dat) (w:World):Le d w d w:=⟨fun _ h=>h,fun _ _=>rfl⟩
theorem Le.trans {d d' d'':Dat} {w w' w'':World} (h:Le d w d' w') (h':Le d' w' d'' w''):Le d w d'' w'':=
  ⟨fun b hb=>h'.sub b (h.sub b hb),fun b hb=>(h'.blk b (h.sub b hb)).trans (h.blk b hb)⟩
structure Grow (d:Dat) (w:World) (d':Dat) (w':World):Prop where
  sub:∀ b,d b→d' b
  new:∀ b,d' b→d b∨w.heap.size≤b
  lt:∀ b,d' b→b < w'.heap.size
theorem Grow.refl {d:Dat} {w w':World} (h:∀ b,d b→b < w.heap.size) (hs:w.heap.size≤w'.heap.size):Grow d w d w':=
  ⟨fun _ h=>h,fun _ h=>.inl h,fun b hb=>Nat.lt_of_lt_of_le (h b hb) hs⟩
theorem Le.t {d d' d'' : Dat} {w w' w'' : World} (h : Le d w d' w') (k : Le d' w' d'' w'') : Le d w d'' w'' := h.trans k
structure Res where
  fp:List Nat
  ok:Dat→World→Prop
  mono:∀ {d w d' w'},Le d w d' w'→(∀ b,b ∈ fp→w'.heap[b]?=w.heap[b]?)→ok d w→ok d' w'
  lt:∀ {d w},ok d w→∀ b,b ∈ fp→b < w.heap.size
theorem lt_of_some {w:World} {b:Nat} {o:Obj} (h:w.heap[b]?=some o):b < w.heap.size:=by
  rcases Nat.lt_or_ge b w.heap.size with h' | h'
  · exact h'
  · rw [Array.getElem?_eq_none h'] at h; cases h
def blk (b:Nat) (T:TypeId) (cs:List Value):Res where
  fp:=[b]
  ok:=fun _ w=>w.heap[b]?=some (.cells cs.toArray T (0,0))
  mono:=fun _ h hk=>(h b (by simp)).trans hk
  lt:=fun h b' hb=>by
    have:b'=b:=by simpa using hb
    subst this
    exact lt_of_some h
structure Inv (M:List Nat) (d0:Dat) (we:World) (d:Dat) (rs:List Res) (w:World):Prop where
  fr:Fr M we w
  sub:∀ b,d0 b→d b
  new:∀ b,d b→d0 b∨we.heap.size≤b
  lt:∀ b,d b→b < w.heap.size
  ok:∀ r ∈ rs,r.ok d w
  nod:∀ r ∈ rs,∀ b ∈ r.fp,¬ d b
  old:∀ r ∈ rs,∀ b ∈ r.fp,we.heap.size≤b∨b ∈ M
  sep:rs.Pairwise (fun r s=>∀ b ∈ r.fp,b ∉ s.fp)
theorem Inv.start {d:Dat} {w:World} (h:∀ b,d b→b < w.heap.size):Inv [] d w d [] w:=
  ⟨Fr.refl _ _,fun _ h=>h,fun _ h=>.inl h,h,by simp,by simp,by simp,.nil⟩
theorem Inv.grow {M:List Nat} {d0 d:Dat} {we w:World} {rs:List Res} (h:Inv M d0 we d rs w):Grow d0 we d w:=⟨h.sub,h.new,h.lt⟩
inductive Upd (r r':Res):List Res→List Res→Prop
  | hd (l:List Res):Upd r r' (r :: l) (r' :: l)
  | tl (s:Res) {l l':List Res}:Upd r r' l l'→Upd r r' (s :: l) (s :: l')
inductive Del (r:Res):List Res→List Res→Prop
  | hd (l:List Res):Del r (r :: l) l
  | tl (s:Res) {l l':List Res}:Del r l l'→Del r (s :: l) (s :: l')
theorem Upd.mem {r r':Res} {l l':List Res} (h:Upd r r' l l'):r ∈ l:=by
  induction h with
  | hd l=>exact .head _
  | tl s _ ih=>exact .tail _ ih
theorem Upd.cases {r r':Res} {l l':List Res} (h:Upd r r' l l'):∀ s ∈ l',s=r'∨s ∈ l:=by
  induction h with
  | hd l=>intro s hs; cases hs with
    | head=>exact .inl rfl
    | tail _ hs=>exact .inr (.tail _ hs)
  | tl s _ ih=>intro t ht; cases ht with
    | head=>exact .inr (.head _)
    | tail _ ht=>exact (ih t ht).imp id (.tail _)
theorem Del.mem {r:Res} {l l':List Res} (h:Del r l l'):r ∈ l:=by
  induction h with
  | hd l=>exact .head _
  | tl s _ ih=>exact .tail _ ih
theorem Del.sub {r:Res} {l l':List Res} (h:Del r l l'):∀ s ∈ l',s ∈ l:=by
  induction h with
  | hd l=>intro s hs; exact .tail _ hs
  | tl s _ ih=>intro t ht; cases ht with
    | head=>exact .head _
    | tail _ ht=>exact .tail _ (ih t ht)
theorem Del.sep {r:Res} {l l':List Res} (h:Del r l l') {R:Res→Res→Prop} (hp:l.Pairwise R):l'.Pairwise R:=by
  induction h with
  | hd l=>exact (List.pairwise_cons.1 hp).2
  | tl s hd ih=>
    have:=List.pairwise_cons.1 hp
    exact List.pairwise_cons.2 ⟨fun t ht=>this.1 t (hd.sub t ht),ih this.2⟩
theorem Upd.apart {r r':Res} {l l':List Res} (h:Upd r r' l l') (hp:l.Pairwise (fun r s=>∀ b ∈ r.fp,b ∉ s.fp))
    (hne:∀ s ∈ l,(∀ b ∈ s.fp,b ∉ r.fp)→∀ b ∈ r'.fp,b ∉ s.fp):l'.Pairwise (fun r s=>∀ b ∈ r.fp,b ∉ s.fp):=by
  induction h with
  | hd l=>
    have:=List.pairwise_cons.1 hp
    exact List.pairwise_cons.2 ⟨fun s hs b hb=>hne s (.tail _ hs) (fun c hc hr=>this.1 s hs c hr hc) b hb,this.2⟩
  | tl s hu ih=>
    have hq:=List.pairwise_cons.1 hp
    refine List.pairwise_cons.2 ⟨fun t ht b hb hbt=>?_,ih hq.2 (fun s' hs'=>hne s' (.tail _ hs'))⟩
    rcases hu.cases t ht with rfl | ht'
    · exact hne s (.head _) (hq.1 r hu.mem) b hbt hb
    · exact hq.1 t ht' b hb hbt
theorem Upd.other {r r':Res} {l l':List Res} (h:Upd r r' l l') (hp:l.Pairwise (fun r s=>∀ b ∈ r.fp,b ∉ s.fp)) :
    ∀ s ∈ l',s=r'∨(s ∈ l∧∀ b ∈ s.fp,b ∉ r.fp):=by
  induction h with
  | hd l=>
    have hq:=List.pairwise_cons.1 hp
    intro s hs; cases hs with
    | head=>exact .inl rfl
    | tail _ hs=>exact .inr ⟨.tail _ hs,fun b hb hr=>hq.1 s hs b hr hb⟩
  | tl s hu ih=>
    have hq:=List.pairwise_cons.1 hp
    intro t ht; cases ht with
    | head=>exact .inr ⟨.head _,hq.1 r hu.mem⟩
    | tail _ ht=>exact (ih hq.2 t ht).imp id (fun h=>⟨.tail _ h.1,h.2⟩)
theorem Del.other {r:Res} {l l':List Res} (h:Del r l l') (hp:l.Pairwise (fun r s=>∀ b ∈ r.fp,b ∉ s.fp)) :
    ∀ s ∈ l',s ∈ l∧∀ b ∈ s.fp,b ∉ r.fp:=by
  induction h with
  | hd l=>
    have hq:=List.pairwise_cons.1 hp
    intro s hs
    exact ⟨.tail _ hs,fun b hb hr=>hq.1 s hs b hr hb⟩
  | tl s hd ih=>
    have hq:=List.pairwise_cons.1 hp
    intro t ht; cases ht with
    | head=>exact ⟨.head _,hq.1 r hd.mem⟩
    | tail _ ht=>exact ⟨.tail _ (ih hq.2 t ht).1,(ih hq.2 t ht).2⟩
section
variable {M : List Nat} {d0 d d' : Dat} {we w w' : World} {rs rs' : List Res} {r r' : Res}
theorem Inv.fp_lt (h:Inv M d0 we d rs w) (hr:r ∈ rs):∀ b ∈ r.fp,b < w.heap.size:=r.lt (h.ok r hr)
theorem Inv.le (h:Inv M d0 we d rs w) {N:List Nat} (hf:Fr N w w') (hN:∀ b ∈ N,¬ d b) (hs:∀ b,d b→d' b):Le d w d' w':=
  ⟨hs,fun b hb=>hf.blk b (h.lt b hb) (fun hm=>hN b hm hb)⟩
theorem Inv.replace (h:Inv M d0 we d rs w) (hu:Upd r r' rs rs') (hf:Fr r.fp w w') (hg:Grow d w d' w') (hok:r'.ok d' w')
    (hfp:∀ b ∈ r'.fp,b ∈ r.fp∨w.heap.size≤b) (hnd:∀ b ∈ r'.fp,¬ d' b):Inv M d0 we d' rs' w'∧Le d w d' w':=by
  have hle:Le d w d' w':=h.le hf (h.nod r hu.mem) hg.sub
  have hoth:=hu.other h.sep
  have hsz:=h.fr.size
  refine ⟨⟨h.fr.trans hf (fun b hb=>(h.old r hu.mem b hb).symm.imp id id),fun b hb=>hg.sub b (h.sub b hb),?_,hg.lt,?_,?_,?_,?_⟩,hle⟩
  · intro b hb
    rcases hg.new b hb with hb | hb
    · exact h.new b hb
    · exact .inr (by omega)
  · intro s hs
    rcases hoth s hs with rfl | ⟨hs,hne⟩
    · exact hok
    · exact s.mono hle (fun b hb=>hf.blk b (h.fp_lt hs b hb) (hne b hb)) (h.ok s hs)
  · intro s hs
    rcases hoth s hs with rfl | ⟨hs,hne⟩
    · exact hnd
    · intro b hb hd
      rcases hg.new b hd with hd | hd
      · exact h.nod s hs b hb hd
      · have:=h.fp_lt hs b hb; omega
  · intro s hs b hb
    rcases hoth s hs with rfl | ⟨hs,hne⟩
    · rcases hfp b hb with hb | hb
      · exact h.old r hu.mem b hb
      · exact .inl (by omega)
    · exact h.old s hs b hb
  · refine hu.apart h.sep fun s hs hne b hb hbs=>?_
    rcases hfp b hb with hb | hb
    · exact hne b hbs hb
    · have:=h.fp_lt hs b hbs; omega
theorem Inv.pure (h:Inv M d0 we d rs w) (hf:Fr [] w w') (hg:Grow d w d' w'):Inv M d0 we d' rs w'∧Le d w d' w':=by
  have hle:Le d w d' w':=h.le hf (by simp) hg.sub
  have hsz:=h.fr.size
  refine ⟨⟨h.fr.trans hf (by simp),fun b hb=>hg.sub b (h.sub b hb),?_,hg.lt,?_,?_,h.old,h.sep⟩,hle⟩
  · intro b hb
    rcases hg.new b hb with hb | hb
    · exact h.new b hb
    · exact .inr (by omega)
  · intro s hs
    exact s.mono hle (fun b hb=>hf.blk b (h.fp_lt hs b hb) (by simp)) (h.ok s hs)
  · intro s hs b hb hd
    rcases hg.new b hd with hd | hd
    · exact h.nod s hs b hb hd
    · have:=h.fp_lt hs b hb; omega
theorem Inv.pureAdd (h:Inv M d0 we d rs w) (hf:Fr [] w w') (hg:Grow d w d' w') (hok:r.ok d' w') (hfp:∀ b ∈ r.fp,w.heap.size≤b) (hnd:∀ b ∈ r.fp,¬ d' b) :
    Inv M d0 we d' (r :: rs) w'∧Le d w d' w':=by
  obtain ⟨h',hle⟩:=h.pure hf hg
  have hsz:=h.fr.size
  refine ⟨⟨h'.fr,h'.sub,h'.new,h'.lt,?_,?_,?_,?_⟩,hle⟩
  · intro s hs; cases hs with
    | head=>exact hok
    | tail _ hs=>exact h'.ok s hs
  · intro s hs; cases hs with
    | head=>exact hnd
    | tail _ hs=>exact h'.nod s hs
  · intro s hs; cases hs with
    | head=>exact fun b hb=>.inl (by have:=hfp b hb; omega)
    | tail _ hs=>exact h'.old s hs
  · exact List.pairwise_cons.2 ⟨fun s hs b hb hbs=>by have:=h.fp_lt hs b hbs; have:=hfp b hb; omega,h'.sep⟩
theorem Inv.publish (h:Inv M d0 we d rs w) (hd:Del r rs rs') (hnew:∀ b ∈ r.fp,we.heap.size≤b) :
    Inv M d0 we (fun b=>d b∨b ∈ r.fp) rs' w∧Le d w (fun b=>d b∨b ∈ r.fp) w∧r.ok (fun b=>d b∨b ∈ r.fp) w:=by
  have hle:Le d w (fun b=>d b∨b ∈ r.fp) w:=⟨fun b hb=>.inl hb,fun _ _=>rfl⟩
  have hoth:=hd.other h.sep
  refine ⟨⟨h.fr,fun b hb=>.inl (h.sub b hb),?_,?_,?_,?_,fun s hs=>h.old s (hd.sub s hs),hd.sep h.sep⟩,hle,r.mono hle (fun _ _=>rfl) (h.ok r hd.mem)⟩
  · rintro b (hb | hb)
    · exact h.new b hb
    · exact .inr (hnew b hb)
  · rintro b (hb | hb)
    · exact h.lt b hb
    · exact h.fp_lt hd.mem b hb
  · intro s hs
    exact s.mono hle (fun _ _=>rfl) (h.ok s (hd.sub s hs))
  · rintro s hs b hb (hdb | hdb)
    · exact h.nod s (hd.sub s hs) b hb hdb
    · exact (hoth s hs).2 b hb hdb
theorem Inv.drop (h:Inv M d0 we d rs w) (hd:Del r rs rs'):Inv M d0 we d rs' w:=
  ⟨h.fr,h.sub,h.new,h.lt,fun s hs=>h.ok s (hd.sub s hs),fun s hs=>h.nod s (hd.sub s hs),fun s hs=>h.old s (hd.sub s hs),hd.sep h.sep⟩
theorem Inv.drew (h:Inv M d0 we d rs w):Inv M d0 we d rs w.drew:=
  (h.pure (w':=w.drew) ⟨rfl,rfl,rfl,Nat.le_refl _,fun _ _ _=>rfl⟩ (Grow.refl h.lt (Nat.le_refl _))).1
theorem Le.drew (d:Dat) (w:World):Le d w d w.drew:=⟨fun _ h=>h,fun _ _=>rfl⟩
end
end Go.Sx
