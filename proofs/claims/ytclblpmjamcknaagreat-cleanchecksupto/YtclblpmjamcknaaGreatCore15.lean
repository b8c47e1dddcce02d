import Derived.Test.YtclblpmjamcknaaGreatCore14
namespace Go.Sx
open Go.RowKit
section
variable {P : Program} {n : Nat} {ops : Array Oper} {K : Act → World → Prop} {k : Nat} {S S' : World → Prop} {fuel : Nat} {listed : Array Bool} {L : Env} {w : World}
def wpK (P:Program) (ops:Array Oper) (K:Act→World→Prop) (k:Nat) (S:World→Prop):Nat→Array Bool→Act→World→Prop
  | 0,listed,a,w=>Region.ready .any ops listed=[]∧K a w
  | fuel + 1,listed,a,w=>(Region.ready .any ops listed=[]→K a w)∧∀ i ∈ Region.ready .any ops listed,
      wpOp P ops (OnlyN K) i (fun a' w'=>((listed.setIfInBounds i true).getD k false=false→S w')∧wpK P ops K k S fuel (listed.setIfInBounds i true) a' w') a w
theorem any_of_wpK:∀ (fuel:Nat) (listed:Array Bool) (a:Act) (w:World),wpK P ops K k S fuel listed a w→wpAny P .any ops (OnlyN K) fuel listed a w
  | 0,_,_,_,h=>h
  | fuel + 1,_,_,_,h=>⟨h.1,fun i hi=>wpOp_mono (fun a' w' h'=>any_of_wpK fuel _ a' w' h'.2) (h.2 i hi)⟩
theorem wpK_strong (hSS:∀ w,S' w→S w):∀ (fuel:Nat) (listed:Array Bool) (a:Act) (w:World),wpK P ops K k S' fuel listed a w→wpK P ops K k S fuel listed a w
  | 0,_,_,_,h=>h
  | fuel + 1,_,_,_,h=>⟨h.1,fun i hi=>wpOp_mono (fun a' w' h'=>⟨fun hb=>hSS _ (h'.1 hb),wpK_strong hSS fuel _ a' w' h'.2⟩) (h.2 i hi)⟩
def waitsB (ops:Array Oper) (k i:Nat):Bool:=
  match ops[k]? with
  | none=>true
  | some o=>k != i && o.after.any (fun e=>Region.binds .any e && e.on == i)
theorem waitsB_spec {i:Nat} (h:waitsB ops k i=true) (hr:i ∈ Region.ready .any ops listed):∀ j ∈ Region.ready .any ops listed,j≠k:=by
  rintro j hj rfl
  obtain ⟨h0,o,ho,hall⟩:=mem_ready.1 hj
  unfold waitsB at h
  rw [ho] at h
  simp only [Bool.and_eq_true,Array.any_eq_true] at h
  obtain ⟨_,e,he,h2⟩:=h
  simp only [Bool.and_eq_true,beq_iff_eq] at h2
  have h3:=hall (o.after[e]) (Array.getElem_mem he) h2.1
  have h4:=(mem_ready.1 hr).1
  rw [h2.2] at h3
  rcases Nat.lt_or_ge i listed.size with h' | h'
  · simp [h'] at h3 h4
    rw [h3] at h4; cases h4
  · simp [Array.getElem?_eq_none h'] at h3
theorem wpK_first {i:Nat} {oi:Oper} {v:Value} (hi:ops[i]?=some oi) (hsel:∀ (j:Nat) (o:Oper) cs b,ops[j]?=some o→o.op≠.select cs b) (hw:waitsB ops k i=true) :
    ∀ (fuel:Nat) (listed:Array Bool) (a:Act) (w:World),
      (∀ j oj,ops[j]?=some oj→j≠i→listed.getD j true=false→(∀ e ∈ oj.after,Region.binds .any e=true→e.on≠i)→oi.apart ops oj=true) →
      i ∈ Region.ready .any ops listed→YieldsIf P ops S oi v a→S w→listed.getD k false=false →
      wpK P ops K k S fuel (listed.setIfInBounds i true) (a.put oi.dst v) w→wpK P ops K k S (fuel + 1) listed a w:=by
  intro fuel
  induction fuel with
  | zero=>
    intro listed a w _ hr hy hS hk H
    refine ⟨fun h=>(by rw [h] at hr; cases hr),fun j hj=>?_⟩
    by_cases hji:j=i
    · subst hji; exact hy.wpOp hi hS ⟨fun _=>hS,H⟩
    · have h2:=ready_mono hj hji
      rw [H.1] at h2
      cases h2
  | succ fuel ih=>
    intro listed a w hfree hr hy hS hk H
    refine ⟨fun h=>(by rw [h] at hr; cases hr),fun j hj=>?_⟩
    by_cases hji:j=i
    · subst hji; exact hy.wpOp hi hS ⟨fun _=>hS,H⟩
    · have hjk:j≠k:=waitsB_spec hw hr j hj
      have h1:=H.2 j (ready_mono hj hji)
      obtain ⟨hjun,oj,hoj,hall⟩:=mem_ready.1 hj
      have hno:∀ e ∈ oj.after,Region.binds .any e=true→e.on≠i:=by
        intro e he hb heq
        have h2:=hall e he hb
        have h0:=(mem_ready.1 hr).1
        rw [heq] at h2
        rcases Nat.lt_or_ge i listed.size with h' | h'
        · simp [h'] at h0 h2; rw [h0] at h2; cases h2
        · simp [Array.getElem?_eq_none h'] at h2
      have h2:=wpOp_putIf hoj (hfree j oj hoj hji hjun hno) (fun cs b=>hsel i oi cs b hi) (fun cs b=>hsel j oj cs b hoj) (fun _ _ _ h=>h) hy h1
      have hkj:(listed.setIfInBounds j true).getD k false=false:=by rw [getD_set_ne false hjk]; exact hk
      have hkij:((listed.setIfInBounds i true).setIfInBounds j true).getD k false=false:=by
        rw [getD_set_ne false hjk]
        have hik:i≠k:=waitsB_spec hw hr i hr
        rw [getD_set_ne false hik]; exact hk
      refine wpOp_mono (fun a' w' h3=>⟨fun _=>h3.2.1 hkij,?_⟩) h2
      refine ih (listed.setIfInBounds j true) a' w' ?_ (ready_mono hr (Ne.symm hji)) h3.1 (h3.2.1 hkij) hkj ?_
      · intro q oq hq hqi hun hn
        refine hfree q oq hq hqi ?_ hn
        by_cases hjq:j=q
        · subst hjq; exact hjun
        · rw [getD_set_ne true hjq] at hun; exact hun
      · rw [Array.setIfInBounds_comm _ _ hji]
        exact h3.2.2
def takeB (ops:Array Oper) (k:Nat) (listed:Array Bool) (i:Nat):Bool:=
  Region.noSelect ops && Region.free .any ops listed i && (Region.ready .any ops listed).contains i && waitsB ops k i && !(listed.getD k false)
def D2 (P:Program) (n:Nat) (ops:Array Oper) (K:Act→World→Prop) (k:Nat) (S:World→Prop) (fuel:Nat) (listed:Array Bool) (L:Env) (w:World):Prop:=
  ∀ a,Agree n a L→S w→wpK P ops K k S fuel listed a w
def DN (P:Program) (n:Nat) (ops:Array Oper) (K:Act→World→Prop) (k:Nat) (S:World→Prop) (fuel:Nat) (listed:Array Bool) (L:Env) (w:World):Prop:=
  ∀ a,Agree n a L→(listed.getD k false=false→S w)∧wpK P ops K k S fuel listed a w
def DB (P:Program) (n:Nat) (ops:Array Oper) (K:Act→World→Prop) (k:Nat) (S:World→Prop) (fuel:Nat) (listed:Array Bool) (L:Env) (w:World):Prop:=
  listed.getD k false=true∧∀ a,Agree n a L→wpK P ops K k S fuel listed a w
def SH (M:List Nat) (d0:Dat) (we:World) (rs:List Res) (d:Dat) (w:World):World→Prop:=fun w'=>∃ d',Inv M d0 we d' rs w'∧Le d w d' w'
theorem c_drawK {Q:Exit→Act→World→Prop} {M:List Nat} {d0 d:Dat} {we:World} {rs:List Res} {id:Nat} {l:List Oper} (k:Nat) (hm:P.follows .mixedOrders=true) (hI:Inv M d0 we d rs w.drew)
    (h:D2 P n l.toArray (fun a w=>Q .normal a w) k (SH M d0 we rs d w.drew) l.length (List.replicate l.length false).toArray L w.drew):C P n Q (.region id l.toArray true) L w:=by
  intro a ha
  refine Code.wp_mono (Q:=OnlyN (fun a w=>Q .normal a w)) ?_ ?_
  · intro e a w hq
    cases e with
    | normal=>exact hq
    | exit id=>exact hq.elim
    | goto l=>exact hq.elim
    | ret=>exact hq.elim
    | panic ch=>exact hq.elim
    | outgrown=>exact hq.elim
  · refine wp_region_any hm (any_of_wpK (k:=k) (S:=SH M d0 we rs d w.drew) _ _ _ _ ?_)
    have:=h a ha ⟨d,hI,Le.refl _ _⟩
    simpa using this
section
variable {dst : Option Nat} {op : Op} {ty : TypeId} {pos : String} {after : Array Edge} {guard : Option (Nat × Bool)}
theorem k_y {v:Value} (i:Nat) (hc:takeB ops k listed i=true) (hi:ops[i]?=some { dst:=dst,op:=op,type:=ty,pos:=pos,after:=after,guard:=guard })
    (hg:grd L ops guard=some true) (hd:okD n dst=true) (hy:∀ w',S w'→Yv P n op ty L w' v)
    (h:D2 P n ops K k S fuel (listed.setIfInBounds i true) (putL L dst v) w):D2 P n ops K k S (fuel + 1) listed L w:=by
  intro a ha hS
  simp only [takeB,Bool.and_eq_true,Bool.not_eq_true'] at hc
  obtain ⟨⟨⟨⟨h1,h2⟩,h3⟩,h4⟩,h5⟩:=hc
  exact wpK_first hi (Region.noSelect_spec h1) h4 fuel listed a w (Region.free_spec hi h2) (by simpa using h3)
    (.inl ⟨wanted_of_grd (o:={ dst:=dst,op:=op,type:=ty,pos:=pos,after:=after,guard:=guard }) ha hg,fun w' hw'=>hy w' hw' a dst pos after guard ha⟩) hS h5 (h _ (ha.putL hd v) hS)
theorem k_skip (i:Nat) (hc:takeB ops k listed i=true) (hi:ops[i]?=some { dst:=dst,op:=op,type:=ty,pos:=pos,after:=after,guard:=guard })
    (hg:grd L ops guard=some false) (hd:okD n dst=true)
    (h:D2 P n ops K k S fuel (listed.setIfInBounds i true) (putL L dst undef) w):D2 P n ops K k S (fuel + 1) listed L w:=by
  intro a ha hS
  simp only [takeB,Bool.and_eq_true,Bool.not_eq_true'] at hc
  obtain ⟨⟨⟨⟨h1,h2⟩,h3⟩,h4⟩,h5⟩:=hc
  exact wpK_first hi (Region.noSelect_spec h1) h4 fuel listed a w (Region.free_spec hi h2) (by simpa using h3)
    (.inr ⟨wanted_of_grd (o:={ dst:=dst,op:=op,type:=ty,pos:=pos,after:=after,guard:=guard }) ha hg,rfl⟩) hS h5 (h _ (ha.putL hd undef) hS)
theorem k_split {t:Nat} {b:Bool} (hb:look L t=some (.bool b)) (ht:b=true→D2 P n ops K k S fuel listed ((t,.bool true) :: L) w)
    (hf:b=false→D2 P n ops K k S fuel listed ((t,.bool false) :: L) w):D2 P n ops K k S fuel listed L w:=by
  cases b with
  | true=>exact fun a ha=>ht rfl a (ha.sub (Sub.of_put hb))
  | false=>exact fun a ha=>hf rfl a (ha.sub (Sub.of_put hb))
theorem k_done (hr:Region.ready .any ops listed=[]) (h:X n (fun _ a w=>K a w) .normal L w):D2 P n ops K k S fuel listed L w:=by
  intro a ha _
  cases fuel with
  | zero=>exact ⟨hr,h a ha⟩
  | succ fuel=>exact ⟨fun _=>h a ha,by rw [hr]; simp⟩
theorem b_done (hr:Region.ready .any ops listed=[]) (h:X n (fun _ a w=>K a w) .normal L w) (hb:listed.getD k false=true):DB P n ops K k S fuel listed L w:=by
  refine ⟨hb,?_⟩
  intro a ha
  cases fuel with
  | zero=>exact ⟨hr,h a ha⟩
  | succ fuel=>exact ⟨fun _=>h a ha,by rw [hr]; simp⟩
def KO (P:Program) (n:Nat) (ops:Array Oper) (K:Act→World→Prop) (k:Nat) (S:World→Prop) (fuel:Nat) (listed:Array Bool) (L:Env) (w:World) (i:Nat):Prop:=
  ∀ a,Agree n a L→wpOp P ops (OnlyN K) i (fun a' w'=>((listed.setIfInBounds i true).getD k false=false→S w')∧wpK P ops K k S fuel (listed.setIfInBounds i true) a' w') a w
theorem k_all {is:List Nat} (hr:Region.ready .any ops listed=is) (hne:is≠[]) (h:AllI (KO P n ops K k S fuel listed L w) is):D2 P n ops K k S (fuel + 1) listed L w:=
  fun a ha _=>⟨fun h0=>absurd (hr ▸ h0) hne,fun i hi=>h.mem i (hr ▸ hi) a ha⟩
theorem b_all {i:Nat} (hr:Region.ready .any ops listed=[i]) (hb:listed.getD k false=true) (h:KO P n ops K k S fuel listed L w i):DB P n ops K k S (fuel + 1) listed L w:=
  ⟨hb,fun a ha=>⟨fun h0=>absurd (hr ▸ h0) (by simp),fun j hj=>by
    rw [hr,List.mem_singleton] at hj
    subst hj
    exact h a ha⟩⟩
theorem k_op {Post:Value→World→Prop} {i:Nat} (hi:ops[i]?=some { dst:=dst,op:=op,type:=ty,pos:=pos,after:=after,guard:=guard })
    (hg:grd L ops guard=some true) (hd:okD n dst=true) (he:Ev P n op ty L w Post)
    (h:∀ v w',Post v w'→DN P n ops K k S fuel (listed.setIfInBounds i true) (putL L dst v) w'):KO P n ops K k S fuel listed L w i:=by
  intro a ha
  unfold wpOp
  simp only [hi]
  rw [if_pos (wanted_of_grd (o:={ dst:=dst,op:=op,type:=ty,pos:=pos,after:=after,guard:=guard }) ha hg)]
  exact .inl (he a dst pos after guard _ _ ha fun v w' hp=>h v w' hp _ (ha.putL hd v))
theorem k_next {M:List Nat} {d0 d d2:Dat} {we w1:World} {rs:List Res} (hI:Inv M d0 we d2 rs w) (hle:Le d w1 d2 w)
    (h:D2 P n ops K k (SH M d0 we rs d2 w) fuel listed L w):DN P n ops K k (SH M d0 we rs d w1) fuel listed L w:=fun a ha=>
  ⟨fun _=>⟨d2,hI,hle⟩,wpK_strong (fun _ ⟨d',h1,h2⟩=>⟨d',h1,hle.trans h2⟩) _ _ _ _ (h a ha ⟨d2,hI,Le.refl _ _⟩)⟩
theorem k_bar (h:DB P n ops K k S fuel listed L w):DN P n ops K k S fuel listed L w:=fun a ha=>
  ⟨(fun hb=>by rw [h.1] at hb; cases hb),h.2 a ha⟩
end
end
end Go.Sx
