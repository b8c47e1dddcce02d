import Derived.Test.YtclblpmjamcknaaGreatCore13
namespace Go.Sx
open Go.RowKit
def obj {α:Type} (b:Nat) (T:TypeId) (ty:Ty α) (x:α):Res where
  fp:=[b]
  ok:=fun d w=>∃ cs,w.heap[b]?=some (.cells cs.toArray T (0,0))∧ty.rel d w x cs
  mono:=by
    rintro d w d' w' hle hk ⟨cs,h1,h2⟩
    exact ⟨cs,(hk b (by simp)).trans h1,ty.mono hle h2⟩
  lt:=by
    rintro d w ⟨cs,h1,_⟩ b' hb
    have:b'=b:=by simpa using hb
    subst this
    exact lt_of_some h1
def star (r s:Res):Res where
  fp:=r.fp ++ s.fp
  ok:=fun d w=>r.ok d w∧s.ok d w∧∀ b ∈ r.fp,b ∉ s.fp
  mono:=by
    rintro d w d' w' hle hk ⟨h1,h2,h3⟩
    exact ⟨r.mono hle (fun b hb=>hk b (by simp [hb])) h1,s.mono hle (fun b hb=>hk b (by simp [hb])) h2,h3⟩
  lt:=by
    rintro d w ⟨h1,h2,_⟩ b hb
    rcases List.mem_append.1 hb with hb | hb
    · exact r.lt h1 b hb
    · exact s.lt h2 b hb
structure Turn (r r':Res) (d':Dat) (w w':World):Prop where
  ok:r'.ok d' w'
  fp:∀ b ∈ r'.fp,b ∈ r.fp∨w.heap.size≤b
  nod:∀ b ∈ r'.fp,¬ d' b
section
variable {M : List Nat} {d0 d d' : Dat} {we w w' : World} {rs rs' : List Res} {r r' s : Res} {α : Type} {b : Nat} {T : TypeId} {ty : Ty α} {x : α} {cs : List Value}
theorem Inv.startM (h:∀ b,d b→b < w.heap.size) (hr:r.ok d w) (hn:∀ b ∈ r.fp,¬ d b):Inv r.fp d w d [r] w:=by
  refine ⟨Fr.refl _ _,fun _ h=>h,fun _ h=>.inl h,h,?_,?_,?_,List.pairwise_cons.2 ⟨by simp,.nil⟩⟩
  · intro q hq
    rw [List.mem_singleton.1 hq]; exact hr
  · intro q hq
    rw [List.mem_singleton.1 hq]; exact hn
  · intro q hq b hb
    rw [List.mem_singleton.1 hq] at hb; exact .inr hb
theorem Inv.turn (hI:Inv M d0 we d rs w) (hu:Upd r r' rs rs') (hfr:Fr r.fp w w') (hg:Grow d w d' w') (hT:Turn r r' d' w w'):Inv M d0 we d' rs' w'∧Le d w d' w':=
  hI.replace hu hfr hg hT.ok hT.fp hT.nod
theorem Inv.turned (hI:Inv s.fp d0 we d rs w) (hm:r ∈ rs):Turn s r d we w:=
  ⟨hI.ok r hm,fun b hb=>(hI.old r hm b hb).symm,hI.nod r hm⟩
theorem Inv.retell (h:Inv M d0 we d (r :: rs) w) (hfp:r'.fp=r.fp) (hok:r'.ok d w):Inv M d0 we d (r' :: rs) w:=by
  refine (h.replace (.hd _) (Fr.refl _ _) (Grow.refl h.lt (Nat.le_refl _)) hok (fun b hb=>.inl (hfp ▸ hb)) (fun b hb=>h.nod r (.head _) b (hfp ▸ hb))).1
theorem Inv.openObj (h:Inv M d0 we d (obj b T ty x :: rs) w):∃ cs,Inv M d0 we d (blk b T cs :: rs) w∧ty.rel d w x cs:=by
  obtain ⟨cs,h1,h2⟩:=h.ok _ (.head _)
  exact ⟨cs,h.retell rfl h1,h2⟩
theorem Inv.closeObj (h:Inv M d0 we d (blk b T cs :: rs) w) (hr:ty.rel d w x cs):Inv M d0 we d (obj b T ty x :: rs) w:=
  h.retell rfl ⟨cs,h.ok _ (.head _),hr⟩
theorem Inv.openStar (h:Inv M d0 we d (star r s :: rs) w):Inv M d0 we d (r :: s :: rs) w:=by
  obtain ⟨h1,h2,h3⟩:=h.ok _ (.head _)
  have hp:=List.pairwise_cons.1 h.sep
  refine ⟨h.fr,h.sub,h.new,h.lt,?_,?_,?_,?_⟩
  · intro q hq
    rcases List.mem_cons.1 hq with rfl | hq
    · exact h1
    rcases List.mem_cons.1 hq with rfl | hq
    · exact h2
    · exact h.ok q (.tail _ hq)
  · intro q hq b hb
    rcases List.mem_cons.1 hq with rfl | hq
    · exact h.nod _ (.head _) b (List.mem_append.2 (.inl hb))
    rcases List.mem_cons.1 hq with rfl | hq
    · exact h.nod _ (.head _) b (List.mem_append.2 (.inr hb))
    · exact h.nod q (.tail _ hq) b hb
  · intro q hq b hb
    rcases List.mem_cons.1 hq with rfl | hq
    · exact h.old _ (.head _) b (List.mem_append.2 (.inl hb))
    rcases List.mem_cons.1 hq with rfl | hq
    · exact h.old _ (.head _) b (List.mem_append.2 (.inr hb))
    · exact h.old q (.tail _ hq) b hb
  · refine List.pairwise_cons.2 ⟨?_,List.pairwise_cons.2 ⟨?_,hp.2⟩⟩
    · intro q hq b hb
      rcases List.mem_cons.1 hq with rfl | hq
      · exact h3 b hb
      · exact hp.1 q hq b (List.mem_append.2 (.inl hb))
    · intro q hq b hb
      exact hp.1 q hq b (List.mem_append.2 (.inr hb))
theorem Inv.closeStar (h:Inv M d0 we d (r :: s :: rs) w):Inv M d0 we d (star r s :: rs) w:=by
  have hp:=List.pairwise_cons.1 h.sep
  have hp2:=List.pairwise_cons.1 hp.2
  refine ⟨h.fr,h.sub,h.new,h.lt,?_,?_,?_,?_⟩
  · intro q hq
    rcases List.mem_cons.1 hq with rfl | hq
    · exact ⟨h.ok _ (.head _),h.ok _ (.tail _ (.head _)),hp.1 s (.head _)⟩
    · exact h.ok q (.tail _ (.tail _ hq))
  · intro q hq b hb
    rcases List.mem_cons.1 hq with rfl | hq
    · rcases List.mem_append.1 hb with hb | hb
      · exact h.nod _ (.head _) b hb
      · exact h.nod _ (.tail _ (.head _)) b hb
    · exact h.nod q (.tail _ (.tail _ hq)) b hb
  · intro q hq b hb
    rcases List.mem_cons.1 hq with rfl | hq
    · rcases List.mem_append.1 hb with hb | hb
      · exact h.old _ (.head _) b hb
      · exact h.old _ (.tail _ (.head _)) b hb
    · exact h.old q (.tail _ (.tail _ hq)) b hb
  · refine List.pairwise_cons.2 ⟨?_,hp2.2⟩
    intro q hq b hb
    rcases List.mem_append.1 hb with hb | hb
    · exact hp.1 q (.tail _ hq) b hb
    · exact hp2.1 q hq b hb
theorem Inv.apart (h:Inv M d0 we d rs w) (hd:Del r rs rs') (hs:s ∈ rs'):∀ b ∈ r.fp,b ∉ s.fp:=
  fun b hb hb'=>(hd.other h.sep s hs).2 b hb' hb
theorem Inv.apart2 (h:Inv M d0 we d rs w) (hd:Del r rs rs') (hs:s ∈ rs') {fp:List Nat} (he:s.fp=fp):∀ b ∈ r.fp,b ∉ fp:=he ▸ h.apart hd hs
structure Kp (M:List Nat) (w:World) (b:Nat) (cs:List Value):Prop where
  lt:b < w.heap.size
  cells:CellsAt w b 0 cs
  out:b ∉ M
theorem Kp.at_ (h:Kp M we b cs) (hI:Inv M d0 we d rs w):CellsAt w b 0 cs:=h.cells.keep (hI.fr.blk b h.lt h.out)
theorem cells_of_heap (hb:w.heap[b]?=some (.cells cs.toArray T (0,0))):CellsAt w b 0 cs:=by
  intro j u hu
  simp [World.cell?,hb,hu]
theorem obj_kp (h:(obj b T ty x).ok d w) (hM:b ∉ M):∃ cs,Kp M w b cs∧ty.rel d w x cs:=by
  obtain ⟨cs,h1,h2⟩:=h
  exact ⟨cs,⟨lt_of_some h1,cells_of_heap h1,hM⟩,h2⟩
theorem Res.keepB (r:Res) (h:r.ok d0 we) (hle:Le d0 we d w) (hI:Inv M d0 we d rs w) (hM:∀ b ∈ r.fp,b ∉ M):r.ok d w:=
  r.mono hle (fun b hb=>hI.fr.blk b (r.lt h b hb) (hM b hb)) h
theorem star_ok1 (h:(star r s).ok d w):r.ok d w:=h.1
theorem star_ok2 (h:(star r s).ok d w):s.ok d w:=h.2.1
end
def ocase {α ρ:Type} (o:Option α) (n:ρ) (f:α→ρ):ρ:=
  match o with
  | none=>n
  | some x=>f x
theorem ocase_none {α ρ:Type} {o:Option α} {n:ρ} {f:α→ρ} (h:o=none):ocase o n f=n:=by subst h; rfl
theorem ocase_some {α ρ:Type} {o:Option α} {n:ρ} {f:α→ρ} {x:α} (h:o=some x):ocase o n f=f x:=by subst h; rfl
section
variable {P : Program} {n : Nat} {L : Env} {w : World} {M : List Nat} {d0 d : Dat} {we : World} {rs : List Res}
theorem ev_appendSl {α:Type} {T:Ty α} {t ty e bytes c:Nat} {A:Option Addr} {x y:Operand} {u:Value} {xs ys:List α} (hI:Inv M d0 we d rs w)
    (ht:elemInfo P t=some (e,T.size,bytes)) (hx:opv L x=some (.slice A xs.length c)) (hy:opv L y=some u) (hX:Sl T d w (.slice A xs.length c) xs) (hS:Sl T d w u ys)
    (hc:c < xs.length + ys.length) (hA:A=none→c=0) (hb:(xs.length + ys.length) * bytes≤140737488355328) (hbig:xs.length + ys.length≤big) :
    Ev P n (.call { callee:=.builtin .append,args:=#[x,y],argTypes:=#[t,t] }) ty L w
      (fun v' w'=>∃ A' c',v'=.slice A' (xs ++ ys).length c'∧Inv M d0 we d (row T e (.slice A' (xs ++ ys).length c') (xs ++ ys) :: rs) w'∧Le d w d w'):=by
  refine Ev.of_run fun a dd pos after guard ha=>?_
  obtain ⟨hu,i,z,hi,hz,hs,hby,hzs,hpos⟩:=elemInfo_spec ht
  have h63:xs.length + ys.length≤maxLen:=by unfold big at hbig; unfold maxLen; omega
  obtain ⟨A',c',hv,_,_,hcase⟩:=hX
  injection hv with h1 _ h3
  subst h1; subst h3
  obtain ⟨B,cB,rfl,hcB,hyb,hcaseB⟩:=hS
  have hold:∃ os,Reps (T.rel d w) xs os∧∀ ad:Addr,A=some ad→∀ j u,os[j]?=some u→w.cell? (ad.add j)=some u:=by
    rcases hcase with h | ⟨b,o,cs,hA',hsl⟩
    · subst h; exact ⟨[],.nil,fun _ _ j u h=>by simp at h⟩
    · subst hA'
      exact ⟨cs,hsl.reps,fun ad h j u hj=>by cases h; rw [add_none]; exact hsl.cells j u hj⟩
  obtain ⟨os,hos,hoc⟩:=hold
  have hlo:=hos.length (fun _ _ h=>T.len h)
  cases B with
  | none=>
    have h0:ys=[]:=by
      rcases hcaseB with h | ⟨b,o,cs,hB,_⟩
      · exact h
      · cases hB
    subst h0
    simp at hc
    omega
  | some bd=>
    have hsrc:∃ ns,Reps (T.rel d w) ys ns∧∀ j u,ns[j]?=some u→w.cell? (bd.add j)=some u:=by
      rcases hcaseB with h | ⟨b,o,cs,hB,hsl⟩
      · subst h; exact ⟨[],.nil,fun j u h=>by simp at h⟩
      · injection hB with hB
        subst hB
        exact ⟨cs,hsl.reps,fun j u h=>by rw [add_none]; exact hsl.cells j u h⟩
    obtain ⟨ns,hns,hnc⟩:=hsrc
    have hln:=hns.length (fun _ _ h=>T.len h)
    have hr:(Builtin.append_ #[t,t] ty #[.slice A xs.length c,.slice (some bd) ys.length cB]).run P w =
        .ok (.slice (some ⟨w.heap.size,0,none⟩) (xs.length + ys.length) (grownCap w (xs.length + ys.length) c e))
          (w.drew.alloc (.cells (os.toArray ++ ns.toArray ++ Builtin.zeroCells z.cells (grownCap w (xs.length + ys.length) c e - (xs.length + ys.length))) e)):=by
      cases A with
      | none=>
        have hc0:c=0:=hA rfl
        subst hc0
        have hx0:xs=[]:=by
          rcases hcase with h | ⟨b,o,cs,hB,_⟩
          · exact h
          · cases hB
        subst hx0
        cases hos
        have:=_root_.Go.run_append_nil (P:=P) w t ty e i z hu hi hz bd ys.length cB ns (by rw [hs]; exact hln) hnc (by simpa using hc) (by unfold maxLen at h63; simp at h63; omega) (by rw [hby]; simp at hb; omega)
        simpa using this
      | some ad=>
        exact _root_.Go.run_append_grow (P:=P) w t ty e i z hu hi hz ad xs.length c os (by rw [hs]; exact hlo) (hoc ad rfl) bd ys.length cB ns (by rw [hs]; exact hln) hnc hc (by unfold maxLen at h63; omega) (growslice_fits hc (by rw [hby]; exact hb))
    have hge:=grownCap_ge w (xs.length + ys.length) c e
    have hcm:=grownCap_le_maxLen w (xs.length + ys.length) c e h63
    have hlen:(os ++ ns).length=(xs.length + ys.length) * T.size:=by rw [List.length_append,hlo,hln,Nat.add_mul]
    generalize hcap:grownCap w (xs.length + ys.length) c e=cap at *
    have hid:Inv M d0 we d rs w.drew:=hI.drew
    have hfr:Fr [] w.drew (w.drew.alloc (.cells (os.toArray ++ ns.toArray ++ Builtin.zeroCells z.cells (cap - (xs.length + ys.length))) e)):=fr_alloc _ _
    have hle2:Le d w d (w.drew.alloc (.cells (os.toArray ++ ns.toArray ++ Builtin.zeroCells z.cells (cap - (xs.length + ys.length))) e)):=(Le.drew d w).trans (hid.le hfr (by simp) (fun _ h=>h))
    have hok:(row T e (.slice (some ⟨w.heap.size,0,none⟩) (xs ++ ys).length cap) (xs ++ ys)).ok d (w.drew.alloc (.cells (os.toArray ++ ns.toArray ++ Builtin.zeroCells z.cells (cap - (xs.length + ys.length))) e)):=by
      refine ⟨os ++ ns,((hos.append hns).mono fun _ _ h=>T.mono hle2 h),⟨by rw [List.length_append (as:=xs)]; exact hlen,.inr ⟨w.heap.size,cap,_,rfl,Nat.zero_le _,heap_alloc_new w.drew _,?_,hcm,?_,?_⟩⟩,by rw [List.length_append]; exact hbig⟩
      · rw [List.length_append]; exact hge
      · simp only [Array.size_append,List.size_toArray,size_zeroCells,hzs,hlo,hln,← Nat.add_mul]
        congr 1
        omega
      · simp only [Array.toList_append]
        rw [List.length_append (as:=xs),← hlen]
        exact List.take_left
    obtain ⟨k1,k2⟩:=hid.pureAdd (r:=row T e (.slice (some ⟨w.heap.size,0,none⟩) (xs ++ ys).length cap) (xs ++ ys)) hfr (Grow.refl hid.lt hfr.size) hok
      (fun b hb=>by simp [row,Value.ownBlock] at hb; subst hb; exact Nat.le_refl _) (fun b hb hd=>by simp [row,Value.ownBlock] at hb; subst hb; exact absurd (hI.lt _ hd) (Nat.lt_irrefl _))
    refine ⟨.slice (some ⟨w.heap.size,0,none⟩) (xs ++ ys).length cap,_,?_,_,_,rfl,k1,hle2⟩
    simp only [execOp,resolve,ha.eval hx,ha.eval hy,invoke,builtin,Sem.run_bind,Sem.run_pure,Result.andThen_ok,List.map_toArray,List.map_cons,List.map_nil,hr,List.length_append]
theorem run_append_zeros (w:World) (t k ty e:TypeId) (i:TypeInfo) (z:Value) (ht:P.underlying t=some (.slice e)) (hk:P.underlying k=some (.int .i64)) (hi:P.info? e=some i) (hz:i.zero=some z) (m:Nat)
    (h0:0 < m) (hp:0 < i.size) (h63:(m:Int)≤9223372036854775807) (h48:m * i.bytes≤281474976710656) :
    (Builtin.append_ #[t,k] ty #[.slice none 0 0,.int .i64 (m:Int)]).run P w =
      .ok (.slice (some ⟨w.heap.size,0,none⟩) m (grownCap w m 0 e)) (w.drew.alloc (.cells (Builtin.zeroCells z.cells m ++ Builtin.zeroCells z.cells (grownCap w m 0 e - m)) e)):=by
  have hn:m≠0:=by omega
  have h63':¬ (9223372036854775807 < (m:Int)):=by omega
  have h48':¬ (281474976710656 < Builtin.nextslicecap m 0 * i.bytes):=by rw [nextslicecap_zero h0]; omega
  have hw:IntKind.wrap .i64 (m:Int)=m:=wrap64_id (by omega)
  have h48i:¬ (281474976710656 < (m:Int) * (i.bytes:Int)):=by
    have:((m * i.bytes:Nat):Int)≤281474976710656:=by omega
    rw [Int.natCast_mul] at this
    omega
  have hms:¬ (m * i.size=0):=by
    have:=Nat.mul_pos h0 hp
    omega
  have hneg:¬ ((m:Int) < 0):=by omega
  have hs0:i.size≠0:=by omega
  simp [Builtin.append_,run_underlying ht,run_underlying hk,sizeOf,typeInfo,zeroValue,hi,hz,asInt,asIntOf,hw,hneg,h48i,hn,hs0,h63',h48',Question.forced,newRow,grownCap,Builtin.firstCells]
  exact fun h=>absurd h hms
theorem ev_appendZ {α:Type} {T:Ty α} {t k ty e bytes m:Nat} {x y:Operand} {j:Int} {z:α} {zs:List Value} (hI:Inv M d0 we d rs w)
    (ht:elemInfo P t=some (e,T.size,bytes)) (hz:zeroT P e=some zs) (hk:P.underlying k=some (.int .i64)) (hx:opv L x=some (.slice none 0 0)) (hy:opv L y=some (.int .i64 j)) (hj:j=(m:Int)) (h0:0 < m) (hb:m≤big) (hby:bytes≤1024) (hr:T.rel d w z zs) :
    Ev P n (.call { callee:=.builtin .append,args:=#[x,y],argTypes:=#[t,k] }) ty L w
      (fun v w'=>∃ A c,v=.slice A (List.replicate m z).length c∧Inv M d0 we d (row T e (.slice A (List.replicate m z).length c) (List.replicate m z) :: rs) w'∧Le d w d w'):=by
  refine Ev.of_run fun a dd pos after guard ha=>?_
  subst hj
  obtain ⟨hu,i,zz,hi,hzz,hs,hbb,hcs,hpos⟩:=elemInfo_spec ht
  have hvz:vcells zz=zs:=by
    unfold zeroT at hz
    simp [hi,hzz] at hz
    exact hz
  have h63:m≤maxLen:=by unfold big at hb; unfold maxLen; omega
  have hbm:m * i.bytes≤140737488355328:=by
    rw [hbb]
    have h1:m * bytes≤137438953472 * 1024:=Nat.mul_le_mul (by unfold big at hb; exact hb) hby
    omega
  have hrun:=run_append_zeros (P:=P) w t k ty e i zz hu hk hi hzz m h0 (by rw [hs]; exact hpos) (by unfold maxLen at h63; omega) (by omega)
  have hge:=grownCap_ge w m 0 e
  have hcm:=grownCap_le_maxLen w m 0 e h63
  generalize hcap:grownCap w m 0 e=cap at *
  have hzl:zs.length=T.size:=T.len hr
  have hzc:Builtin.zeroCells zz.cells m=(List.replicate m zs).flatten.toArray:=by
    rw [vcells_eq,hvz]
    unfold Builtin.zeroCells
    exact zero_cells zs (by omega) m
  have hlen:(List.replicate m z).length=m:=by simp
  have hid:Inv M d0 we d rs w.drew:=hI.drew
  have hfr:Fr [] w.drew (w.drew.alloc (.cells (Builtin.zeroCells zz.cells m ++ Builtin.zeroCells zz.cells (cap - m)) e)):=fr_alloc _ _
  have hle2:Le d w d (w.drew.alloc (.cells (Builtin.zeroCells zz.cells m ++ Builtin.zeroCells zz.cells (cap - m)) e)):=(Le.drew d w).trans (hid.le hfr (by simp) (fun _ h=>h))
  have hrep:=reps_replicate hr m
  have hfl:((List.replicate m zs).flatten).length=m * T.size:=by
    have:=hrep.length (fun _ _ h=>T.len h)
    rw [this,List.length_replicate]
  have hok:(row T e (.slice (some ⟨w.heap.size,0,none⟩) (List.replicate m z).length cap) (List.replicate m z)).ok d (w.drew.alloc (.cells (Builtin.zeroCells zz.cells m ++ Builtin.zeroCells zz.cells (cap - m)) e)):=by
    refine ⟨(List.replicate m zs).flatten,(hrep.mono fun _ _ h=>T.mono hle2 h),⟨by rw [hlen]; exact hfl,.inr ⟨w.heap.size,cap,_,rfl,Nat.zero_le _,heap_alloc_new w.drew _,?_,hcm,?_,?_⟩⟩,by rw [hlen]; exact hb⟩
    · rw [hlen]; exact hge
    · simp only [Array.size_append,size_zeroCells,hcs,← Nat.add_mul]
      congr 1
      omega
    · rw [hzc,Array.toList_append,hlen,← hfl]
      exact List.take_left
  obtain ⟨k1,k2⟩:=hid.pureAdd (r:=row T e (.slice (some ⟨w.heap.size,0,none⟩) (List.replicate m z).length cap) (List.replicate m z)) hfr (Grow.refl hid.lt hfr.size) hok
    (fun b hb=>by simp [row,Value.ownBlock] at hb; subst hb; exact Nat.le_refl _) (fun b hb hd=>by simp [row,Value.ownBlock] at hb; subst hb; exact absurd (hI.lt _ hd) (Nat.lt_irrefl _))
  refine ⟨.slice (some ⟨w.heap.size,0,none⟩) (List.replicate m z).length cap,_,?_,_,_,rfl,k1,hle2⟩
  simp only [execOp,resolve,ha.eval hx,ha.eval hy,invoke,builtin,Sem.run_bind,Sem.run_pure,Result.andThen_ok,List.map_toArray,List.map_cons,List.map_nil,hrun,List.length_replicate]
theorem ev_makeRow2 {α:Type} {t ty e:TypeId} {bytes m:Nat} {x:Operand} {j:Int} {T:Ty α} {z:α} {zs:List Value} (hI:Inv M d0 we d rs w)
    (ht:elemInfo P t=some (e,T.size,bytes)) (hz:zeroT P e=some zs) (hx:opv L x=some (.int .i64 j)) (hj:j=(m:Int)) (hb:m≤big) (hby:bytes≤1024) (hr:T.rel d w z zs) :
    Ev P n (.makeSlice t x x) ty L w (fun v w'=>∃ A,v=.slice A (List.replicate m z).length m∧Inv M d0 we d (row T e (.slice A (List.replicate m z).length m) (List.replicate m z) :: rs) w'∧Le d w d w'):=by
  have h:=ev_makeRow (ty:=ty) (n:=n) hI ht hz hx hj hb hby hr
  simp only [List.length_replicate]
  exact h
theorem y_capNil {t ty:TypeId} {x:Operand} (ht:(elemOfT P t).isSome=true) (hx:opv L x=some (.slice none 0 0)) :
    Yv P n (.call { callee:=.builtin .cap,args:=#[x],argTypes:=#[t] }) ty L w (.int .i64 0):=by
  intro a dd pos after guard ha
  unfold elemOfT at ht
  split at ht
  · rename_i e hu
    simp [execOp,resolve,invoke,builtin,ha.eval hx,Builtin.cap_,underlying,hu,goInt]
  · cases ht
theorem Sl.clip {α:Type} {T:Ty α} {A:Option Addr} {k c:Nat} {xs:List α} (h:Sl T d w (.slice A k c) xs):Sl T d w (.slice A xs.length xs.length) xs:=by
  obtain ⟨A',c',hv,h1,h2,h3⟩:=h
  injection hv with hA _ _
  subst hA
  exact ⟨A,_,rfl,Nat.le_refl _,h2,h3⟩
theorem Sl.clip_nil {α:Type} {T:Ty α} {A:Option Addr} {k c:Nat} {xs:List α} (h:Sl T d w (.slice A k c) xs):A=none→xs.length=0:=by
  intro hA
  rw [Sl.none_nil h (by rw [hA]; rfl)]
  rfl
theorem y_clip {α:Type} {t ty e size c:Nat} {x hi mx:Operand} {A:Option Addr} {xs:List α} (ht:elemOfT P t=some (e,size)) (hx:opv L x=some (.slice A xs.length c))
    (hh:opv L hi=some (.int .i64 (xs.length:Int))) (hm:opv L mx=some (.int .i64 (xs.length:Int))) (hle:xs.length≤c):Yv P n (.slice t x none (some hi) (some mx)) ty L w (.slice A xs.length xs.length):=by
  intro a dd pos after guard ha
  unfold elemOfT at ht
  split at ht
  · rename_i e' hu
    cases hi':P.info? e' with
    | none=>simp [hi'] at ht
    | some info=>
      simp only [execOp,Instr.sliceAt,Instr.slice,underlying,Sem.run_bind,run_program,Result.andThen_ok,hu,Sem.run_pure,ha.eval hx,ha.eval hh,ha.eval hm,Option.map_some,Option.map_none,Instr.sliceBounds,if_true,run_bnd P w _ hle,sizeOf,typeInfo,hi']
      cases A <;> simp [Addr.add,Instr.sliceBound,asIntOf]
  · cases ht
theorem row_take {α:Type} {T:Ty α} {e:TypeId} {A:Option Addr} {k c i:Nat} {xs:List α} (h:(row T e (.slice A k c) xs).ok d w) (hi:i≤xs.length) :
    (row T e (.slice A (xs.take i).length c) (xs.take i)).ok d w:=by
  obtain ⟨cells,hr,hown,hb⟩:=h
  have hlen:(xs.take i).length=i:=by simp; omega
  have hl:=hown.1
  refine ⟨cells.take (i * T.size),hr.take (fun _ _ h=>T.len h) i,?_,by rw [hlen]; omega⟩
  rw [hlen]
  refine ⟨?_,?_⟩
  · rw [List.length_take,hl]
    exact Nat.min_eq_left (Nat.mul_le_mul_right _ hi)
  · rcases hown.2 with ⟨hv,hn⟩ | ⟨g,cap,cur,hv,hbase,hblk,hnc,hmax,hsz,htk⟩
    · left
      injection hv with h1 h2 h3
      exact ⟨by rw [h1,h3,show i=0 by omega],by omega⟩
    · right
      injection hv with h1 h2 h3
      refine ⟨g,cap,cur,by rw [h1,h3],hbase,hblk,by omega,hmax,hsz,?_⟩
      rw [← htk,List.take_take]
      congr 1
      exact (Nat.min_eq_left (Nat.mul_le_mul_right _ hi)).symm
end
theorem notM_app {l A B:List Nat} (h1:∀ b ∈ l,b ∉ A) (h2:∀ b ∈ l,b ∉ B):∀ b ∈ l,b ∉ A ++ B:=fun b hb hm=>(List.mem_append.1 hm).elim (h1 b hb) (h2 b hb)
end Go.Sx
