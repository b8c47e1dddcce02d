import Derived.Test.YtclblpmjamcknaaGreatRows
import Derived.OpenShut
import Derived.WalkKit
import Derived.ProofKit
import Derived.JoinedCond
import Derived.Carry
import Derived.Test.YtclblpmjamcknaaGreatA1
set_option linter.unusedVariables false
set_option linter.unusedSimpArgs false
namespace Go.Proofs.YtclblpmjamcknaaGreat
open Go.Sx
theorem bulk_one {H:Type} (d:DataW H):1≤Rows.uptoBulk d:=by
  cases d with
  | lit l=>cases l <;> simp [Rows.uptoBulk]
  | nil=>simp [Rows.uptoBulk]
  | ptr d=>simp [Rows.uptoBulk]
  | slice elems spare=>simp [Rows.uptoBulk]
  | agg parts=>simp [Rows.uptoBulk]
  | iface t d=>simp [Rows.uptoBulk]
  | map entries=>simp [Rows.uptoBulk]
  | held h=>simp [Rows.uptoBulk]
theorem bulk_part {H:Type} {d:DataW H} {l:List (DataW H)} (h:d ∈ l):Rows.uptoBulk d≤Rows.uptoBulkAll l:=by
  induction l with
  | nil=>cases h
  | cons x r ih=>
    simp only [Rows.uptoBulkAll]
    cases List.mem_cons.1 h with
    | inl e=>subst e; omega
    | inr e=>have:=ih e; omega
theorem bulk_len {H:Type} (l:List (DataW H)):l.length≤Rows.uptoBulkAll l:=by
  induction l with
  | nil=>simp [Rows.uptoBulkAll]
  | cons x r ih=>have:=bulk_one x; simp only [Rows.uptoBulkAll,List.length_cons]; omega
section
variable {H : Type} {enc : TypeId × Value → H} {P : Program} {W : World} {α : Type}
def old (W:World):Dat:=fun b=>b < W.heap.size
def Rd (enc:TypeId × Value→H) (P:Program) (W:World) (t:TypeId) (R:List Value→Prop):Prop:=
  ∀ fuel cs x,DataW.trod enc P W 0 (fun _=>true) true fuel t cs=some x→Rows.uptoBulk x.1≤1048576→R cs
theorem rd_int {t:TypeId} (ht:P.underlying t=some (.int .i64)):Rd enc P W t (fun cs=>∃ n,cs=[.int .i64 n]):=by
  intro fuel cs x h _
  obtain ⟨n,rfl,_⟩:=DataW.trod_int ht h
  exact ⟨n,rfl⟩
theorem rd_bool {t:TypeId} (ht:P.underlying t=some .bool):Rd enc P W t (fun cs=>∃ n,cs=[.bool n]):=by
  intro fuel cs x h _
  obtain ⟨n,rfl,_⟩:=DataW.trod_bool ht h
  exact ⟨n,rfl⟩
theorem rd_str {t:TypeId} (ht:P.underlying t=some .string):Rd enc P W t (fun cs=>∃ n,cs=[.string n]):=by
  intro fuel cs x h _
  obtain ⟨n,rfl,_⟩:=DataW.trod_string ht h
  exact ⟨n,rfl⟩
theorem mapM_all {β γ:Type} {f:β→Option γ}:∀ {l:List β} {r:List γ},l.mapM f=some r→r.length=l.length∧∀ (i:Nat) (y:γ),r[i]?=some y→∃ x,l[i]?=some x∧f x=some y
  | [],r,h=>by
    simp at h; subst h; exact ⟨rfl,by intro i y hy; simp at hy⟩
  | x :: l,r,h=>by
    rw [List.mapM_cons] at h
    cases hx:f x with
    | none=>simp [hx] at h
    | some y=>
      cases hxs:l.mapM f with
      | none=>simp [hx,hxs] at h
      | some ys=>
        simp [hx,hxs] at h
        subst h
        have ih:=mapM_all hxs
        refine ⟨by simp [ih.1],?_⟩
        intro i z hz
        cases i with
        | zero=>simp at hz; subst hz; exact ⟨x,rfl,hx⟩
        | succ i=>simp at hz ⊢; exact ih.2 i z hz
theorem cells_at {a:Addr} {n:Nat} {cs:List Value} (hn:0 < n) (h:W.cells? 0 a n=some cs):a=⟨a.block,a.off,none⟩∧a.block < W.heap.size∧cs.length=n∧CellsAt W a.block a.off cs:=by
  unfold World.cells? at h
  rw [if_pos (Nat.zero_le _)] at h
  have hm:=mapM_all h
  have hl:cs.length=n:=by simpa using hm.1
  have get:∀ j u,cs[j]?=some u→W.cell? (a.add j)=some u:=by
    intro j u hu
    obtain ⟨i,hi,hc⟩:=hm.2 j u hu
    have hj:j < n:=by rw [← hl]; exact (List.getElem?_eq_some_iff.1 hu).1
    rw [List.getElem?_range hj] at hi
    cases hi
    exact hc
  have h0:=get 0 cs[0] (List.getElem?_eq_getElem (by omega))
  have e0:a.add 0=a:=by unfold Addr.add; simp
  rw [e0] at h0
  have hs:a.spot=none∧a.block < W.heap.size:=by
    unfold World.cell? at h0
    split at h0
    · rename_i c _ _ hb
      have hlt:=(Array.getElem?_eq_some_iff.1 hb).1
      cases hsp:a.spot with
      | none=>exact ⟨rfl,hlt⟩
      | some s=>rw [hsp] at h0; simp at h0
    · cases h0
  have ea:a=⟨a.block,a.off,none⟩:=by
    cases a; simp only at hs ⊢; rw [hs.1]
  refine ⟨ea,hs.2,hl,?_⟩
  intro j u hu
  have:=get j u hu
  rw [← this]
  congr 1
  unfold Addr.add
  split
  · rename_i hj; subst hj; exact ea.symm
  · rfl
theorem cells_app {b o:Nat} {cs ds:List Value} (h:CellsAt W b o cs) (k:CellsAt W b (o + cs.length) ds):CellsAt W b o (cs ++ ds):=by
  intro j u hu
  rcases Nat.lt_or_ge j cs.length with hj | hj
  · rw [List.getElem?_append_left hj] at hu; exact h j u hu
  · rw [List.getElem?_append_right hj] at hu
    have:=k _ _ hu
    rw [show o + cs.length + (j - cs.length)=o + j by omega] at this
    exact this
theorem rd_slice {T:Ty α} {t e:TypeId} (ht:P.underlying t=some (.slice e)) (hc:P.cellsOf e=T.size) (hs:0 < T.size) (hr:Rd enc P W e (fun cs=>∃ y,T.rel (old W) W y cs)) :
    Rd enc P W t (fun cs=>∃ v xs,cs=[v]∧Sl T (old W) W v xs):=by
  intro fuel cs x h hb
  rcases DataW.trod_slice ht h with ⟨rfl,_⟩ | ⟨a,len,cap,elems,rest,n,_,rfl,rfl,_,hl,hm,hlen,hel,_,_⟩
  · exact ⟨_,[],rfl,Sl.nil_ _ _ _ _ _⟩
  have hb1:elems.length≤1048576∧∀ y ∈ elems,Rows.uptoBulk y.1≤1048576:=by
    simp only [Rows.uptoBulk] at hb
    have h1:=bulk_len (elems.map (·.1))
    rw [List.length_map] at h1
    exact ⟨by omega,fun y hy=>by have:=bulk_part (List.mem_map_of_mem (f:=(·.1)) hy); omega⟩
  have build:∀ m,m≤len→∃ xs css,xs.length=m∧Reps (T.rel (old W) W) xs css∧css.length=m * T.size∧(m=0∨(a=⟨a.block,a.off,none⟩∧a.block < W.heap.size∧CellsAt W a.block a.off css)):=by
    intro m
    induction m with
    | zero=>intro _; exact ⟨[],[],rfl,.nil,by simp,.inl rfl⟩
    | succ m ih=>
      intro hm'
      obtain ⟨xs,css,h1,h2,h3,h4⟩:=ih (by omega)
      have hi:=hel m (by omega)
      have hlt:m < elems.length:=by omega
      rw [List.getElem?_eq_getElem hlt,hc] at hi
      cases hcs:W.cells? 0 (a.add (m * T.size)) T.size with
      | none=>rw [hcs] at hi; cases hi
      | some ds=>
        rw [hcs] at hi
        simp only [Option.bind] at hi
        obtain ⟨y,hy⟩:=hr _ _ _ hi (hb1.2 _ (List.getElem_mem hlt))
        obtain ⟨ea,eb,el,ec⟩:=cells_at hs hcs
        have hlen2:css.length=m * T.size:=h3
        refine ⟨xs ++ [y],css ++ ds,by simp [h1],h2.append (.one hy),by rw [List.length_append,h3,el,Nat.succ_mul],.inr ?_⟩
        by_cases hm0:m=0
        · subst hm0
          have e0:a.add (0 * T.size)=a:=by unfold Addr.add; simp
          rw [e0] at ea eb ec
          have:css=[]:=List.length_eq_zero_iff.1 (by simpa using h3)
          subst this
          exact ⟨ea,eb,by simpa using ec⟩
        · obtain ⟨k1,k2,k3⟩:=h4.resolve_left hm0
          refine ⟨k1,k2,cells_app k3 ?_⟩
          have hne:m * T.size≠0:=Nat.mul_ne_zero hm0 (by omega)
          have e1:a.add (m * T.size)=⟨a.block,a.off + m * T.size,none⟩:=by unfold Addr.add; rw [if_neg hne]
          rw [e1] at ec
          rw [h3]; exact ec
  obtain ⟨xs,css,h1,h2,h3,h4⟩:=build len (Nat.le_refl _)
  refine ⟨_,xs,rfl,some a,cap,by rw [h1],by omega,by unfold big; omega,?_⟩
  rcases h4 with h4 | ⟨k1,k2,k3⟩
  · exact .inl (List.length_eq_zero_iff.1 (by omega))
  · exact .inr ⟨a.block,a.off,css,by rw [← k1],k2,h2,k3⟩
theorem rd_struct {t:TypeId} {fs:Array Field} {n:Nat} (ht:P.underlying t=some (.struct fs)) (hc:P.cellsOf t=n) :
    Rd enc P W t (fun cs=>cs.length=n∧∀ (i:Nat) (f:Field) (k:Nat) (R:List Value→Prop),fs[i]?=some f→P.cellsOf f.type=k→Rd enc P W f.type R→R ((cs.drop f.offset).take k)):=by
  intro fuel cs x h hb
  obtain ⟨xs,m,_,rfl,hl,hlen,hf⟩:=DataW.trod_struct ht h
  refine ⟨by rw [hl,hc],?_⟩
  rintro i f k R hi rfl hr
  have hi2:i < fs.size:=(Array.getElem?_eq_some_iff.1 hi).1
  have:=hf i f hi
  rw [List.getElem?_eq_getElem (by omega)] at this
  refine hr _ _ _ this ?_
  simp only [Rows.uptoBulk] at hb
  have h2:=bulk_part (List.mem_map_of_mem (f:=(·.1)) (List.getElem_mem (l:=xs) (n:=i) (by omega)))
  omega
end
end Go.Proofs.YtclblpmjamcknaaGreat
