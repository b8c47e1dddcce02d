import Derived.Test.YtclblpmjamcknaaGreatCore11
import Derived.Laws.MakeOwn
namespace Go.Sx
open Go.RowKit
section
variable {P : Program} {n : Nat} {Q : Exit → Act → World → Prop} {L : Env} {w : World} {ops : Array Oper} {rest : List Oper} {o : Oper}
variable {M : List Nat} {d0 d : Dat} {we : World} {rs rs' : List Res} {r : Res}
theorem big_max:big≤maxLen:=by unfold big maxLen; omega
theorem row_new {α:Type} {T:Ty α} {e:TypeId} {xs:List α} {cs:List Value} (hr:Reps (T.rel d w) xs cs) (hb:xs.length≤big) (hlt:∀ b,d b→b < w.heap.size) :
    (row T e (.slice (some ⟨w.heap.size,0,none⟩) xs.length xs.length) xs).ok d (w.alloc (.cells cs.toArray e)):=by
  have hle:Le d w d (w.alloc (.cells cs.toArray e)):=⟨fun _ h=>h,fun b hb=>Below.heap_alloc w _ b (hlt b hb)⟩
  have hl:=hr.length (fun _ _ h=>T.len h)
  refine ⟨cs,hr.mono fun _ _ h=>T.mono hle h,⟨hl,.inr ⟨w.heap.size,xs.length,cs.toArray,rfl,Nat.zero_le _,heap_alloc_new w _,Nat.le_refl _,Nat.le_trans hb big_max,by simpa using hl,?_⟩⟩,hb⟩
  rw [← hl]; simp
theorem Inv.newRow {α:Type} {T:Ty α} {e:TypeId} {xs:List α} {cs:List Value} (hI:Inv M d0 we d rs w) (hr:Reps (T.rel d w) xs cs) (hb:xs.length≤big) :
    Inv M d0 we d (row T e (.slice (some ⟨w.heap.size,0,none⟩) xs.length xs.length) xs :: rs) (w.alloc (.cells cs.toArray e))∧Le d w d (w.alloc (.cells cs.toArray e)):=by
  refine hI.pureAdd (fr_alloc w _) (Grow.refl hI.lt (by simp)) (row_new hr hb hI.lt) ?_ ?_
  · intro b hb'; simp [row,Value.ownBlock] at hb'; omega
  · intro b hb' hd; simp [row,Value.ownBlock] at hb'; have:=hI.lt b hd; omega
theorem ev_buildRow {α:Type} {t ty e:TypeId} {k:Nat} {parts:List (Nat × Operand)} {T:Ty α} {xs:List α} {zs cs:List Value} (hI:Inv M d0 we d rs w)
    (ht:elemOfT P t=some (e,T.size)) (hz:zeroT P e=some zs) (hzl:zs.length=T.size) (hk:k=xs.length) (hb:xs.length * T.size≤16777216) (hT:0 < T.size)
    (hf:Fills L (fun i=>some (i * T.size,T.size)) parts (List.replicate k zs).flatten cs) (hr:Reps (T.rel d w) xs cs) :
    Ev P n (.buildSlice t k parts.toArray) ty L w (fun v w'=>∃ A,v=.slice A k k∧Inv M d0 we d (row T e (.slice A xs.length k) xs :: rs) w'∧Le d w d w'):=by
  refine Ev.of_run fun a dd pos after guard ha=>?_
  have hbig:xs.length≤big:=by
    unfold big
    have:xs.length≤xs.length * T.size:=Nat.le_mul_of_pos_right _ hT
    omega
  unfold elemOfT at ht
  split at ht
  · rename_i e' hu
    cases hi:P.info? e' with
    | none=>simp [hi] at ht
    | some info=>
      simp only [hi,Option.map_some,Option.some.injEq,Prod.mk.injEq] at ht
      obtain ⟨rfl,hsz⟩:=ht
      unfold zeroT at hz
      cases hzz:info.zero with
      | none=>simp [hi,hzz] at hz
      | some z=>
        simp only [hi,hzz,Option.bind_some,Option.map_some,Option.some.injEq] at hz
        subst hz
        have hfill:=hf.fill ha
        obtain ⟨h1,h2⟩:=hI.newRow (e:=e') hr hbig
        refine ⟨.slice (some ⟨w.heap.size,0,none⟩) k k,w.alloc (.cells cs.toArray e'),?_,_,rfl,by rw [hk]; exact h1,h2⟩
        have hnle:¬ (k * info.size > 2 ^ 24):=by rw [hsz,hk]; omega
        have hzs:((Array.range (k * info.size)).map fun i=>(if k * info.size=0 then #[] else z.cells)[i % (if k * info.size=0 then #[] else z.cells).size]!)=(List.replicate k (vcells z)).flatten.toArray:=by
          by_cases h0:k * info.size=0
          · have hk0:k=0:=by
              rw [hsz] at h0
              rcases Nat.mul_eq_zero.1 h0 with h | h
              · exact h
              · omega
            subst hk0
            simp
          · rw [if_neg h0,vcells_eq,hsz,← hzl]
            exact zero_cells (vcells z) (by omega) k
        have hfill':Instr.fill (fun i=>some (i * info.size,info.size)) (List.replicate k (vcells z)).flatten.toArray (List.map (fun x=>(x.fst,a.eval x.snd)) parts)=some cs.toArray:=by
          rw [hsz]; exact hfill
        simp only [execOp,Instr.buildSlice,underlying,sizeOf,typeInfo,Sem.run_bind,run_program,Result.andThen_ok,hu,hi,Sem.run_pure]
        rw [if_neg hnle]
        by_cases h0:k * info.size=0
        · rw [if_pos h0]
          rw [if_pos h0] at hzs
          simp only [Sem.run_bind,Sem.run_pure,Result.andThen_ok,hzs,List.map_toArray,hfill']
          simp [newRow]
        · rw [if_neg h0]
          rw [if_neg h0] at hzs
          simp only [zeroValue,typeInfo,Sem.run_bind,run_program,hi,hzz,Sem.run_pure,Result.andThen_ok,hzs,List.map_toArray,hfill']
          simp [newRow]
  · cases ht
theorem reps_replicate {α:Type} {E:α→List Value→Prop} {x:α} {cs:List Value} (h:E x cs):∀ k,Reps E (List.replicate k x) (List.replicate k cs).flatten
  | 0=>.nil
  | k + 1=>by rw [List.replicate_succ,List.replicate_succ,List.flatten_cons]; exact .cons h (reps_replicate h k)
theorem ev_makeRow {α:Type} {t ty e:TypeId} {bytes m:Nat} {x:Operand} {j:Int} {T:Ty α} {z:α} {zs:List Value} (hI:Inv M d0 we d rs w)
    (ht:elemInfo P t=some (e,T.size,bytes)) (hz:zeroT P e=some zs) (hx:opv L x=some (.int .i64 j)) (hj:j=(m:Int)) (hb:m≤big) (hby:bytes≤1024) (hr:T.rel d w z zs) :
    Ev P n (.makeSlice t x x) ty L w (fun v w'=>∃ A,v=.slice A m m∧Inv M d0 we d (row T e (.slice A m m) (List.replicate m z) :: rs) w'∧Le d w d w'):=by
  refine Ev.of_run fun a dd pos after guard ha=>?_
  subst hj
  obtain ⟨hu,i,zz,hi,hzz,hs,hbb,hcs,hpos⟩:=elemInfo_spec ht
  have hvz:vcells zz=zs:=by
    unfold zeroT at hz
    simpa [hi,hzz] using hz
  have hzl:zs.length=T.size:=T.len hr
  have hbytes:(i.bytes:Int) * (m:Int)≤281474976710656:=by
    have h1:i.bytes * m≤1024 * big:=Nat.mul_le_mul (by omega) hb
    have:((i.bytes * m:Nat):Int)≤281474976710656:=by unfold big at h1; omega
    rwa [Int.natCast_mul] at this
  have h:=run_make (P:=P) w t e i zz hu hi hzz .i64 .i64 m m (by omega) (Int.le_refl _) hbytes (by unfold big at hb; omega)
  have hcells:madeCells zz.cells (m * i.size)=(List.replicate m zs).flatten.toArray:=by
    rw [vcells_eq,hvz,hs,← hzl]
    exact zero_cells zs (by omega) m
  rw [Int.toNat_natCast,hcells] at h
  obtain ⟨h1,h2⟩:=hI.newRow (e:=e) (reps_replicate hr m) (by simpa using hb)
  refine ⟨.slice (some ⟨w.heap.size,0,none⟩) m m,_,?_,_,rfl,?_,h2⟩
  · simp only [execOp,ha.eval hx,Sem.run_bind,h,Result.andThen_ok,Sem.run_pure]
  · simpa using h1
def Fresh (r:Res) (d':Dat) (w w':World):Prop:=r.ok d' w'∧∀ b ∈ r.fp,w.heap.size≤b∧¬ d' b
theorem Inv.fresh (hI:Inv [] d0 we d rs w) (hm:r ∈ rs):Fresh r d we w:=
  ⟨hI.ok r hm,fun b hb=>⟨(hI.old r hm b hb).resolve_right (by simp),hI.nod r hm b hb⟩⟩
theorem Inv.take {d':Dat} {w':World} (hI:Inv M d0 we d rs w) (hfr:Fr [] w w') (hg:Grow d w d' w') (hf:Fresh r d' w w'):Inv M d0 we d' (r :: rs) w'∧Le d w d' w':=
  hI.pureAdd hfr hg hf.1 (fun b hb=>(hf.2 b hb).1) (fun b hb=>(hf.2 b hb).2)
theorem ev_row {α:Type} {T:Ty α} {e:TypeId} {f:FuncId} {xs:List Operand} {ts:Array TypeId} {ty:TypeId} {vs:List Value} {ys:List α} (hI:Inv M d0 we d rs w)
    (hf:plainF P f=true) (hxs:opvs L xs=some vs) (hc:Ret P f vs w [] d (fun u d' w'=>Fresh (row T e u ys) d' w w')) :
    Ev P n (.call { callee:=.value (.func f),args:=xs.toArray,argTypes:=ts }) ty L w
      (fun v w'=>∃ d' A c,v=.slice A ys.length c∧Inv M d0 we d' (row T e (.slice A ys.length c) ys :: rs) w'∧Le d w d' w'):=
  (ev_call hf hxs hc).mono fun v w' ⟨d',hfr,hg,hp⟩=>by
    obtain ⟨A,c,rfl,_,_⟩:=row_form hp.1
    exact ⟨d',A,c,rfl,(hI.take hfr hg hp).1,(hI.take hfr hg hp).2⟩
theorem run_eqGuard_sl (op:BinOp) (t:TypeId) (x y:Operand) (A B:Option Addr) (l c l' c':Nat):(eqGuard op t x y (.slice A l c) (.slice B l' c')).run P w=.ok () w:=by
  unfold eqGuard; cases op <;> rfl
theorem run_eqSN {e D:Nat} {t:TypeId} (w:World) (hu:P.underlying t=some (.slice e)) (A:Option Addr) (l c l' c':Nat):(Op.equalIn (D + 1) t (.slice A l c) (.slice none l' c')).run P w=.ok A.isNone w:=by
  cases A <;> simp [Op.equalIn,run_underlying hu]
theorem y_slEqNil {t yt ty e:TypeId} {x y:Operand} {A:Option Addr} {l c l' c':Nat} (hu:P.underlying t=some (.slice e)) (hx:opv L x=some (.slice A l c)) (hy:opv L y=some (.slice none l' c')) :
    Yv P n (.binOp .eql t x y yt) ty L w (.bool A.isNone):=by
  intro a d pos after guard ha
  have h:(binOp .eql t (.slice A l c) (.slice none l' c')).run P w=.ok (.bool A.isNone) w:=by
    have:=run_eqSN (D:=9999) w hu A l c l' c'
    simp only [binOp,Op.equal,Op.maxDepth,Sem.run_bind,this,Result.andThen_ok,Sem.run_pure]
  simp only [execOp,ha.eval hx,ha.eval hy,Sem.run_bind,run_eqGuard_sl,h,Result.andThen_ok,Sem.run_pure]
theorem ev_storeRow {α:Type} {T:Ty α} {e t ty:TypeId} {x y:Operand} {g i off len cap:Nat} {v:Value} {xs:List α} {ey y':α} {vs cs cs':List Value} {A:Option Addr} (hI:Inv M d0 we d rs w)
    (hA:A=some ⟨g,0,none⟩) (hx:opv L x=some (.pointer (some ⟨g,0 + i * T.size + off,none⟩))) (hy:opv L y=some v)
    (hv:vcells v=vs) (hs:(P.info? t).map (·.size)=some vs.length) (hone:vs.all (·.oneCell')=true) (hp:Put off vs cs cs')
    (hu:Upd (row T e (.slice A len cap) xs) (row T e (.slice A len cap) (xs.set i y')) rs rs') (hi:xs[i]?=some ey) (hc:CellsAt w g (0 + i * T.size) cs) (hcl:cs.length=T.size) (hr:T.rel d w y' cs') (hoff:off + vs.length≤cs.length) :
    Ev P n (.store t x y) ty L w (fun _ w'=>Inv M d0 we d rs' w'∧Le d w d w'):=by
  refine Ev.of_skip fun a dd pos after guard ha=>?_
  subst hA
  obtain ⟨cells,hreps,hown,hbig⟩:=hI.ok _ hu.mem
  rcases hown.2 with ⟨hv0,_⟩ | ⟨g',cap',cur,hv',hbase,hblk,hnc,hmax,hsz,htk⟩
  · cases hv0
  injection hv' with h1 h2 h3
  injection h1 with h1
  injection h1 with h1 _ _
  subst h1; subst h3
  have hlt:i < xs.length:=(List.getElem?_eq_some_iff.1 hi).1
  have hlen:len=xs.length:=h2
  obtain ⟨p1,p2,p3⟩:=hp.spec
  have hcurlen:i * T.size + T.size≤cur.size:=by
    rw [hsz]
    have:(i + 1) * T.size≤cap * T.size:=Nat.mul_le_mul_right _ (by omega)
    rw [Nat.add_mul] at this; omega
  have hone':∀ u ∈ vs,u.oneCell'=true:=fun u hu'=>(List.all_eq_true.1 hone) u hu'
  obtain ⟨w',cur',hrun,hb',hfr,hsz',hj⟩:=run_storeCells (P:=P) (b:=g) (T:=e) vs (0 + i * T.size + off) 0 cur w hblk hone' (by omega)
  obtain ⟨pre,c0,post,hcs,hpl,hc0⟩:=hreps.at_ (fun _ _ h=>T.len h) hi
  have hl0:c0.length=T.size:=T.len hc0
  have hca:CellsAt w g 0 cells:=by
    intro j u hu'
    have:=hown.cells (g:=g) rfl j u hu'
    simpa [add_none] using this
  have hc0eq:c0=cs:=by
    apply List.ext_getElem?
    intro j
    by_cases hjl:j < T.size
    · obtain ⟨u,hu1⟩:∃ u,c0[j]?=some u:=⟨_,List.getElem?_eq_getElem (by omega)⟩
      obtain ⟨u2,hu2⟩:∃ u,cs[j]?=some u:=⟨_,List.getElem?_eq_getElem (by omega)⟩
      have e1:=hc j u2 hu2
      rw [hcs] at hca
      have e2:=hca.sub j u hu1
      rw [hpl,Nat.zero_add] at e2
      rw [Nat.zero_add] at e1
      rw [e1] at e2
      rw [hu1,hu2,Option.some.inj e2]
    · rw [List.getElem?_eq_none (by omega),List.getElem?_eq_none (by omega)]
  subst hc0eq
  have hcells':cur'.toList.take (xs.length * T.size)=pre ++ (cs' ++ post):=by
    have hlcells:cells.length=xs.length * T.size:=hown.1
    have hput:cs'.length=c0.length:=p1
    apply List.ext_getElem?
    intro j
    have hcl':(pre ++ (c0 ++ post)).length=xs.length * T.size:=by rw [← hcs]; exact hlcells
    simp only [List.length_append] at hcl'
    by_cases hjl:j < xs.length * T.size
    · rw [List.getElem?_take,if_pos hjl]
      have e0:cur'.toList[j]?=cur'[j]?:=by simp
      have e1:cur[j]?=cells[j]?:=by
        rw [← htk,List.getElem?_take,if_pos hjl]; simp
      rw [e0,hj j,e1,hcs]
      by_cases hin:0 + i * T.size + off + 0≤j∧j < 0 + i * T.size + off + 0 + vs.length
      · rw [if_pos hin]
        rw [List.getElem?_append_right (by omega),List.getElem?_append_left (by omega),p3,if_pos (by omega)]
        congr 1; omega
      · rw [if_neg hin]
        by_cases hjp:j < pre.length
        · rw [List.getElem?_append_left hjp,List.getElem?_append_left hjp]
        · by_cases hjc:j - pre.length < c0.length
          · rw [List.getElem?_append_right (by omega),List.getElem?_append_left hjc,List.getElem?_append_right (by omega),List.getElem?_append_left (by omega),p3,if_neg (by omega)]
          · rw [List.getElem?_append_right (by omega),List.getElem?_append_right (by omega),List.getElem?_append_right (by omega),List.getElem?_append_right (by omega),hput]
    · rw [List.getElem?_eq_none (by simp; omega),List.getElem?_eq_none (by simp only [List.length_append]; omega)]
  have hle:Le d w d w':=hI.le hfr (fun b hb=>by
    have:b=g:=by simpa using hb
    subst this
    exact hI.nod _ hu.mem b (by simp [row,Value.ownBlock])) (fun _ h=>h)
  refine ⟨w',?_,?_⟩
  · cases hii:P.info? t with
    | none=>simp [hii] at hs
    | some info=>
      have hsz2:info.size=vs.length:=by simpa [hii] using hs
      have hcl2:v.cells.size=vs.length:=by rw [vcells_eq,hv]; simp
      have hcl3:v.cells.toList=vs:=by rw [vcells_eq,hv]
      simp only [execOp,ha.eval hx,ha.eval hy,Instr.storeAt,Instr.sureAddr,storeVar,sizeOf,typeInfo,Sem.run_bind,run_program,Result.andThen_ok,hii,Sem.run_pure,hsz2,hcl2,ne_eq,not_true_eq_false,if_false,hcl3,hrun]
  · refine hI.replace hu (by simpa [row,Value.ownBlock] using hfr) (Grow.refl hI.lt hfr.size) ?_ (fun b hb=>.inl hb) (fun b hb=>hI.nod _ hu.mem b hb)
    refine ⟨pre ++ (cs' ++ post),?_,⟨?_,.inr ⟨g,cap,cur',?_,hbase,hb',?_,hmax,by rw [hsz']; exact hsz,?_⟩⟩,by simpa using hbig⟩
    · have hset:=hreps
      rw [hcs] at hset
      exact (hset.set_ (fun _ _ h=>T.len h) hlt hpl hl0 hr).mono fun _ _ h=>T.mono hle h
    · rw [List.length_set,← hown.1,hcs]
      simp only [List.length_append,p1]
    · rw [List.length_set,hlen]
    · rw [List.length_set]; exact hnc
    · rw [List.length_set]; exact hcells'
end
end Go.Sx
namespace Go.Sx
open Go.RowKit
theorem Sl.none_nil {α:Type} {T:Ty α} {d:Dat} {w:World} {A:Option Addr} {n c:Nat} {xs:List α} (h:Sl T d w (.slice A n c) xs) (hA:A.isNone=true):xs=[]:=by
  obtain ⟨A',c',hv,_,_,h3⟩:=h
  injection hv with h1 _ _
  subst h1
  rcases h3 with h | ⟨b,o,cs,hb,_⟩
  · exact h
  · subst hb; cases hA
end Go.Sx
namespace Go.Sx
open Go.RowKit
theorem row_at0 {α:Type} {T:Ty α} {d:Dat} {w:World} {e:TypeId} {A:Option Addr} {n c i:Nat} {x:α} {xs:List α} (h:(row T e (.slice A n c) xs).ok d w) (hi:xs[i]?=some x) :
    ∃ g cs,A=some ⟨g,0,none⟩∧T.rel d w x cs∧CellsAt w g (0 + i * T.size) cs:=by
  obtain ⟨g,cs,h1,h2,h3⟩:=row_at h hi
  exact ⟨g,cs,h1,h2,by rw [Nat.zero_add]; exact h3⟩
theorem row_cells {α:Type} {T:Ty α} {d:Dat} {w:World} {e:TypeId} {A:Option Addr} {g n c i:Nat} {x:α} {xs:List α} {cs0:List Value} (h:(row T e (.slice A n c) xs).ok d w) (hA:A=some ⟨g,0,none⟩) (hi:xs[i]?=some x)
    (hdet:∀ cs,T.rel d w x cs→cs=cs0):CellsAt w g (0 + i * T.size) cs0:=by
  obtain ⟨g',cs,h1,h2,h3⟩:=row_at0 h hi
  rw [hA] at h1
  injection h1 with h1
  injection h1 with h1 _ _
  subst h1
  rw [← hdet cs h2]
  exact h3
end Go.Sx
namespace Go.Sx
theorem Ev.of_y2 {P:Program} {n:Nat} {L:Env} {w:World} {op:Op} {ty:TypeId} {v:Value} (h:Yv P n op ty L w v):Ev P n op ty L w (fun u w'=>v=u∧w=w'):=
  Ev.of_run fun a d pos after guard ha=>⟨v,w,h a d pos after guard ha,rfl,rfl⟩
end Go.Sx
namespace Go.Sx
open Go.RowKit
theorem Inv.rowTake {α:Type} {T:Ty α} {M:List Nat} {d0 d:Dat} {we w:World} {rs rs':List Res} {e:TypeId} {A:Option Addr} {n c i:Nat} {xs:List α} (hI:Inv M d0 we d rs w) (hi:i≤xs.length)
    (hu:Upd (row T e (.slice A n c) xs) (row T e (.slice A (xs.take i).length c) (xs.take i)) rs rs'):Inv M d0 we d rs' w:=by
  obtain ⟨cells,hr,hown,hb⟩:=hI.ok _ hu.mem
  have hlen:(xs.take i).length=i:=by simp; omega
  have hfp:(row T e (.slice A (xs.take i).length c) (xs.take i)).fp=(row T e (.slice A n c) xs).fp:=by cases A <;> rfl
  refine (hI.replace hu (Fr.refl _ _) (Grow.refl hI.lt (Nat.le_refl _)) ?_ (fun b hb=>.inl (hfp ▸ hb)) (fun b hb=>hI.nod _ hu.mem b (hfp ▸ hb))).1
  have hl:=hown.1
  refine ⟨cells.take (i * T.size),hr.take (fun _ _ h=>T.len h) i,?_,by rw [hlen]; omega⟩
  rw [hlen]
  refine ⟨?_,?_⟩
  · rw [List.length_take,hl]
    exact Nat.min_eq_left (Nat.mul_le_mul_right _ hi)
  · rcases hown.2 with ⟨hv,hn⟩ | ⟨g,cap,cur,hv,hbase,hblk,hnc,hmax,hsz,htk⟩
    · left
      injection hv with h1 h2 h3
      exact ⟨by rw [h1,h3,show i=0 by omega],by omega⟩
    · right
      injection hv with h1 h2 h3
      refine ⟨g,cap,cur,by rw [h1,h3],hbase,hblk,by omega,hmax,hsz,?_⟩
      rw [← htk,List.take_take]
      congr 1
      exact (Nat.min_eq_left (Nat.mul_le_mul_right _ hi)).symm
theorem y_slice_toL {α:Type} {P:Program} {n:Nat} {L:Env} {w:World} {t ty:TypeId} {x hi:Operand} {A:Option Addr} {len c e size i:Nat} {j:Int} {xs:List α} (ht:elemOfT P t=some (e,size)) (hx:opv L x=some (.slice A len c))
    (hh:opv L hi=some (.int .i64 j)) (hj:j=(i:Int)) (hle:i≤c) (hl:xs.length=i):Yv P n (.slice t x none (some hi) none) ty L w (.slice A xs.length c):=by
  subst hl; exact y_slice_to ht hx hh hj hle
end Go.Sx
namespace Go.Sx
theorem row_cap {α:Type} {T:Ty α} {d:Dat} {w:World} {e:TypeId} {A:Option Addr} {n c:Nat} {xs:List α} (h:(row T e (.slice A n c) xs).ok d w):xs.length≤c:=by
  obtain ⟨A',c',hv,hc,_⟩:=row_form h
  injection hv with _ _ h3
  omega
end Go.Sx
