import Derived.Test.YtclblpmjamcknaaGreatCore3
import Derived.OwnWalk
namespace Go.Sx
open Go.RowKit
def Ev (P:Program) (n:Nat) (op:Op) (ty:TypeId) (L:Env) (w:World) (Post:Value→World→Prop):Prop:=
  ∀ a d pos after guard (K:Act→World→Prop) (Q:Exit→Act→World→Prop),Agree n a L→(∀ v w',Post v w'→K (a.put d v) w') →
    Oper.wp P { dst:=d,op:=op,type:=ty,pos:=pos,after:=after,guard:=guard } a w K Q
section
variable {P : Program} {n : Nat} {Q : Exit → Act → World → Prop} {L : Env} {w : World} {ops : Array Oper} {rest : List Oper} {o : Oper}
theorem g_e {dst:Option Nat} {op:Op} {ty:TypeId} {pos:String} {after:Array Edge} {guard:Option (Nat × Bool)} {Post:Value→World→Prop}
    (he:Ev P n op ty L w Post) (hg:grd L ops guard=some true) (hd:okD n dst=true) (h:∀ v w',Post v w'→G P n ops Q rest (putL L dst v) w') :
    G P n ops Q ({ dst:=dst,op:=op,type:=ty,pos:=pos,after:=after,guard:=guard } :: rest) L w:=by
  intro a ha
  refine wpList_step fun K hK=>?_
  rw [if_pos (wanted_of_grd (o:={ dst:=dst,op:=op,type:=ty,pos:=pos,after:=after,guard:=guard }) ha hg)]
  exact he a dst pos after guard K Q ha (fun v w' hp=>hK _ _ (h v w' hp _ (ha.putL hd v)))
theorem Ev.of_run {op:Op} {ty:TypeId} {Post:Value→World→Prop}
    (h:∀ a d pos after guard,Agree n a L→∃ v w',(execOp a.eval { dst:=d,op:=op,type:=ty,pos:=pos,after:=after,guard:=guard }).run P w=.ok (.value v) w'∧Post v w') :
    Ev P n op ty L w Post:=by
  intro a d pos after guard K Q ha hk
  obtain ⟨v,w',hr,hp⟩:=h a d pos after guard ha
  unfold Oper.wp
  rw [hr]
  exact hk v w' hp
theorem Ev.of_skip {op:Op} {ty:TypeId} {Post:Value→World→Prop}
    (h:∀ a d pos after guard,Agree n a L→∃ w',(execOp a.eval { dst:=d,op:=op,type:=ty,pos:=pos,after:=after,guard:=guard }).run P w=.ok .skip w'∧Post undef w') :
    Ev P n op ty L w Post:=by
  intro a d pos after guard K Q ha hk
  obtain ⟨w',hr,hp⟩:=h a d pos after guard ha
  unfold Oper.wp
  rw [hr]
  exact hk undef w' hp
theorem Ev.mono {op:Op} {ty:TypeId} {Post Post':Value→World→Prop} (h:Ev P n op ty L w Post) (hp:∀ v w',Post v w'→Post' v w'):Ev P n op ty L w Post':=
  fun a d pos after guard K Q ha hk=>h a d pos after guard K Q ha (fun v w' h'=>hk v w' (hp v w' h'))
def vcells:Value→List Value
  | .agg cs=>cs.toList
  | v=>[v]
theorem vcells_eq (v:Value):v.cells=(vcells v).toArray:=by cases v <;> simp [Value.cells,vcells]
def zeroT (P:Program) (t:TypeId):Option (List Value):=((P.info? t).bind (·.zero)).map vcells
variable {M : List Nat} {d0 d : Dat} {we : World} {rs rs' : List Res}
theorem fr_alloc (w:World) (o:Obj):Fr [] w (w.alloc o):=⟨rfl,rfl,rfl,by simp,fun b hb _=>Below.heap_alloc w o b hb⟩
theorem Inv.alloc {T:TypeId} {cs:List Value} (h:Inv M d0 we d rs w) :
    Inv M d0 we d (blk w.heap.size T cs :: rs) (w.alloc (.cells cs.toArray T))∧Le d w d (w.alloc (.cells cs.toArray T)):=by
  refine h.pureAdd (fr_alloc w _) (Grow.refl h.lt (by simp)) (heap_alloc_new w _) ?_ ?_
  · intro b hb; simp [blk] at hb; omega
  · intro b hb hd; simp [blk] at hb; have:=h.lt b hd; omega
theorem ev_alloc {T ty:TypeId} {zs:List Value} (hI:Inv M d0 we d rs w) (hz:zeroT P T=some zs) :
    Ev P n (.alloc T) ty L w (fun v w'=>∃ b,v=.pointer (some ⟨b,0,none⟩)∧Inv M d0 we d (blk b T zs :: rs) w'∧Le d w d w'):=by
  refine Ev.of_run fun a dd pos after guard ha=>?_
  unfold zeroT at hz
  cases hi:P.info? T with
  | none=>simp [hi] at hz
  | some info=>
    cases hzz:info.zero with
    | none=>simp [hi,hzz] at hz
    | some z=>
      simp [hi,hzz] at hz
      subst hz
      refine ⟨.pointer (some ⟨w.heap.size,0,none⟩),w.alloc (.cells (vcells z).toArray T),?_,w.heap.size,rfl,hI.alloc⟩
      simp [execOp,Instr.alloc,zeroValue,typeInfo,hi,hzz,newVar,newRow,vcells_eq]
theorem ev_box {T ty:TypeId} {x:Operand} {v:Value} (hI:Inv M d0 we d rs w) (hx:opv L x=some v) :
    Ev P n (.box T x) ty L w (fun u w'=>∃ b,u=.pointer (some ⟨b,0,none⟩)∧Inv M d0 we d (blk b T (vcells v) :: rs) w'∧Le d w d w'):=by
  refine Ev.of_run fun a dd pos after guard ha=>?_
  refine ⟨.pointer (some ⟨w.heap.size,0,none⟩),w.alloc (.cells (vcells v).toArray T),?_,w.heap.size,rfl,hI.alloc⟩
  simp [execOp,Instr.box,ha.eval hx,newVar,newRow,vcells_eq]
inductive Put:Nat→List Value→List Value→List Value→Prop
  | nil (cs:List Value):Put 0 [] cs cs
  | here (v u:Value) {vs cs cs':List Value}:Put 0 vs cs cs'→Put 0 (v :: vs) (u :: cs) (v :: cs')
  | next (u:Value) {o:Nat} {vs cs cs':List Value}:Put o vs cs cs'→Put (o + 1) vs (u :: cs) (u :: cs')
theorem Put.spec {o:Nat} {vs cs cs':List Value} (h:Put o vs cs cs') :
    cs'.length=cs.length∧(vs=[]∨o + vs.length≤cs.length)∧∀ i,cs'[i]?=if o≤i∧i < o + vs.length then vs[i - o]? else cs[i]?:=by
  induction h with
  | nil cs=>exact ⟨rfl,.inl rfl,fun i=>by rw [if_neg (by simp)]⟩
  | @here v u vs cs cs' h ih=>
    obtain ⟨h1,h2,h3⟩:=ih
    refine ⟨by simp [h1],.inr ?_,fun i=>?_⟩
    · rcases h2 with rfl | h2
      · simp
      · simp; omega
    · cases i with
      | zero=>simp
      | succ i=>
        have:=h3 i
        simp only [List.getElem?_cons_succ,this,List.length_cons]
        by_cases hc:i < 0 + vs.length
        · rw [if_pos (by omega),if_pos (by omega)]
          simp
        · rw [if_neg (by omega),if_neg (by omega)]
  | @next u o vs cs cs' h ih=>
    obtain ⟨h1,h2,h3⟩:=ih
    refine ⟨by simp [h1],h2.imp id (by simp; omega),fun i=>?_⟩
    cases i with
    | zero=>rw [if_neg (by omega)]; simp
    | succ i=>
      have:=h3 i
      simp only [List.getElem?_cons_succ,this]
      by_cases hc:o≤i∧i < o + vs.length
      · rw [if_pos hc,if_pos (by omega),show i + 1 - (o + 1)=i - o by omega]
      · rw [if_neg hc,if_neg (by omega)]
theorem heap_setCell_same {b i:Nat} {c:Array Value} {T:TypeId} {f:Nat × Nat} (h:w.heap[b]?=some (.cells c T f)) (v:Value) :
    (w.setCell ⟨b,i,none⟩ v).heap[b]?=some (.cells (c.setIfInBounds i v) T f):=by
  simp [World.setCell,Array.getElem?_modify,h]
theorem run_storeCells {b T:Nat} (vs:List Value):∀ (o i:Nat) (cs:Array Value) (w:World),w.heap[b]?=some (.cells cs T (0,0))→(∀ u ∈ vs,u.oneCell'=true)→o + i + vs.length≤cs.size →
    ∃ w' cs',(storeCells ⟨b,o,none⟩ vs i).run P w=.ok () w'∧w'.heap[b]?=some (.cells cs' T (0,0))∧Fr [b] w w'∧cs'.size=cs.size ∧
      ∀ j:Nat,cs'[j]?=if o + i≤j∧j < o + i + vs.length then vs[j - (o + i)]? else cs[j]?:=by
  induction vs with
  | nil=>
    intro o i cs w hb _ _
    exact ⟨w,cs,by simp [storeCells],hb,Fr.refl _ _,rfl,fun j=>by rw [if_neg (by simp)]⟩
  | cons v vs ih=>
    intro o i cs w hb hone hlen
    have hv:=hone v (by simp)
    have hlen':o + i < cs.size:=by simp at hlen; omega
    have hcell:w.cell? ⟨b,o + i,none⟩=some cs[o + i]:=by simp [World.cell?,hb,hlen']
    have hfz:w.frozen? ⟨b,o + i,none⟩=false:=by simp [World.frozen?,hb]
    have hb1:=heap_setCell_same (w:=w) (i:=o + i) hb v
    obtain ⟨w',cs',hr,hb',hfr,hs,hj⟩:=ih o (i + 1) (cs.setIfInBounds (o + i) v) (w.setCell ⟨b,o + i,none⟩ v) hb1 (fun u hu=>hone u (by simp [hu])) (by simp at hlen ⊢; omega)
    refine ⟨w',cs',?_,hb',?_,by simpa using hs,?_⟩
    · simp only [storeCells,add_none,Sem.run_bind,run_store P w ⟨b,o + i,none⟩ v .plain hv,hcell,hfz,Bool.false_eq_true,if_false,Result.andThen_ok]
      exact hr
    · have h0:Fr [b] w (w.setCell ⟨b,o + i,none⟩ v):=
        ⟨rfl,rfl,rfl,by simp,fun k hk hn=>Below.heap_setCell w ⟨b,o + i,none⟩ v k (by simpa using hn)⟩
      exact h0.trans hfr (fun k hk=>.inl hk)
    · intro j
      rw [hj j]
      by_cases hc:o + (i + 1)≤j∧j < o + (i + 1) + vs.length
      · rw [if_pos hc,if_pos (by simp; omega)]
        rw [show j - (o + i)=(j - (o + (i + 1))) + 1 by omega]
        simp
      · rw [if_neg hc]
        by_cases he:j=o + i
        · subst he
          rw [if_pos (by simp)]
          simp [hlen']
        · rw [if_neg (by simp; omega)]
          rw [Array.getElem?_setIfInBounds]
          rw [if_neg (by omega)]
theorem ev_store {t ty:TypeId} {x y:Operand} {b o T:Nat} {v:Value} {vs cs cs':List Value} (hI:Inv M d0 we d rs w) (hx:opv L x=some (.pointer (some ⟨b,o,none⟩))) (hy:opv L y=some v)
    (hv:vcells v=vs) (hs:(P.info? t).map (·.size)=some vs.length) (hone:vs.all (·.oneCell')=true) (hp:Put o vs cs cs') (hu:Upd (blk b T cs) (blk b T cs') rs rs') :
    Ev P n (.store t x y) ty L w (fun _ w'=>Inv M d0 we d rs' w'∧Le d w d w'):=by
  refine Ev.of_skip fun a dd pos after guard ha=>?_
  obtain ⟨h1,h2,h3⟩:=hp.spec
  have hb:w.heap[b]?=some (.cells cs.toArray T (0,0)):=hI.ok _ hu.mem
  have hone':∀ u ∈ vs,u.oneCell'=true:=fun u hu'=>(List.all_eq_true.1 hone) u hu'
  cases hi:P.info? t with
  | none=>simp [hi] at hs
  | some info=>
    have hsz:info.size=vs.length:=by simpa [hi] using hs
    have hcl:v.cells.size=vs.length:=by rw [vcells_eq,hv]; simp
    have hcl2:v.cells.toList=vs:=by rw [vcells_eq,hv]
    rcases h2 with h2 | h2
    · subst h2
      refine ⟨w,?_,?_⟩
      · simp only [execOp,ha.eval hx,ha.eval hy,Instr.storeAt,Instr.sureAddr,storeVar,sizeOf,typeInfo,Sem.run_bind,run_program,Result.andThen_ok,hi,Sem.run_pure,hsz,hcl,ne_eq,not_true_eq_false,if_false,hcl2,storeCells]
      · have e:cs'=cs:=List.ext_getElem? (fun i=>by rw [h3 i,if_neg (by simp)])
        subst e
        have:=hI.replace hu (Fr.refl _ w) (Grow.refl hI.lt (Nat.le_refl _)) hb (fun b hb=>.inl hb) (hI.nod _ hu.mem)
        exact this
    · obtain ⟨w',cs'',hr,hb',hfr,hsz',hj⟩:=run_storeCells (P:=P) (b:=b) (T:=T) vs o 0 cs.toArray w hb hone' (by simpa using h2)
      have e:cs''=cs'.toArray:=by
        apply Array.ext_getElem?
        intro i
        rw [hj i]
        simp only [List.getElem?_toArray]
        rw [h3 i]
        simp
      subst e
      refine ⟨w',?_,?_⟩
      · simp only [execOp,ha.eval hx,ha.eval hy,Instr.storeAt,Instr.sureAddr,storeVar,sizeOf,typeInfo,Sem.run_bind,run_program,Result.andThen_ok,hi,Sem.run_pure,hsz,hcl,ne_eq,not_true_eq_false,if_false,hcl2,hr]
      · exact hI.replace hu hfr (Grow.refl hI.lt hfr.size) hb' (fun b hb=>.inl hb) (fun k hk=>hI.nod (blk b T cs) hu.mem k hk)
def Ret (P:Program) (f:FuncId) (args:List Value) (w:World) (M:List Nat) (d:Dat) (Post:Value→Dat→World→Prop):Prop:=
  Calls P f args.toArray w fun e w'=>∃ v d',e=.returned v∧Fr M w w'∧Grow d w d' w'∧Post v d' w'
def opvs (L:Env):List Operand→Option (List Value)
  | []=>some []
  | x :: xs=>match opv L x,opvs L xs with
    | some v,some vs=>some (v :: vs)
    | _,_=>none
theorem evals {a:Act} (ha:Agree n a L):∀ {xs:List Operand} {vs:List Value},opvs L xs=some vs→(xs.toArray.map a.eval)=vs.toArray:=by
  intro xs
  induction xs with
  | nil=>intro vs h; simp [opvs] at h; subst h; simp
  | cons x xs ih=>
    intro vs h
    simp only [opvs] at h
    cases hx:opv L x with
    | none=>simp [hx] at h
    | some v=>
      cases hxs:opvs L xs with
      | none=>simp [hx,hxs] at h
      | some us=>
        simp [hx,hxs] at h
        subst h
        have:=ih hxs
        simp only [List.map_toArray] at this
        have h2:xs.map a.eval=us:=by simpa using congrArg Array.toList this
        simp [ha.eval hx,h2]
def plainF (P:Program) (f:FuncId):Bool:=
  match P.funcs[f]? with
  | some fn => fn.name != "runtime.NumGoroutine" && fn.body.isSome
  | none=>false
theorem run_callFunc {f:FuncId} (hf:plainF P f=true) (args:Array Value):(callFunc f args).run P w=.ok (.enter f args) w:=by
  unfold plainF at hf
  cases h:P.funcs[f]? with
  | none=>simp [h] at hf
  | some fn=>
    simp only [h,Bool.and_eq_true,bne_iff_ne] at hf
    have hb:fn.body.isNone=false:=by cases hfb:fn.body <;> simp_all
    simp [callFunc,h,hf.1]
    intro hno
    simp [hno] at hb
theorem ev_ret {x:Operand} {xs:List Operand} {ts:Array TypeId} {ty:TypeId} {f:FuncId} {first captured vs:List Value} {N:List Nat} {Post:Value→Dat→World→Prop}
    (hf:plainF P f=true) (hx:opv L x=some (.func (.func f) first.toArray captured.toArray)) (hxs:opvs L xs=some vs) (hc:Ret P f (first ++ vs ++ captured) w N d Post) :
    Ev P n (.call { callee:=.value x,args:=xs.toArray,argTypes:=ts }) ty L w (fun v w'=>∃ d',Fr N w w'∧Grow d w d' w'∧Post v d' w'):=by
  intro a dd pos after guard K Q ha hk
  unfold Oper.wp
  have e:(execOp a.eval { dst:=dd,op:=.call { callee:=.value x,args:=xs.toArray,argTypes:=ts },type:=ty,pos:=pos,after:=after,guard:=guard }).run P w=.ok (.enter f (first ++ vs ++ captured).toArray) w:=by
    simp only [execOp,resolve,ha.eval hx,Deferred.ofValue,evals ha hxs,Sem.run_bind,Sem.run_pure,Result.andThen_ok,invoke]
    simp only [List.append_toArray]
    exact run_callFunc hf _
  rw [e]
  refine Calls.mono hc ?_
  rintro _ w' ⟨v,d',rfl,hfr,hg,hp⟩
  exact hk v w' ⟨d',hfr,hg,hp⟩
theorem ev_call {f:FuncId} {xs:List Operand} {ts:Array TypeId} {ty:TypeId} {vs:List Value} {N:List Nat} {Post:Value→Dat→World→Prop}
    (hf:plainF P f=true) (hxs:opvs L xs=some vs) (hc:Ret P f vs w N d Post) :
    Ev P n (.call { callee:=.value (.func f),args:=xs.toArray,argTypes:=ts }) ty L w (fun v w'=>∃ d',Fr N w w'∧Grow d w d' w'∧Post v d' w'):=by
  refine ev_ret (first:=[]) (captured:=[]) hf rfl hxs ?_
  simpa using hc
theorem ev_pure {f:FuncId} {xs:List Operand} {ts:Array TypeId} {ty:TypeId} {vs:List Value} {Post:Value→Dat→World→Prop} (hI:Inv M d0 we d rs w)
    (hf:plainF P f=true) (hxs:opvs L xs=some vs) (hc:Ret P f vs w [] d Post) :
    Ev P n (.call { callee:=.value (.func f),args:=xs.toArray,argTypes:=ts }) ty L w (fun v w'=>∃ d',Inv M d0 we d' rs w'∧Le d w d' w'∧Post v d' w'):=
  (ev_call hf hxs hc).mono fun _ _ ⟨d',hfr,hg,hp⟩=>⟨d',(hI.pure hfr hg).1,(hI.pure hfr hg).2,hp⟩
def zip0:Nat→List Value→Env
  | _,[]=>[]
  | i,v :: vs=>(i,v) :: zip0 (i + 1) vs
theorem look_zip0:∀ (vs:List Value) (i t:Nat) (v:Value),look (zip0 i vs) t=some v→i≤t∧vs[t - i]?=some v
  | [],_,_,_,h=>by simp [zip0,look] at h
  | u :: vs,i,t,v,h=>by
    simp only [zip0,look] at h
    cases hb:Nat.beq i t with
    | true=>
      have e:=Nat.eq_of_beq_eq_true hb
      subst e
      simp only [hb,cond_true,Option.some.injEq] at h
      subst h
      simp
    | false=>
      simp only [hb,cond_false] at h
      obtain ⟨h1,h2⟩:=look_zip0 vs (i + 1) t v h
      refine ⟨by omega,?_⟩
      rw [show t - i=(t - (i + 1)) + 1 by omega]
      simpa using h2
theorem ret_enter {f:FuncId} {fn:Func} {c:Code} {vs:List Value} {N:List Nat} {Post:Value→Dat→World→Prop} (hf:P.funcs[f]?=some fn) (hb:fn.body=some c) (hn:fn.ntmps=n) (hle:vs.length≤n)
    (h:C P n (bodyPost P fn fun e w'=>∃ v d',e=.returned v∧Fr N w w'∧Grow d w d' w'∧Post v d' w') c (zip0 0 vs) w):Ret P f vs w N d Post:=by
  refine calls_of_wp hf hb (h _ ⟨?_,rfl,?_⟩)
  · simp [hn]; omega
  · intro t v hv
    obtain ⟨_,h2⟩:=look_zip0 vs 0 t v hv
    have hlt:t < vs.length:=by
      rcases Nat.lt_or_ge t vs.length with h' | h'
      · exact h'
      · rw [Nat.sub_zero,List.getElem?_eq_none h'] at h2; cases h2
    rw [Array.getElem?_append_left (by simpa using hlt)]
    simpa using h2
def resOf (P:Program) (L:Env) (w:World):List ResultVar→List Value→Prop
  | [],vs=>vs=[]
  | .tmp t :: rs,vs=>∃ v us,vs=v :: us∧look L t=some v∧resOf P L w rs us
  | .cell t T :: rs,vs=>∃ b cs us,vs=.agg cs.toArray :: us∧look L t=some (.pointer (some ⟨b,0,none⟩))∧CellsAt w b 0 cs∧shapeT P T=some (some cs.length)∧resOf P L w rs us
def retv:List Value→Value
  | [v]=>v
  | vs=>.tuple vs.toArray
theorem run_loadVarA {b T:Nat} {cs:List Value} (ht:shapeT P T=some (some cs.length)) (hc:CellsAt w b 0 cs):(loadVar T ⟨b,0,none⟩).run P w=.ok (.agg cs.toArray) w:=by
  have := y_loadA (P := P) (n := 0) (L := []) (x := .const (.pointer (some ⟨b, 0, none⟩))) (ty := 0) (w := w) (cs := cs) (t := T) ht rfl hc ⟨#[], []⟩ none "" #[] none ⟨rfl, rfl, fun t v h => by simp [look] at h⟩
  simp only [execOp,Act.eval,Instr.loadAt,Instr.sureAddr,Sem.run_bind,Sem.run_pure,Result.andThen_ok] at this
  cases hr:(loadVar T ⟨b,0,none⟩).run P w with
  | ok v w'=>rw [hr] at this; simp at this; obtain ⟨rfl,rfl⟩:=this; rfl
  | halt h w'=>rw [hr] at this; simp at this
def resM (tmps:Array Value):ResultVar→Sem Value
  | .tmp t=>Pure.pure (tmps.getD t undef)
  | .cell t T=>do loadVar T (← asAddr (tmps.getD t undef))
theorem run_res {a:Act} (ha:Agree n a L):∀ {rv:List ResultVar} {vs:List Value},resOf P L w rv vs→(rv.mapM (resM a.tmps)).run P w=.ok vs w:=by
  intro rv
  induction rv with
  | nil=>intro vs h; simp only [resOf] at h; subst h; simp
  | cons r rv ih=>
    intro vs h
    cases r with
    | tmp t=>
      obtain ⟨v,us,rfl,hl,h⟩:=h
      have e:a.tmps.getD t undef=v:=ha.eval (x:=.tmp t) hl
      simp only [List.mapM_cons,resM,Sem.run_bind,Sem.run_pure,Result.andThen_ok,ih h,e]
    | cell t T=>
      obtain ⟨b,cs,us,rfl,hl,hc,ht,h⟩:=h
      have e:a.tmps.getD t undef=.pointer (some ⟨b,0,none⟩):=ha.eval (x:=.tmp t) hl
      simp only [List.mapM_cons,resM,Sem.run_bind,Sem.run_pure,Result.andThen_ok,ih h,e,asAddr,run_loadVarA ht hc]
theorem x_ret {fn:Func} {R:Ending→World→Prop} {vs:List Value} (hr:resOf P L w fn.results.toList vs) (hR:R (.returned (retv vs)) w):X n (bodyPost P fn R) .ret L w:=by
  intro a ha
  refine bodyPost_ret (v:=retv vs) ?_ ha.defers hR
  have h:=run_res (P:=P) (w:=w) ha hr
  have e:results fn a.tmps=(do
      let vs ← fn.results.mapM (resM a.tmps)
      Pure.pure (if h:vs.size=1 then vs[0] else .tuple vs)):=rfl
  have e2:fn.results.mapM (resM a.tmps)=List.toArray <$> fn.results.toList.mapM (resM a.tmps):=by
    rw [← List.mapM_toArray]
  rw [e,e2]
  simp only [Sem.run_bind,Sem.run_map,h,Result.andThen_ok,Sem.run_pure]
  congr 1
  match vs with
  | []=>simp [retv]
  | [v]=>simp [retv]
  | v :: u :: us=>simp [retv]
theorem blk_cells {b T:Nat} {cs:List Value} (hI:Inv M d0 we d rs w) (hm:blk b T cs ∈ rs):CellsAt w b 0 cs:=by
  have hb:w.heap[b]?=some (.cells cs.toArray T (0,0)):=hI.ok _ hm
  intro j u hu
  simp [World.cell?,hb,hu]
def Rnd {ι:Type} (n:Nat) (st:ι→Env) (J:ι→World→Prop) (μ:ι→Nat) (i:ι) (Q:Exit→Act→World→Prop):Exit→Act→World→Prop:=
  Exit.then (fun a' w'=>∃ j,μ j < μ i∧Agree n a' (st j)∧J j w') Q
theorem c_loop {ι:Type} (st:ι→Env) (J:ι→World→Prop) (μ:ι→Nat) {body:Code} (i0:ι) (hL:Sub L (st i0)) (h0:J i0 w)
    (round:∀ i w,J i w→C P n (Rnd n st J μ i Q) body (st i) w):C P n Q (.loop body) L w:=by
  intro a ha
  refine wp_loop_ghost (fun k a w=>∃ i,μ i=k∧Agree n a (st i)∧J i w) (μ i0) ⟨i0,rfl,ha.sub hL,h0⟩ ?_
  rintro k a w ⟨i,rfl,hi,hJ⟩
  refine wp_mono (round i w hJ a hi) ?_
  intro e a' w' hq
  cases e with
  | normal=>
    obtain ⟨j,h1,h2,h3⟩:=hq
    exact ⟨μ j,h1,j,rfl,h2,h3⟩
  | exit id=>exact hq
  | goto l=>exact hq
  | ret=>exact hq
  | panic ch=>exact hq
  | outgrown=>exact hq
section
variable {ι : Type} {st : ι → Env} {J : ι → World → Prop} {μ : ι → Nat} {i : ι}
theorem x_round (j:ι) (hlt:μ j < μ i) (hs:Sub L (st j)) (hJ:J j w):X n (Rnd n st J μ i Q) .normal L w:=fun _ ha=>⟨j,hlt,ha.sub hs,hJ⟩
theorem x_rndE {id:Nat} (h:X n Q (.exit id) L w):X n (Rnd n st J μ i Q) (.exit id) L w:=fun a ha=>h a ha
theorem x_rndR (h:X n Q .ret L w):X n (Rnd n st J μ i Q) .ret L w:=fun a ha=>h a ha
end
end
end Go.Sx
