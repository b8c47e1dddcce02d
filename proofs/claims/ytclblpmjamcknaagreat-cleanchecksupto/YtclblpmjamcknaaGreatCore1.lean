import Derived.Tactics
import Derived.Tactics2
import Derived.IntWalk
import Derived.OrdersHeld
import Derived.Deep.LoopGhost
import Derived.ScopeJumps
import Derived.Below
import Derived.Laws.Strings
namespace Go.Sx
open Go.RowKit
abbrev Env:=List (Nat × Value)
def look:Env→Nat→Option Value
  | [],_=>none
  | (d,v) :: L,t=>bif Nat.beq d t then some v else look L t
def opv (L:Env):Operand→Option Value
  | .tmp t=>look L t
  | .const v=>some v
  | .global g=>some (.pointer (some ⟨g,0,none⟩))
  | .func f=>some (.func (.func f) #[] #[])
structure Agree (n:Nat) (a:Act) (L:Env):Prop where
  size:a.tmps.size=n
  defers:a.defers=[]
  at_:∀ t v,look L t=some v→a.tmps[t]?=some v
theorem Agree.eval {n a L} (h:Agree n a L) {x:Operand} {v:Value} (hx:opv L x=some v):a.eval x=v:=by
  cases x with
  | tmp t=>
    have:=h.at_ t v hx
    simp [Act.eval,Array.getD_eq_getD_getElem?,this]
  | const u=>exact Option.some.inj hx
  | global g=>exact Option.some.inj hx
  | func f=>exact Option.some.inj hx
theorem Agree.put {n a L} (h:Agree n a L) {d:Nat} (hd:Nat.blt d n=true) (v:Value):Agree n (a.put (some d) v) ((d,v) :: L):=by
  have hd':d < n:=by simpa [Nat.blt_eq] using hd
  refine ⟨by simp [Act.put,h.size],by simp [Act.put,h.defers],?_⟩
  intro t u hu
  simp only [look] at hu
  simp only [Act.put,Array.getElem?_setIfInBounds]
  cases hb:Nat.beq d t with
  | true=>
    have e:d=t:=Nat.eq_of_beq_eq_true hb
    subst e
    simp only [hb,cond_true,Option.some.injEq] at hu
    subst hu
    simp [h.size,hd']
  | false=>
    have e:¬ d=t:=fun e=>by subst e; simp [Nat.beq_refl] at hb
    simp only [hb,cond_false] at hu
    simp [e]
    exact h.at_ t u hu
def putL (L:Env):Option Nat→Value→Env
  | some d,v=>(d,v) :: L
  | none,_=>L
def okD (n:Nat):Option Nat→Bool
  | some d=>Nat.blt d n
  | none=>true
theorem Agree.putL {n a L} (h:Agree n a L) {d:Option Nat} (hd:okD n d=true) (v:Value):Agree n (a.put d v) (putL L d v):=by
  cases d with
  | none=>exact h
  | some d=>exact h.put hd v
def Sub (L L':Env):Prop:=∀ t v,look L' t=some v→look L t=some v
theorem Sub.refl (L:Env):Sub L L:=fun _ _ h=>h
theorem Sub.nil (L:Env):Sub L []:=fun _ _ h=>by simp [look] at h
theorem Sub.cons {L L':Env} {t:Nat} {v:Value} (h:look L t=some v) (hs:Sub L L'):Sub L ((t,v) :: L'):=by
  intro t' v' h'
  simp only [look] at h'
  cases hb:Nat.beq t t' with
  | true=>
    have e:=Nat.eq_of_beq_eq_true hb
    subst e
    simp only [hb,cond_true,Option.some.injEq] at h'
    subst h'; exact h
  | false=>simp only [hb,cond_false] at h'; exact hs _ _ h'
theorem Sub.of_put {L:Env} {t:Nat} {v:Value} (h:look L t=some v):Sub L ((t,v) :: L):=Sub.cons h (Sub.refl L)
theorem Agree.sub {n a L L'} (h:Agree n a L) (hs:Sub L L'):Agree n a L':=⟨h.size,h.defers,fun t v hv=>h.at_ t v (hs t v hv)⟩
section
variable (P : Program) (n : Nat)
def G (ops:Array Oper) (Q:Exit→Act→World→Prop) (rest:List Oper) (L:Env) (w:World):Prop:=∀ a,Agree n a L→wpList P ops Q rest a w
def C (Q:Exit→Act→World→Prop) (c:Code) (L:Env) (w:World):Prop:=∀ a,Agree n a L→c.wp P Q a w
def X (Q:Exit→Act→World→Prop) (e:Exit) (L:Env) (w:World):Prop:=∀ a,Agree n a L→Q e a w
end
section
variable {P : Program} {n : Nat} {Q : Exit → Act → World → Prop} {L : Env} {w : World} {ops : Array Oper} {rest : List Oper} {o : Oper}
theorem c_seq {x y:Code} (h:C P n (Exit.then (fun a w=>y.wp P Q a w) Q) x L w):C P n Q (.seq x y) L w:=fun a ha=>wp_seq (h a ha)
theorem c_block {id:Nat} {c:Code} (h:C P n (Exit.inBlock id Q) c L w):C P n Q (.block id c) L w:=fun a ha=>wp_block (h a ha)
theorem c_ret (h:X n Q .ret L w):C P n Q .ret L w:=fun a ha=>wp_ret (h a ha)
theorem c_skip (h:X n Q .normal L w):C P n Q .skip L w:=fun a ha=>wp_skip (h a ha)
theorem c_label {l:Nat} (h:X n Q .normal L w):C P n Q (.label l) L w:=fun a ha=>wp_label (h a ha)
theorem c_goto {l:Nat} (h:X n Q (.goto l) L w):C P n Q (.goto l) L w:=fun a ha=>wp_goto (h a ha)
theorem c_exit {id:Nat} (h:X n Q (.exit id) L w):C P n Q (.exit id) L w:=fun a ha=>wp_exit (h a ha)
theorem c_condT {c:Operand} {x y:Code} (hc:opv L c=some (.bool true)) (h:C P n Q x L w):C P n Q (.cond c x y) L w:=
  fun a ha=>wp_cond_true (ha.eval hc) (h a ha)
theorem c_condF {c:Operand} {x y:Code} (hc:opv L c=some (.bool false)) (h:C P n Q y L w):C P n Q (.cond c x y) L w:=
  fun a ha=>wp_cond_false (ha.eval hc) (h a ha)
theorem c_cond {c:Operand} {x y:Code} {t:Bool} (hc:opv L c=some (.bool t)) (ht:t=true→C P n Q x L w) (hf:t=false→C P n Q y L w):C P n Q (.cond c x y) L w:=
  fun a ha=>wp_cond_split (ha.eval hc) (fun h=>ht h a ha) (fun h=>hf h a ha)
theorem c_region {id:Nat} {l:List Oper} (h:G P n l.toArray Q l L w):C P n Q (.region id l.toArray false) L w:=
  fun a ha=>wp_region_lit (h a ha)
theorem c_sub {c:Code} {L':Env} (hs:Sub L L') (h:C P n Q c L' w):C P n Q c L w:=fun a ha=>h a (ha.sub hs)
theorem c_mono {c:Code} {Q':Exit→Act→World→Prop} (hq:∀ e a w,Q' e a w→Q e a w) (h:C P n Q' c L w):C P n Q c L w:=fun a ha=>Code.wp_mono hq (h a ha)
theorem g_nil (h:X n Q .normal L w):G P n ops Q [] L w:=fun a ha=>wpList_nil (h a ha)
theorem g_sub {L':Env} (hs:Sub L L') (h:G P n ops Q rest L' w):G P n ops Q rest L w:=fun a ha=>h a (ha.sub hs)
theorem x_next {y:Code} (h:C P n Q y L w):X n (Exit.then (fun a w=>y.wp P Q a w) Q) .normal L w:=fun a ha=>h a ha
theorem x_thenE {K:Act→World→Prop} {id:Nat} (h:X n Q (.exit id) L w):X n (Exit.then K Q) (.exit id) L w:=fun a ha=>h a ha
theorem x_thenR {K:Act→World→Prop} (h:X n Q .ret L w):X n (Exit.then K Q) .ret L w:=fun a ha=>h a ha
theorem x_thenG {K:Act→World→Prop} {l:Nat} (h:X n Q (.goto l) L w):X n (Exit.then K Q) (.goto l) L w:=fun a ha=>h a ha
theorem x_blockN {id:Nat} (h:X n Q .normal L w):X n (Exit.inBlock id Q) .normal L w:=fun a ha=>h a ha
theorem x_blockR {id:Nat} (h:X n Q .ret L w):X n (Exit.inBlock id Q) .ret L w:=fun a ha=>h a ha
theorem x_blockE {id:Nat} (h:X n Q .normal L w):X n (Exit.inBlock id Q) (.exit id) L w:=fun a ha=>by simpa [Exit.inBlock] using h a ha
theorem x_blockO {id j:Nat} (hne:Nat.beq j id=false) (h:X n Q (.exit j) L w):X n (Exit.inBlock id Q) (.exit j) L w:=fun a ha=>by
  have:¬ j=id:=fun e=>by subst e; simp [Nat.beq_refl] at hne
  simpa [Exit.inBlock,this] using h a ha
def Yv (P:Program) (n:Nat) (o:Op) (ty:TypeId) (L:Env) (w:World) (v:Value):Prop:=
  ∀ a d pos after guard,Agree n a L→(execOp a.eval { dst:=d,op:=o,type:=ty,pos:=pos,after:=after,guard:=guard }).run P w=.ok (.value v) w
def gdst (ops:Array Oper) (j:Nat):Option Nat:=(ops[j]?).bind (·.dst)
def grd (L:Env) (ops:Array Oper):Option (Nat × Bool)→Option Bool
  | none=>some true
  | some (j,want)=>match gdst ops j with
    | none=>none
    | some t=>match look L t with
      | some (.bool b)=>some (b == want)
      | some (.tuple _)=>some false
      | _=>none
theorem wanted_of_grd {a:Act} (ha:Agree n a L) {o:Oper} {r:Bool} (h:grd L ops o.guard=some r):Region.wanted o (yielded ops a.tmps)=r:=by
  unfold Region.wanted
  revert h
  cases hg:o.guard with
  | none=>intro h; simpa [grd] using h
  | some jw=>
    obtain ⟨j,want⟩:=jw
    simp only [grd,gdst]
    cases hd:(ops[j]?).bind (·.dst) with
    | none=>intro h; simp at h
    | some t=>
      simp only
      cases hl:look L t with
      | none=>intro h; simp at h
      | some v=>
        have ht:=ha.at_ t _ hl
        cases v <;> intro h <;> simp at h
        · rename_i b
          simp only [yielded,hd,Option.bind_some,ht]
          rw [← h]
          cases b <;> cases want <;> rfl
        · simp only [yielded,hd,Option.bind_some,ht]
          subst h
          rfl
theorem g_y {dst:Option Nat} {op:Op} {ty:TypeId} {pos:String} {after:Array Edge} {guard:Option (Nat × Bool)} {v:Value}
    (hy:Yv P n op ty L w v) (hg:grd L ops guard=some true) (hd:okD n dst=true) (h:G P n ops Q rest (putL L dst v) w) :
    G P n ops Q ({ dst:=dst,op:=op,type:=ty,pos:=pos,after:=after,guard:=guard } :: rest) L w:=by
  intro a ha
  refine wpList_step fun K hK=>?_
  rw [if_pos (wanted_of_grd (o:={ dst:=dst,op:=op,type:=ty,pos:=pos,after:=after,guard:=guard }) ha hg)]
  unfold Oper.wp
  rw [hy a dst pos after guard ha]
  exact hK _ _ (h _ (ha.putL hd v))
theorem g_skip {dst:Option Nat} {op:Op} {ty:TypeId} {pos:String} {after:Array Edge} {guard:Option (Nat × Bool)}
    (hg:grd L ops guard=some false) (hd:okD n dst=true) (h:G P n ops Q rest (putL L dst undef) w) :
    G P n ops Q ({ dst:=dst,op:=op,type:=ty,pos:=pos,after:=after,guard:=guard } :: rest) L w:=by
  intro a ha
  exact wpList_skip (wanted_of_grd (o:={ dst:=dst,op:=op,type:=ty,pos:=pos,after:=after,guard:=guard }) ha hg) (h _ (ha.putL hd undef))
theorem g_split {t:Nat} {b:Bool} (hb:look L t=some (.bool b)) (ht:b=true→G P n ops Q rest ((t,.bool true) :: L) w)
    (hf:b=false→G P n ops Q rest ((t,.bool false) :: L) w):G P n ops Q rest L w:=by
  cases b with
  | true=>exact g_sub (Sub.of_put hb) (ht rfl)
  | false=>exact g_sub (Sub.of_put hb) (hf rfl)
theorem y_move {x:Operand} {ty:TypeId} {v:Value} (hx:opv L x=some v):Yv P n (.move x) ty L w v:=by
  intro a d pos after guard ha; simp [execOp,ha.eval hx]
theorem y_assign {x:Operand} {ty:TypeId} {v:Value} (hx:opv L x=some v):Yv P n (.assign x) ty L w v:=by
  intro a d pos after guard ha; simp [execOp,ha.eval hx]
theorem y_pickT {c x y:Operand} {ty:TypeId} {v:Value} (hc:opv L c=some (.bool true)) (hx:opv L x=some v):Yv P n (.pick c x y) ty L w v:=by
  intro a d pos after guard ha; simp [execOp,ha.eval hx,ha.eval hc,asBool]
theorem y_pickF {c x y:Operand} {ty:TypeId} {v:Value} (hc:opv L c=some (.bool false)) (hy:opv L y=some v):Yv P n (.pick c x y) ty L w v:=by
  intro a d pos after guard ha; simp [execOp,ha.eval hy,ha.eval hc,asBool]
def nth {α:Type}:List α→Nat→Option α
  | [],_=>none
  | x :: _,0=>some x
  | _ :: l,i + 1=>nth l i
theorem nth_eq {α:Type}:∀ (l:List α) (i:Nat),nth l i=l[i]?
  | [],_=>by simp [nth]
  | x :: l,0=>by simp [nth]
  | x :: l,i + 1=>by simp [nth,nth_eq l i]
theorem y_extract {x:Operand} {i:Nat} {ty:TypeId} {vs:List Value} {v:Value} (hx:opv L x=some (.tuple vs.toArray)) (hi:nth vs i=some v) :
    Yv P n (.extract x i) ty L w v:=by
  intro a d pos after guard ha
  rw [nth_eq] at hi
  simp [execOp,ha.eval hx,Instr.extract,hi]
theorem y_not {t:TypeId} {x:Operand} {ty:TypeId} {b:Bool} (hx:opv L x=some (.bool b)):Yv P n (.unOp .not t x) ty L w (.bool (!b)):=by
  intro a d pos after guard ha; simp [execOp,ha.eval hx,Op.unary]
theorem wrap64_id {k:Int} (h:-9223372036854775808≤k∧k≤9223372036854775807):IntKind.wrap .i64 k=k:=IntWalk.i64_in k h
section ints
variable {t yt ty : TypeId} {x y : Operand} {k : IntKind} {i j : Int}
theorem run_eqGuard_int (op:BinOp) (t:TypeId) (x y:Operand) (k k':IntKind) (i j:Int):(eqGuard op t x y (.int k i) (.int k' j)).run P w=.ok () w:=by
  unfold eqGuard; cases op <;> rfl
theorem y_add (hx:opv L x=some (.int .i64 i)) (hy:opv L y=some (.int .i64 j)) (hr:-9223372036854775808≤i + j∧i + j≤9223372036854775807) :
    Yv P n (.binOp .add t x y yt) ty L w (.int .i64 (i + j)):=by
  intro a d pos after guard ha
  simp [execOp,ha.eval hx,ha.eval hy,run_eqGuard_int,binOp,Op.intArith,wrap64_id hr]
theorem y_sub (hx:opv L x=some (.int .i64 i)) (hy:opv L y=some (.int .i64 j)) (hr:-9223372036854775808≤i - j∧i - j≤9223372036854775807) :
    Yv P n (.binOp .sub t x y yt) ty L w (.int .i64 (i - j)):=by
  intro a d pos after guard ha
  simp [execOp,ha.eval hx,ha.eval hy,run_eqGuard_int,binOp,Op.intArith,wrap64_id hr]
theorem y_addw (hx:opv L x=some (.int k i)) (hy:opv L y=some (.int k j)):Yv P n (.binOp .add t x y yt) ty L w (.int k (k.wrap (i + j))):=by
  intro a d pos after guard ha
  simp [execOp,ha.eval hx,ha.eval hy,run_eqGuard_int,binOp,Op.intArith]
theorem y_subw (hx:opv L x=some (.int k i)) (hy:opv L y=some (.int k j)):Yv P n (.binOp .sub t x y yt) ty L w (.int k (k.wrap (i - j))):=by
  intro a d pos after guard ha
  simp [execOp,ha.eval hx,ha.eval hy,run_eqGuard_int,binOp,Op.intArith]
theorem y_mulw (hx:opv L x=some (.int k i)) (hy:opv L y=some (.int k j)):Yv P n (.binOp .mul t x y yt) ty L w (.int k (k.wrap (i * j))):=by
  intro a d pos after guard ha
  simp [execOp,ha.eval hx,ha.eval hy,run_eqGuard_int,binOp,Op.intArith]
theorem y_rem (hx:opv L x=some (.int k i)) (hy:opv L y=some (.int k j)) (hj:0 < j):Yv P n (.binOp .rem t x y yt) ty L w (.int k (i.tmod j)):=by
  intro a d pos after guard ha
  have h0:¬ j=0:=by omega
  simp [execOp,ha.eval hx,ha.eval hy,run_eqGuard_int,binOp,Op.intDiv,h0]
theorem y_lss (hx:opv L x=some (.int k i)) (hy:opv L y=some (.int k j)):Yv P n (.binOp .lss t x y yt) ty L w (.bool (decide (i < j))):=by
  intro a d pos after guard ha
  simp [execOp,ha.eval hx,ha.eval hy,run_eqGuard_int,binOp,Op.intCmp]
theorem y_leq (hx:opv L x=some (.int k i)) (hy:opv L y=some (.int k j)):Yv P n (.binOp .leq t x y yt) ty L w (.bool (decide (i≤j))):=by
  intro a d pos after guard ha
  simp [execOp,ha.eval hx,ha.eval hy,run_eqGuard_int,binOp,Op.intCmp]
theorem y_gtr (hx:opv L x=some (.int k i)) (hy:opv L y=some (.int k j)):Yv P n (.binOp .gtr t x y yt) ty L w (.bool (decide (j < i))):=by
  intro a d pos after guard ha
  simp [execOp,ha.eval hx,ha.eval hy,run_eqGuard_int,binOp,Op.intCmp]
theorem y_geq (hx:opv L x=some (.int k i)) (hy:opv L y=some (.int k j)):Yv P n (.binOp .geq t x y yt) ty L w (.bool (decide (j≤i))):=by
  intro a d pos after guard ha
  simp [execOp,ha.eval hx,ha.eval hy,run_eqGuard_int,binOp,Op.intCmp]
theorem y_eql (hx:opv L x=some (.int k i)) (hy:opv L y=some (.int k j)):Yv P n (.binOp .eql t x y yt) ty L w (.bool (decide (i=j))):=by
  intro a d pos after guard ha
  simp [execOp,ha.eval hx,ha.eval hy,run_eqGuard_int,binOp,Op.intCmp]
  exact Bool.eq_iff_iff.2 (by simp)
theorem y_neq (hx:opv L x=some (.int k i)) (hy:opv L y=some (.int k j)):Yv P n (.binOp .neq t x y yt) ty L w (.bool (decide (i≠j))):=by
  intro a d pos after guard ha
  simp [execOp,ha.eval hx,ha.eval hy,run_eqGuard_int,binOp,Op.intCmp]
  exact Bool.eq_iff_iff.2 (by simp)
theorem y_min {c:Array TypeId} (hx:opv L x=some (.int k i)) (hy:opv L y=some (.int k j)) :
    Yv P n (.call { callee:=.builtin .min,args:=#[x,y],argTypes:=c }) ty L w (.int k (min i j)):=by
  intro a d pos after guard ha
  have:(if j < i then j else i)=min i j:=by omega
  simp [execOp,resolve,invoke,builtin,ha.eval hx,ha.eval hy,Builtin.min_,Builtin.min2,this]
theorem y_max {c:Array TypeId} (hx:opv L x=some (.int k i)) (hy:opv L y=some (.int k j)) :
    Yv P n (.call { callee:=.builtin .max,args:=#[x,y],argTypes:=c }) ty L w (.int k (max i j)):=by
  intro a d pos after guard ha
  have:(if i < j then j else i)=max i j:=by omega
  simp [execOp,resolve,invoke,builtin,ha.eval hx,ha.eval hy,Builtin.max_,Builtin.max2,this]
end ints
def fieldOff (P:Program) (t:TypeId) (f:Nat):Option Nat:=
  match P.underlying t with
  | some (.struct fs)=>match fs[f]? with
    | some fl=>if ((P.info? fl.type).map (·.size)).getD 0=0 then none else some fl.offset
    | none=>none
  | _=>none
def elemOfT (P:Program) (t:TypeId):Option (Nat × Nat):=
  match P.underlying t with
  | some (.slice e)=>(P.info? e).map fun i=>(e,i.size)
  | _=>none
def arrOfT (P:Program) (t:TypeId):Option (Nat × Nat × Nat):=
  match P.underlying t with
  | some (.array len e)=>(P.info? e).map fun i=>(len,e,i.size)
  | _=>none
def shapeT (P:Program) (t:TypeId):Option (Option Nat):=
  match P.underlying t with
  | some (.struct _) | some (.array _ _)=>(P.info? t).map fun i=>some i.size
  | some _=>some none
  | none=>none
section pointers
variable {t yt ty : TypeId} {x y : Operand} {b f off : Nat}
theorem y_fieldAddr {o:Nat} (hf:fieldOff P t f=some off) (hx:opv L x=some (.pointer (some ⟨b,o,none⟩))) :
    Yv P n (.fieldAddr t x f) ty L w (.pointer (some ⟨b,o + off,none⟩)):=by
  intro a d pos after guard ha
  unfold fieldOff at hf
  split at hf
  · rename_i fs hu
    split at hf
    · rename_i fl hfl
      split at hf
      · cases hf
      · rename_i hne
        injection hf with hf; subst hf
        cases hi:P.info? fl.type with
        | none=>simp [hi] at hne
        | some info=>
          have hsz:¬ info.size=0:=by simpa [hi] using hne
          have hadd:Addr.add ⟨b,o,none⟩ fl.offset=⟨b,o + fl.offset,none⟩:=by
            unfold Addr.add; split
            · rename_i h0; simp [h0]
            · rfl
          simp [execOp,ha.eval hx,Instr.fieldAt,underlying,hu,hfl,Instr.sureAddr,fieldPlace,sizeOf,typeInfo,hi,hsz,hadd]
    · cases hf
  · cases hf
theorem y_nilCheck {p:Addr} (hx:opv L x=some (.pointer (some p))):Yv P n (.nilCheck x) ty L w (.pointer (some p)):=by
  intro a d pos after guard ha
  simp [execOp,ha.eval hx]
theorem add_none (b o k:Nat):Addr.add ⟨b,o,none⟩ k=⟨b,o + k,none⟩:=by
  unfold Addr.add; split
  · rename_i h0; simp [h0]
  · rfl
theorem y_indexAddr {e size o len cap i:Nat} {A:Option Addr} {k:IntKind} {j:Int} (ht:elemOfT P t=some (e,size)) (hx:opv L x=some (.slice A len cap)) (hA:A=some ⟨b,o,none⟩) (hy:opv L y=some (.int k j))
    (hj:j=(i:Int)) (hlt:i < len):Yv P n (.indexAddr t x y) ty L w (.pointer (some ⟨b,o + i * size,none⟩)):=by
  intro a d pos after guard ha
  subst hj; subst hA
  unfold elemOfT at ht
  split at ht
  · rename_i e' hu
    cases hi:P.info? e' with
    | none=>simp [hi] at ht
    | some info=>
      simp [hi] at ht
      obtain ⟨rfl,rfl⟩:=ht
      simp [execOp,ha.eval hx,ha.eval hy,Instr.indexAt,asIntOf,underlying,hu,sizeOf,typeInfo,hi,add_none]
      intro h2; omega
  · cases ht
def CellsAt (w:World) (b o:Nat) (cs:List Value):Prop:=∀ j u,cs[j]?=some u→w.cell? ⟨b,o + j,none⟩=some u
theorem run_loadCellsFrom (w:World) (b o:Nat):∀ (k i:Nat) (cs:List Value) (acc:Array Value),cs.length=k→CellsAt w b (o + i) cs →
    (loadCellsFrom ⟨b,o,none⟩ i k acc).run P w=.ok (acc ++ cs.toArray) w:=by
  intro k
  induction k with
  | zero=>
    intro i cs acc hl _
    have:cs=[]:=List.eq_nil_of_length_eq_zero hl
    subst this
    simp [loadCellsFrom]
  | succ k ih=>
    intro i cs acc hl hc
    cases cs with
    | nil=>simp at hl
    | cons c cs=>
      have h0:w.cell? ⟨b,o + i,none⟩=some c:=by simpa using hc 0 c (by simp)
      have h1:CellsAt w b (o + (i + 1)) cs:=by
        intro j u hj
        have:=hc (j + 1) u (by simpa using hj)
        have e:o + (i + 1) + j=o + i + (j + 1):=by omega
        rw [e]; exact this
      have:=ih (i + 1) cs (acc.push c) (by simpa using hl) h1
      simp only [loadCellsFrom,add_none,Sem.run_bind]
      rw [show (load (⟨b,o + i,none⟩:Addr)).run P w=.ok c w from by simp [h0]]
      simp only [Result.andThen_ok,this]
      simp
theorem y_load1 {o:Nat} {v:Value} (ht:shapeT P t=some none) (hx:opv L x=some (.pointer (some ⟨b,o,none⟩))) (hc:w.cell? ⟨b,o,none⟩=some v) :
    Yv P n (.load t x) ty L w v:=by
  intro a d pos after guard ha
  unfold shapeT at ht
  split at ht
  · rename_i fs hu; cases hi:P.info? t <;> simp [hi] at ht
  · rename_i fs hu; cases hi:P.info? t <;> simp [hi] at ht
  · rename_i u _ _ hu
    have hagg:(isAgg t).run P w=.ok false w:=by
      simp only [isAgg,underlying,Sem.run_bind,run_program,Result.andThen_ok,hu,Sem.run_pure]
    simp only [execOp,ha.eval hx,Instr.loadAt,Instr.sureAddr,loadVar,Sem.run_bind,Sem.run_pure,Result.andThen_ok,hagg,Bool.false_eq_true,↓reduceIte]
    simp [hc]
  · cases ht
theorem y_loadA {o:Nat} {cs:List Value} (ht:shapeT P t=some (some cs.length)) (hx:opv L x=some (.pointer (some ⟨b,o,none⟩))) (hc:CellsAt w b o cs) :
    Yv P n (.load t x) ty L w (.agg cs.toArray):=by
  intro a d pos after guard ha
  have key:(isAgg t).run P w=.ok true w∧(sizeOf t).run P w=.ok cs.length w:=by
    unfold shapeT at ht
    split at ht
    · rename_i fs hu
      cases hi:P.info? t with
      | none=>simp [hi] at ht
      | some info=>
        simp [hi] at ht
        exact ⟨by simp [isAgg,underlying,hu],by simp [sizeOf,typeInfo,hi,ht]⟩
    · rename_i fs hu
      cases hi:P.info? t with
      | none=>simp [hi] at ht
      | some info=>
        simp [hi] at ht
        exact ⟨by simp [isAgg,underlying,hu],by simp [sizeOf,typeInfo,hi,ht]⟩
    · cases ht
    · cases ht
  simp only [execOp,ha.eval hx,Instr.loadAt,Instr.sureAddr,loadVar,Sem.run_bind,Sem.run_pure,Result.andThen_ok,key.1,key.2,↓reduceIte,loadCells,
    run_loadCellsFrom w b o cs.length 0 cs #[] rfl (by simpa using hc),Sem.run_pure]
  simp
section
theorem run_eqPN {e:TypeId} (hu:P.underlying t=some (.pointer e)) (D:Nat) (w:World) (p:Addr):(Op.equalIn (D + 1) t (.pointer (some p)) (.pointer none)).run P w=.ok false w:=by
  simp [Op.equalIn,underlying,hu]
theorem run_eqNN {e:TypeId} (hu:P.underlying t=some (.pointer e)) (D:Nat) (w:World):(Op.equalIn (D + 1) t (.pointer none) (.pointer none)).run P w=.ok true w:=by
  simp [Op.equalIn,underlying,hu]
theorem run_neqB (w:World) {u v:Value} {r:Bool} (hq:(Op.equalIn (9999 + 1) t u v).run P w=.ok r w) (hv:∃ a b,u=.pointer a∧v=.pointer b) :
    (binOp .neq t u v).run P w=.ok (.bool (!r)) w∧(binOp .eql t u v).run P w=.ok (.bool r) w:=by
  obtain ⟨a,b,rfl,rfl⟩:=hv
  have h1:(Op.equal t (.pointer a) (.pointer b)).run P w=.ok r w:=hq
  constructor
  · simp [binOp,h1]
  · simp [binOp,h1]
end
theorem run_eqGuard_ptr (op:BinOp) (t:TypeId) (x y:Operand) (a b:Option Addr):(eqGuard op t x y (.pointer a) (.pointer b)).run P w=.ok () w:=by
  unfold eqGuard; cases op <;> rfl
theorem y_ptrEqNil {e:TypeId} {p:Addr} (hu:P.underlying t=some (.pointer e)) (hx:opv L x=some (.pointer (some p))) (hy:opv L y=some (.pointer none)) :
    Yv P n (.binOp .eql t x y yt) ty L w (.bool false):=by
  intro a d pos after guard ha
  have:=(run_neqB w (run_eqPN hu 9999 w p) ⟨_,_,rfl,rfl⟩).2
  simp [execOp,ha.eval hx,ha.eval hy,run_eqGuard_ptr,this]
theorem y_nilEqNil {e:TypeId} (hu:P.underlying t=some (.pointer e)) (hx:opv L x=some (.pointer none)) (hy:opv L y=some (.pointer none)) :
    Yv P n (.binOp .eql t x y yt) ty L w (.bool true):=by
  intro a d pos after guard ha
  have:=(run_neqB w (run_eqNN hu 9999 w) ⟨_,_,rfl,rfl⟩).2
  simp [execOp,ha.eval hx,ha.eval hy,run_eqGuard_ptr,this]
end pointers
section strings
variable {t yt ty : TypeId} {x y : Operand} {s u : ByteArray}
theorem toList_beq (s u:ByteArray):(s.toList == u.toList)=decide (s=u):=by
  rw [Bool.eq_iff_iff,ByteArray.toList_eq,ByteArray.toList_eq]
  simp only [beq_iff_eq,decide_eq_true_eq]
  constructor
  · intro h
    cases s; cases u
    simpa using h
  · rintro rfl; rfl
theorem run_eqGuard_str (op:BinOp) (t:TypeId) (x y:Operand) (s u:ByteArray):(eqGuard op t x y (.string s) (.string u)).run P w=.ok () w:=by
  unfold eqGuard; cases op <;> rfl
theorem y_strEq (hx:opv L x=some (.string s)) (hy:opv L y=some (.string u)):Yv P n (.binOp .eql t x y yt) ty L w (.bool (decide (s=u))):=by
  intro a d pos after guard ha
  simp [execOp,ha.eval hx,ha.eval hy,run_eqGuard_str,binOp,Op.stringOp,toList_beq]
end strings
section lens
variable {t ty : TypeId} {x : Operand} {c : Array TypeId}
theorem y_lenS {A:Option Addr} {len cap:Nat} (ht:(elemOfT P t).isSome=true) (hx:opv L x=some (.slice A len cap)) :
    Yv P n (.call { callee:=.builtin .len,args:=#[x],argTypes:=#[t] }) ty L w (.int .i64 len):=by
  intro a d pos after guard ha
  unfold elemOfT at ht
  split at ht
  · rename_i e hu
    simp [execOp,resolve,invoke,builtin,ha.eval hx,Builtin.len_,underlying,hu,goInt]
  · cases ht
theorem y_lenStr {s:ByteArray} (ht:P.underlying t=some .string) (hx:opv L x=some (.string s)) :
    Yv P n (.call { callee:=.builtin .len,args:=#[x],argTypes:=#[t] }) ty L w (.int .i64 s.size):=by
  intro a d pos after guard ha
  simp [execOp,resolve,invoke,builtin,ha.eval hx,Builtin.len_,underlying,ht,goInt]
end lens
end
end Go.Sx
