import Derived.Test.YtclblpmjamcknaaGreatCore10
namespace Go.Sx
open Go.RowKit
section
variable {P : Program} {n : Nat} {Q : Exit → Act → World → Prop} {L : Env} {w : World} {ops : Array Oper} {rest : List Oper} {o : Oper}
variable {M : List Nat} {d0 d : Dat} {we : World} {rs rs' : List Res} {r : Res}
section
variable {dst : Option Nat} {ty : TypeId} {pos : String} {after : Array Edge} {guard : Option (Nat × Bool)}
theorem gmv {x:Operand} {v:Value} (hx:opv L x=some v) (hg:grd L ops guard=some true) (hd:okD n dst=true) (h:G P n ops Q rest (putL L dst v) w) :
    G P n ops Q ({ dst:=dst,op:=.move x,type:=ty,pos:=pos,after:=after,guard:=guard } :: rest) L w:=g_y (y_move hx) hg hd h
theorem gas {x:Operand} {v:Value} (hx:opv L x=some v) (hg:grd L ops guard=some true) (hd:okD n dst=true) (h:G P n ops Q rest (putL L dst v) w) :
    G P n ops Q ({ dst:=dst,op:=.assign x,type:=ty,pos:=pos,after:=after,guard:=guard } :: rest) L w:=g_y (y_assign hx) hg hd h
theorem GM {x : Operand} {v : Value} (h3 : opv L x = some v ∧ grd L ops guard = some true ∧ okD n dst = true) (h : G P n ops Q rest (putL L dst v) w) :
    G P n ops Q ({ dst := dst, op := .move x, type := ty, pos := pos, after := after, guard := guard } :: rest) L w := gmv h3.1 h3.2.1 h3.2.2 h
theorem GA {x : Operand} {v : Value} (h3 : opv L x = some v ∧ grd L ops guard = some true ∧ okD n dst = true) (h : G P n ops Q rest (putL L dst v) w) :
    G P n ops Q ({ dst := dst, op := .assign x, type := ty, pos := pos, after := after, guard := guard } :: rest) L w := gas h3.1 h3.2.1 h3.2.2 h
theorem gsk {op:Op} (hg:grd L ops guard=some false) (hd:okD n dst=true) (h:G P n ops Q rest (putL L dst undef) w) :
    G P n ops Q ({ dst:=dst,op:=op,type:=ty,pos:=pos,after:=after,guard:=guard } :: rest) L w:=g_skip hg hd h
theorem gfa {t f off b o:Nat} {x:Operand} (hf:fieldOff P t f=some off) (hx:opv L x=some (.pointer (some ⟨b,o,none⟩))) (hg:grd L ops guard=some true) (hd:okD n dst=true)
    (h:G P n ops Q rest (putL L dst (.pointer (some ⟨b,o + off,none⟩))) w) :
    G P n ops Q ({ dst:=dst,op:=.fieldAddr t x f,type:=ty,pos:=pos,after:=after,guard:=guard } :: rest) L w:=g_y (y_fieldAddr hf hx) hg hd h
theorem gld {t b T i:Nat} {x:Operand} {cs:List Value} {v:Value} (ht:shapeT P t=some none) (hx:opv L x=some (.pointer (some ⟨b,0 + i,none⟩))) (hI:Inv M d0 we d rs w) (hm:blk b T cs ∈ rs) (hv:nth cs i=some v)
    (hg:grd L ops guard=some true) (hd:okD n dst=true) (h:G P n ops Q rest (putL L dst v) w) :
    G P n ops Q ({ dst:=dst,op:=.load t x,type:=ty,pos:=pos,after:=after,guard:=guard } :: rest) L w:=g_y (y_load1 ht hx ((blk_cells hI hm).nth_ hv)) hg hd h
theorem gln {t e size len cap:Nat} {x:Operand} {A:Option Addr} (ht:elemOfT P t=some (e,size)) (hx:opv L x=some (.slice A len cap)) (hg:grd L ops guard=some true) (hd:okD n dst=true)
    (h:G P n ops Q rest (putL L dst (.int .i64 len)) w) :
    G P n ops Q ({ dst:=dst,op:=.call { callee:=.builtin .len,args:=#[x],argTypes:=#[t] },type:=ty,pos:=pos,after:=after,guard:=guard } :: rest) L w:=g_y (y_lenS (by rw [ht]; rfl) hx) hg hd h
end
theorem gnx {y:Code} (h:C P n Q y L w):G P n ops (Exit.then (fun a w=>y.wp P Q a w) Q) [] L w:=g_nil (x_next h)
theorem csr {id:Nat} {l:List Oper} {y:Code} (h:G P n l.toArray (Exit.then (fun a w=>y.wp P Q a w) Q) l L w):C P n Q (.seq (.region id l.toArray false) y) L w:=c_seq (c_region h)
theorem m0 {α:Type} {a:α} {l:List α}:a ∈ a :: l:=.head _
theorem m1 {α:Type} {a b:α} {l:List α}:a ∈ b :: a :: l:=.tail _ m0
theorem m2 {α:Type} {a b c:α} {l:List α}:a ∈ b :: c :: a :: l:=.tail _ m1
theorem m3 {α:Type} {a b c d:α} {l:List α}:a ∈ b :: c :: d :: a :: l:=.tail _ m2
theorem m4 {α:Type} {a b c d e:α} {l:List α}:a ∈ b :: c :: d :: e :: a :: l:=.tail _ m3
theorem m5 {α:Type} {a b c d e f:α} {l:List α}:a ∈ b :: c :: d :: e :: f :: a :: l:=.tail _ m4
theorem ble {a b:Nat} (h:Nat.ble a b=true):a≤b:=Nat.le_of_ble_eq_true h
end
end Go.Sx
