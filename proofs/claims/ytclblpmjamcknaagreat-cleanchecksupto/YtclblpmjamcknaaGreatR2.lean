import Derived.Test.YtclblpmjamcknaaGreatR1
import Derived.KernelRfl
set_option linter.unusedVariables false
set_option linter.unusedSimpArgs false
namespace Go.Proofs.YtclblpmjamcknaaGreat
open Go.Sx
section
variable {H : Type} {enc : TypeId × Value → H} {W : World}
theorem rd_33:Rd enc Tryz.prog W 33 (fun cs=>∃ y,bandTy.rel (old W) W y cs):=by
  intro fuel cs x h hb
  obtain ⟨hl,hf⟩:=rd_struct Tryz.underlying33 (show Tryz.prog.cellsOf 33=3 by kernel_rfl) fuel cs x h hb
  match cs,hl with
  | [c0,c1,c2],_=>
    have h0:=hf 0 _ 1 _ rfl (by kernel_rfl) (rd_int Tryz.underlying2)
    have h1:=hf 1 _ 1 _ rfl (by kernel_rfl) (rd_int Tryz.underlying3)
    have h2:=hf 2 _ 1 _ rfl (by kernel_rfl) (rd_int Tryz.underlying3)
    obtain ⟨n0,e0⟩:=h0
    obtain rfl:=(List.cons.inj e0).1
    obtain ⟨n1,e1⟩:=h1
    obtain rfl:=(List.cons.inj e1).1
    obtain ⟨n2,e2⟩:=h2
    obtain rfl:=(List.cons.inj e2).1
    exact ⟨⟨n0,n1,n2⟩,rfl⟩
theorem rd_36:Rd enc Tryz.prog W 36 (fun cs=>∃ y,kindTy.rel (old W) W y cs):=by
  intro fuel cs x h hb
  obtain ⟨hl,hf⟩:=rd_struct Tryz.underlying36 (show Tryz.prog.cellsOf 36=4 by kernel_rfl) fuel cs x h hb
  match cs,hl with
  | [c0,c1,c2,c3],_=>
    have h0:=hf 0 _ 1 _ rfl (by kernel_rfl) (rd_str Tryz.underlying9)
    have h1:=hf 1 _ 1 _ rfl (by kernel_rfl) (rd_int Tryz.underlying3)
    have h2:=hf 2 _ 1 _ rfl (by kernel_rfl) (rd_int Tryz.underlying3)
    have h3:=hf 3 _ 1 _ rfl (by kernel_rfl) (rd_int Tryz.underlying3)
    obtain ⟨n0,e0⟩:=h0
    obtain rfl:=(List.cons.inj e0).1
    obtain ⟨n1,e1⟩:=h1
    obtain rfl:=(List.cons.inj e1).1
    obtain ⟨n2,e2⟩:=h2
    obtain rfl:=(List.cons.inj e2).1
    obtain ⟨n3,e3⟩:=h3
    obtain rfl:=(List.cons.inj e3).1
    exact ⟨⟨n0,n1,n2,n3⟩,rfl⟩
theorem rd_40:Rd enc Tryz.prog W 40 (fun cs=>∃ y,elemTy.rel (old W) W y cs):=by
  intro fuel cs x h hb
  obtain ⟨hl,hf⟩:=rd_struct Tryz.underlying40 (show Tryz.prog.cellsOf 40=3 by kernel_rfl) fuel cs x h hb
  match cs,hl with
  | [c0,c1,c2],_=>
    have h0:=hf 0 _ 1 _ rfl (by kernel_rfl) (rd_str Tryz.underlying9)
    have h1:=hf 1 _ 1 _ rfl (by kernel_rfl) (rd_int Tryz.underlying2)
    have h2:=hf 2 _ 1 _ rfl (by kernel_rfl) (rd_int Tryz.underlying2)
    obtain ⟨n0,e0⟩:=h0
    obtain rfl:=(List.cons.inj e0).1
    obtain ⟨n1,e1⟩:=h1
    obtain rfl:=(List.cons.inj e1).1
    obtain ⟨n2,e2⟩:=h2
    obtain rfl:=(List.cons.inj e2).1
    exact ⟨⟨n0,n1,n2⟩,rfl⟩
theorem rd_28:Rd enc Tryz.prog W 28 (fun cs=>∃ y,codeTy.rel (old W) W y cs):=by
  intro fuel cs x h hb
  obtain ⟨hl,hf⟩:=rd_struct Tryz.underlying28 (show Tryz.prog.cellsOf 28=5 by kernel_rfl) fuel cs x h hb
  match cs,hl with
  | [c0,c1,c2,c3,c4],_=>
    have h0:=hf 0 _ 1 _ rfl (by kernel_rfl) (rd_int Tryz.underlying3)
    have h1:=hf 1 _ 1 _ rfl (by kernel_rfl) (rd_int Tryz.underlying3)
    have h2:=hf 2 _ 1 _ rfl (by kernel_rfl) (rd_int Tryz.underlying2)
    have h3:=hf 3 _ 1 _ rfl (by kernel_rfl) (rd_int Tryz.underlying3)
    have h4:=hf 4 _ 1 _ rfl (by kernel_rfl) (rd_bool Tryz.underlying4)
    obtain ⟨n0,e0⟩:=h0
    obtain rfl:=(List.cons.inj e0).1
    obtain ⟨n1,e1⟩:=h1
    obtain rfl:=(List.cons.inj e1).1
    obtain ⟨n2,e2⟩:=h2
    obtain rfl:=(List.cons.inj e2).1
    obtain ⟨n3,e3⟩:=h3
    obtain rfl:=(List.cons.inj e3).1
    obtain ⟨n4,e4⟩:=h4
    obtain rfl:=(List.cons.inj e4).1
    exact ⟨⟨n0,n1,n2,n3,n4⟩,rfl⟩
theorem rd_114:Rd enc Tryz.prog W 114 (fun cs=>∃ y,orderTy.rel (old W) W y cs):=by
  intro fuel cs x h hb
  obtain ⟨hl,hf⟩:=rd_struct Tryz.underlying114 (show Tryz.prog.cellsOf 114=5 by kernel_rfl) fuel cs x h hb
  match cs,hl with
  | [c0,c1,c2,c3,c4],_=>
    have h0:=hf 0 _ 1 _ rfl (by kernel_rfl) (rd_int Tryz.underlying3)
    have h1:=hf 1 _ 1 _ rfl (by kernel_rfl) (rd_int Tryz.underlying3)
    have h2:=hf 2 _ 1 _ rfl (by kernel_rfl) (rd_int Tryz.underlying2)
    have h3:=hf 3 _ 1 _ rfl (by kernel_rfl) (rd_int Tryz.underlying3)
    have h4:=hf 4 _ 1 _ rfl (by kernel_rfl) (rd_int Tryz.underlying2)
    obtain ⟨n0,e0⟩:=h0
    obtain rfl:=(List.cons.inj e0).1
    obtain ⟨n1,e1⟩:=h1
    obtain rfl:=(List.cons.inj e1).1
    obtain ⟨n2,e2⟩:=h2
    obtain rfl:=(List.cons.inj e2).1
    obtain ⟨n3,e3⟩:=h3
    obtain rfl:=(List.cons.inj e3).1
    obtain ⟨n4,e4⟩:=h4
    obtain rfl:=(List.cons.inj e4).1
    exact ⟨⟨n0,n1,n2,n3,n4⟩,rfl⟩
theorem rd_34:Rd enc Tryz.prog W 34 (fun cs=>∃ v xs,cs=[v]∧Sl bandTy (old W) W v xs):=rd_slice Tryz.underlying34 (show Tryz.prog.cellsOf 33=_ by kernel_rfl) (by decide) rd_33
theorem rd_34s:Rd enc Tryz.prog W 34 (fun cs=>∃ y,(Ty.slice bandTy).rel (old W) W y cs):=fun f cs x h hb=>by
  obtain ⟨v,xs,e,s⟩:=rd_34 f cs x h hb
  exact ⟨xs,v,e,s⟩
theorem rd_22:Rd enc Tryz.prog W 22 (fun cs=>∃ v xs,cs=[v]∧Sl (Ty.slice bandTy) (old W) W v xs):=rd_slice Tryz.underlying22 (show Tryz.prog.cellsOf 34=_ by kernel_rfl) (by decide) rd_34s
theorem rd_24:Rd enc Tryz.prog W 24 (fun cs=>∃ v xs,cs=[v]∧Sl kindTy (old W) W v xs):=rd_slice Tryz.underlying24 (show Tryz.prog.cellsOf 36=_ by kernel_rfl) (by decide) rd_36
theorem rd_43:Rd enc Tryz.prog W 43 (fun cs=>∃ v xs,cs=[v]∧Sl elemTy (old W) W v xs):=rd_slice Tryz.underlying43 (show Tryz.prog.cellsOf 40=_ by kernel_rfl) (by decide) rd_40
theorem rd_70:Rd enc Tryz.prog W 70 (fun cs=>∃ y,contribTy.rel (old W) W y cs):=by
  intro fuel cs x h hb
  obtain ⟨hl,hf⟩:=rd_struct Tryz.underlying70 (show Tryz.prog.cellsOf 70=6 by kernel_rfl) fuel cs x h hb
  match cs,hl with
  | [c0,c1,c2,c3,c4,c5],_=>
    have h0:=hf 0 _ 1 _ rfl (by kernel_rfl) (rd_str Tryz.underlying9)
    have h1:=hf 1 _ 1 _ rfl (by kernel_rfl) (rd_int Tryz.underlying3)
    have h2:=hf 2 _ 1 _ rfl (by kernel_rfl) rd_34
    have h3:=hf 3 _ 1 _ rfl (by kernel_rfl) (rd_int Tryz.underlying2)
    have h4:=hf 4 _ 1 _ rfl (by kernel_rfl) (rd_int Tryz.underlying2)
    have h5:=hf 5 _ 1 _ rfl (by kernel_rfl) (rd_int Tryz.underlying3)
    obtain ⟨n0,e0⟩:=h0
    obtain rfl:=(List.cons.inj e0).1
    obtain ⟨n1,e1⟩:=h1
    obtain rfl:=(List.cons.inj e1).1
    obtain ⟨v2,n2,e2,s2⟩:=h2
    obtain rfl:=(List.cons.inj e2).1
    obtain ⟨n3,e3⟩:=h3
    obtain rfl:=(List.cons.inj e3).1
    obtain ⟨n4,e4⟩:=h4
    obtain rfl:=(List.cons.inj e4).1
    obtain ⟨n5,e5⟩:=h5
    obtain rfl:=(List.cons.inj e5).1
    exact ⟨⟨n0,n1,n2,n3,n4,n5⟩,_,rfl,s2⟩
theorem rd_23:Rd enc Tryz.prog W 23 (fun cs=>∃ v xs,cs=[v]∧Sl contribTy (old W) W v xs):=rd_slice Tryz.underlying23 (show Tryz.prog.cellsOf 70=_ by kernel_rfl) (by decide) rd_70
theorem rd_26:Rd enc Tryz.prog W 26 (fun cs=>∃ y,tableTy.rel (old W) W y cs):=by
  intro fuel cs x h hb
  obtain ⟨hl,hf⟩:=rd_struct Tryz.underlying26 (show Tryz.prog.cellsOf 26=5 by kernel_rfl) fuel cs x h hb
  match cs,hl with
  | [c0,c1,c2,c3,c4],_=>
    have h0:=hf 0 _ 1 _ rfl (by kernel_rfl) rd_22
    have h1:=hf 1 _ 1 _ rfl (by kernel_rfl) rd_23
    have h2:=hf 2 _ 1 _ rfl (by kernel_rfl) rd_24
    have h3:=hf 3 _ 1 _ rfl (by kernel_rfl) (rd_int Tryz.underlying3)
    have h4:=hf 4 _ 1 _ rfl (by kernel_rfl) (rd_int Tryz.underlying3)
    obtain ⟨v0,n0,e0,s0⟩:=h0
    obtain rfl:=(List.cons.inj e0).1
    obtain ⟨v1,n1,e1,s1⟩:=h1
    obtain rfl:=(List.cons.inj e1).1
    obtain ⟨v2,n2,e2,s2⟩:=h2
    obtain rfl:=(List.cons.inj e2).1
    obtain ⟨n3,e3⟩:=h3
    obtain rfl:=(List.cons.inj e3).1
    obtain ⟨n4,e4⟩:=h4
    obtain rfl:=(List.cons.inj e4).1
    exact ⟨⟨n0,n1,n2,n3,n4⟩,_,_,_,rfl,s0,s1,s2⟩
theorem rd_116:Rd enc Tryz.prog W 116 (fun cs=>∃ y,opnTy.rel (old W) W y cs):=by
  intro fuel cs x h hb
  obtain ⟨hl,hf⟩:=rd_struct Tryz.underlying116 (show Tryz.prog.cellsOf 116=13 by kernel_rfl) fuel cs x h hb
  match cs,hl with
  | [c0,c1,c2,c3,c4,c5,c6,c7,c8,c9,c10,c11,c12],_=>
    have h0:=hf 0 _ 1 _ rfl (by kernel_rfl) (rd_int Tryz.underlying3)
    have h1:=hf 1 _ 1 _ rfl (by kernel_rfl) rd_43
    have h2:=hf 2 _ 5 _ rfl (by kernel_rfl) rd_28
    have h3:=hf 3 _ 5 _ rfl (by kernel_rfl) rd_114
    have h4:=hf 4 _ 1 _ rfl (by kernel_rfl) (rd_int Tryz.underlying2)
    obtain ⟨n0,e0⟩:=h0
    obtain rfl:=(List.cons.inj e0).1
    obtain ⟨v1,n1,e1,s1⟩:=h1
    obtain rfl:=(List.cons.inj e1).1
    obtain ⟨n2,e2⟩:=h2
    have e2:[c2,c3,c4,c5,c6]=_:=e2
    obtain ⟨rfl,g2_1⟩:=List.cons.inj e2
    obtain ⟨rfl,g2_2⟩:=List.cons.inj g2_1
    obtain ⟨rfl,g2_3⟩:=List.cons.inj g2_2
    obtain ⟨rfl,g2_4⟩:=List.cons.inj g2_3
    obtain ⟨rfl,g2_5⟩:=List.cons.inj g2_4
    obtain ⟨n3,e3⟩:=h3
    have e3:[c7,c8,c9,c10,c11]=_:=e3
    obtain ⟨rfl,g3_1⟩:=List.cons.inj e3
    obtain ⟨rfl,g3_2⟩:=List.cons.inj g3_1
    obtain ⟨rfl,g3_3⟩:=List.cons.inj g3_2
    obtain ⟨rfl,g3_4⟩:=List.cons.inj g3_3
    obtain ⟨rfl,g3_5⟩:=List.cons.inj g3_4
    obtain ⟨n4,e4⟩:=h4
    obtain rfl:=(List.cons.inj e4).1
    exact ⟨⟨n0,n1,n2,n3,n4⟩,_,rfl,s1⟩
theorem rd_72:Rd enc Tryz.prog W 72 (fun cs=>∃ v xs,cs=[v]∧Sl opnTy (old W) W v xs):=rd_slice Tryz.underlying72 (show Tryz.prog.cellsOf 116=_ by kernel_rfl) (by decide) rd_116
end
end Go.Proofs.YtclblpmjamcknaaGreat
