import Derived.Test.YtclblpmjamcknaaGreatProg
import Derived.Test.YtclblpmjamcknaaGreatCore10
import Derived.KernelRfl
set_option maxRecDepth 8000
set_option maxHeartbeats 1000000
namespace Go.Proofs.YtclblpmjamcknaaGreat
open Go.Sx
theorem sz_2:(Tryz.prog.info? 2).map (·.size)=some 1:=by kernel_rfl
theorem ze_2:zeroT Tryz.prog 2=some [.int .i64 0]:=by kernel_rfl
theorem sh_2:shapeT Tryz.prog 2=some none:=by kernel_rfl
theorem sz_3:(Tryz.prog.info? 3).map (·.size)=some 1:=by kernel_rfl
theorem ze_3:zeroT Tryz.prog 3=some [.int .i64 0]:=by kernel_rfl
theorem sh_3:shapeT Tryz.prog 3=some none:=by kernel_rfl
theorem sh_4:shapeT Tryz.prog 4=some none:=by kernel_rfl
theorem sh_9:shapeT Tryz.prog 9=some none:=by kernel_rfl
theorem sz_22:(Tryz.prog.info? 22).map (·.size)=some 1:=by kernel_rfl
theorem sh_22:shapeT Tryz.prog 22=some none:=by kernel_rfl
theorem el_22:elemOfT Tryz.prog 22=some (34,1):=by kernel_rfl
theorem ei_22:elemInfo Tryz.prog 22=some (34,1,24):=by kernel_rfl
theorem sz_23:(Tryz.prog.info? 23).map (·.size)=some 1:=by kernel_rfl
theorem sh_23:shapeT Tryz.prog 23=some none:=by kernel_rfl
theorem el_23:elemOfT Tryz.prog 23=some (70,6):=by kernel_rfl
theorem ei_23:elemInfo Tryz.prog 23=some (70,6,72):=by kernel_rfl
theorem sz_24:(Tryz.prog.info? 24).map (·.size)=some 1:=by kernel_rfl
theorem sh_24:shapeT Tryz.prog 24=some none:=by kernel_rfl
theorem el_24:elemOfT Tryz.prog 24=some (36,4):=by kernel_rfl
theorem ei_24:elemInfo Tryz.prog 24=some (36,4,40):=by kernel_rfl
theorem sz_26:(Tryz.prog.info? 26).map (·.size)=some 5:=by kernel_rfl
theorem ze_26:zeroT Tryz.prog 26=some [.slice none 0 0,.slice none 0 0,.slice none 0 0,.int .i64 0,.int .i64 0]:=by kernel_rfl
theorem sh_26:shapeT Tryz.prog 26=some (some 5):=by kernel_rfl
theorem pl_26:placesT Tryz.prog 26=some [(0,1),(1,1),(2,1),(3,1),(4,1)]:=by kernel_rfl
theorem fo_26_0:fieldOff Tryz.prog 26 0=some 0:=by kernel_rfl
theorem fo_26_1:fieldOff Tryz.prog 26 1=some 1:=by kernel_rfl
theorem fo_26_2:fieldOff Tryz.prog 26 2=some 2:=by kernel_rfl
theorem fo_26_3:fieldOff Tryz.prog 26 3=some 3:=by kernel_rfl
theorem fo_26_4:fieldOff Tryz.prog 26 4=some 4:=by kernel_rfl
theorem sz_28:(Tryz.prog.info? 28).map (·.size)=some 5:=by kernel_rfl
theorem ze_28:zeroT Tryz.prog 28=some [.int .i64 0,.int .i64 0,.int .i64 0,.int .i64 0,.bool false]:=by kernel_rfl
theorem sh_28:shapeT Tryz.prog 28=some (some 5):=by kernel_rfl
theorem pl_28:placesT Tryz.prog 28=some [(0,1),(1,1),(2,1),(3,1),(4,1)]:=by kernel_rfl
theorem fo_28_0:fieldOff Tryz.prog 28 0=some 0:=by kernel_rfl
theorem fo_28_1:fieldOff Tryz.prog 28 1=some 1:=by kernel_rfl
theorem fo_28_2:fieldOff Tryz.prog 28 2=some 2:=by kernel_rfl
theorem fo_28_3:fieldOff Tryz.prog 28 3=some 3:=by kernel_rfl
theorem fo_28_4:fieldOff Tryz.prog 28 4=some 4:=by kernel_rfl
theorem el_29:elemOfT Tryz.prog 29=some (43,1):=by kernel_rfl
theorem sh_30:shapeT Tryz.prog 30=some none:=by kernel_rfl
theorem sz_33:(Tryz.prog.info? 33).map (·.size)=some 3:=by kernel_rfl
theorem ze_33:zeroT Tryz.prog 33=some [.int .i64 0,.int .i64 0,.int .i64 0]:=by kernel_rfl
theorem sh_33:shapeT Tryz.prog 33=some (some 3):=by kernel_rfl
theorem pl_33:placesT Tryz.prog 33=some [(0,1),(1,1),(2,1)]:=by kernel_rfl
theorem fo_33_0:fieldOff Tryz.prog 33 0=some 0:=by kernel_rfl
theorem fo_33_1:fieldOff Tryz.prog 33 1=some 1:=by kernel_rfl
theorem fo_33_2:fieldOff Tryz.prog 33 2=some 2:=by kernel_rfl
theorem sz_34:(Tryz.prog.info? 34).map (·.size)=some 1:=by kernel_rfl
theorem ze_34:zeroT Tryz.prog 34=some [.slice none 0 0]:=by kernel_rfl
theorem sh_34:shapeT Tryz.prog 34=some none:=by kernel_rfl
theorem el_34:elemOfT Tryz.prog 34=some (33,3):=by kernel_rfl
theorem ei_34:elemInfo Tryz.prog 34=some (33,3,24):=by kernel_rfl
theorem sz_36:(Tryz.prog.info? 36).map (·.size)=some 4:=by kernel_rfl
theorem ze_36:zeroT Tryz.prog 36=some [.string ⟨#[]⟩,.int .i64 0,.int .i64 0,.int .i64 0]:=by kernel_rfl
theorem sh_36:shapeT Tryz.prog 36=some (some 4):=by kernel_rfl
theorem pl_36:placesT Tryz.prog 36=some [(0,1),(1,1),(2,1),(3,1)]:=by kernel_rfl
theorem fo_36_0:fieldOff Tryz.prog 36 0=some 0:=by kernel_rfl
theorem fo_36_1:fieldOff Tryz.prog 36 1=some 1:=by kernel_rfl
theorem fo_36_2:fieldOff Tryz.prog 36 2=some 2:=by kernel_rfl
theorem fo_36_3:fieldOff Tryz.prog 36 3=some 3:=by kernel_rfl
theorem sz_40:(Tryz.prog.info? 40).map (·.size)=some 3:=by kernel_rfl
theorem ze_40:zeroT Tryz.prog 40=some [.string ⟨#[]⟩,.int .i64 0,.int .i64 0]:=by kernel_rfl
theorem sh_40:shapeT Tryz.prog 40=some (some 3):=by kernel_rfl
theorem pl_40:placesT Tryz.prog 40=some [(0,1),(1,1),(2,1)]:=by kernel_rfl
theorem fo_40_0:fieldOff Tryz.prog 40 0=some 0:=by kernel_rfl
theorem fo_40_1:fieldOff Tryz.prog 40 1=some 1:=by kernel_rfl
theorem fo_40_2:fieldOff Tryz.prog 40 2=some 2:=by kernel_rfl
theorem sz_43:(Tryz.prog.info? 43).map (·.size)=some 1:=by kernel_rfl
theorem ze_43:zeroT Tryz.prog 43=some [.slice none 0 0]:=by kernel_rfl
theorem sh_43:shapeT Tryz.prog 43=some none:=by kernel_rfl
theorem el_43:elemOfT Tryz.prog 43=some (40,3):=by kernel_rfl
theorem ei_43:elemInfo Tryz.prog 43=some (40,3,32):=by kernel_rfl
theorem sh_44:shapeT Tryz.prog 44=some none:=by kernel_rfl
theorem sz_47:(Tryz.prog.info? 47).map (·.size)=some 3:=by kernel_rfl
theorem ze_47:zeroT Tryz.prog 47=some [.int .i64 0,.int .i64 0,.int .i64 0]:=by kernel_rfl
theorem sh_47:shapeT Tryz.prog 47=some (some 3):=by kernel_rfl
theorem pl_47:placesT Tryz.prog 47=some [(0,1),(1,1),(2,1)]:=by kernel_rfl
theorem fo_47_0:fieldOff Tryz.prog 47 0=some 0:=by kernel_rfl
theorem fo_47_1:fieldOff Tryz.prog 47 1=some 1:=by kernel_rfl
theorem fo_47_2:fieldOff Tryz.prog 47 2=some 2:=by kernel_rfl
theorem sz_48:(Tryz.prog.info? 48).map (·.size)=some 1:=by kernel_rfl
theorem sh_48:shapeT Tryz.prog 48=some none:=by kernel_rfl
theorem el_48:elemOfT Tryz.prog 48=some (68,2):=by kernel_rfl
theorem ei_48:elemInfo Tryz.prog 48=some (68,2,16):=by kernel_rfl
theorem sz_49:(Tryz.prog.info? 49).map (·.size)=some 1:=by kernel_rfl
theorem sh_49:shapeT Tryz.prog 49=some none:=by kernel_rfl
theorem el_49:elemOfT Tryz.prog 49=some (236,6):=by kernel_rfl
theorem ei_49:elemInfo Tryz.prog 49=some (236,6,48):=by kernel_rfl
theorem sz_51:(Tryz.prog.info? 51).map (·.size)=some 10:=by kernel_rfl
theorem ze_51:zeroT Tryz.prog 51=some [.int .i64 0,.int .i64 0,.int .i64 0,.int .i64 0,.int .i64 0,.int .i64 0,.slice none 0 0,.int .i64 0,.slice none 0 0,.int .i64 0]:=by kernel_rfl
theorem sh_51:shapeT Tryz.prog 51=some (some 10):=by kernel_rfl
theorem pl_51:placesT Tryz.prog 51=some [(0,1),(1,3),(4,1),(5,1),(6,1),(7,1),(8,1),(9,1)]:=by kernel_rfl
theorem fo_51_0:fieldOff Tryz.prog 51 0=some 0:=by kernel_rfl
theorem fo_51_1:fieldOff Tryz.prog 51 1=some 1:=by kernel_rfl
theorem fo_51_2:fieldOff Tryz.prog 51 2=some 4:=by kernel_rfl
theorem fo_51_3:fieldOff Tryz.prog 51 3=some 5:=by kernel_rfl
theorem fo_51_4:fieldOff Tryz.prog 51 4=some 6:=by kernel_rfl
theorem fo_51_5:fieldOff Tryz.prog 51 5=some 7:=by kernel_rfl
theorem fo_51_6:fieldOff Tryz.prog 51 6=some 8:=by kernel_rfl
theorem fo_51_7:fieldOff Tryz.prog 51 7=some 9:=by kernel_rfl
theorem sh_58:shapeT Tryz.prog 58=some none:=by kernel_rfl
theorem sz_62:(Tryz.prog.info? 62).map (·.size)=some 1:=by kernel_rfl
theorem ze_62:zeroT Tryz.prog 62=some [.slice none 0 0]:=by kernel_rfl
theorem sh_62:shapeT Tryz.prog 62=some none:=by kernel_rfl
theorem el_62:elemOfT Tryz.prog 62=some (68,2):=by kernel_rfl
theorem ei_62:elemInfo Tryz.prog 62=some (68,2,16):=by kernel_rfl
theorem sz_64:(Tryz.prog.info? 64).map (·.size)=some 9:=by kernel_rfl
theorem ze_64:zeroT Tryz.prog 64=some [.int .i64 0,.int .i64 0,.int .i64 0,.int .i64 0,.int .i64 0,.slice none 0 0,.int .i64 0,.int .i64 0,.int .i64 0]:=by kernel_rfl
theorem sh_64:shapeT Tryz.prog 64=some (some 9):=by kernel_rfl
theorem pl_64:placesT Tryz.prog 64=some [(0,3),(3,1),(4,1),(5,1),(6,1),(7,1),(8,1)]:=by kernel_rfl
theorem fo_64_0:fieldOff Tryz.prog 64 0=some 0:=by kernel_rfl
theorem fo_64_1:fieldOff Tryz.prog 64 1=some 3:=by kernel_rfl
theorem fo_64_2:fieldOff Tryz.prog 64 2=some 4:=by kernel_rfl
theorem fo_64_3:fieldOff Tryz.prog 64 3=some 5:=by kernel_rfl
theorem fo_64_4:fieldOff Tryz.prog 64 4=some 6:=by kernel_rfl
theorem fo_64_5:fieldOff Tryz.prog 64 5=some 7:=by kernel_rfl
theorem fo_64_6:fieldOff Tryz.prog 64 6=some 8:=by kernel_rfl
theorem sz_68:(Tryz.prog.info? 68).map (·.size)=some 2:=by kernel_rfl
theorem ze_68:zeroT Tryz.prog 68=some [.int .i64 0,.int .i64 0]:=by kernel_rfl
theorem sh_68:shapeT Tryz.prog 68=some (some 2):=by kernel_rfl
theorem pl_68:placesT Tryz.prog 68=some [(0,1),(1,1)]:=by kernel_rfl
theorem fo_68_0:fieldOff Tryz.prog 68 0=some 0:=by kernel_rfl
theorem fo_68_1:fieldOff Tryz.prog 68 1=some 1:=by kernel_rfl
theorem sz_70:(Tryz.prog.info? 70).map (·.size)=some 6:=by kernel_rfl
theorem ze_70:zeroT Tryz.prog 70=some [.string ⟨#[]⟩,.int .i64 0,.slice none 0 0,.int .i64 0,.int .i64 0,.int .i64 0]:=by kernel_rfl
theorem sh_70:shapeT Tryz.prog 70=some (some 6):=by kernel_rfl
theorem fo_70_0:fieldOff Tryz.prog 70 0=some 0:=by kernel_rfl
theorem fo_70_1:fieldOff Tryz.prog 70 1=some 1:=by kernel_rfl
theorem fo_70_2:fieldOff Tryz.prog 70 2=some 2:=by kernel_rfl
theorem fo_70_3:fieldOff Tryz.prog 70 3=some 3:=by kernel_rfl
theorem fo_70_4:fieldOff Tryz.prog 70 4=some 4:=by kernel_rfl
theorem fo_70_5:fieldOff Tryz.prog 70 5=some 5:=by kernel_rfl
theorem el_72:elemOfT Tryz.prog 72=some (116,13):=by kernel_rfl
theorem sz_78:(Tryz.prog.info? 78).map (·.size)=some 1:=by kernel_rfl
theorem sh_78:shapeT Tryz.prog 78=some none:=by kernel_rfl
theorem el_78:elemOfT Tryz.prog 78=some (156,3):=by kernel_rfl
theorem ei_78:elemInfo Tryz.prog 78=some (156,3,40):=by kernel_rfl
theorem sz_79:(Tryz.prog.info? 79).map (·.size)=some 1:=by kernel_rfl
theorem sh_79:shapeT Tryz.prog 79=some none:=by kernel_rfl
theorem el_79:elemOfT Tryz.prog 79=some (112,6):=by kernel_rfl
theorem ei_79:elemInfo Tryz.prog 79=some (112,6,64):=by kernel_rfl
theorem ze_81:zeroT Tryz.prog 81=some [.pointer none,.slice none 0 0,.slice none 0 0]:=by kernel_rfl
theorem pl_81:placesT Tryz.prog 81=some [(0,1),(1,1),(2,1)]:=by kernel_rfl
theorem fo_81_0:fieldOff Tryz.prog 81 0=some 0:=by kernel_rfl
theorem fo_81_1:fieldOff Tryz.prog 81 1=some 1:=by kernel_rfl
theorem fo_81_2:fieldOff Tryz.prog 81 2=some 2:=by kernel_rfl
theorem sz_84:(Tryz.prog.info? 84).map (·.size)=some 5:=by kernel_rfl
theorem ze_84:zeroT Tryz.prog 84=some [.int .i64 0,.int .i64 0,.int .i64 0,.int .i64 0,.slice none 0 0]:=by kernel_rfl
theorem sh_84:shapeT Tryz.prog 84=some (some 5):=by kernel_rfl
theorem pl_84:placesT Tryz.prog 84=some [(0,3),(3,1),(4,1)]:=by kernel_rfl
theorem fo_84_0:fieldOff Tryz.prog 84 0=some 0:=by kernel_rfl
theorem fo_84_1:fieldOff Tryz.prog 84 1=some 3:=by kernel_rfl
theorem fo_84_2:fieldOff Tryz.prog 84 2=some 4:=by kernel_rfl
theorem sh_93:shapeT Tryz.prog 93=some none:=by kernel_rfl
theorem sz_95:(Tryz.prog.info? 95).map (·.size)=some 1:=by kernel_rfl
theorem sh_95:shapeT Tryz.prog 95=some none:=by kernel_rfl
theorem el_95:elemOfT Tryz.prog 95=some (47,3):=by kernel_rfl
theorem ei_95:elemInfo Tryz.prog 95=some (47,3,24):=by kernel_rfl
theorem sz_97:(Tryz.prog.info? 97).map (·.size)=some 6:=by kernel_rfl
theorem ze_97:zeroT Tryz.prog 97=some [.slice none 0 0,.int .i64 0,.int .i64 0,.int .i64 0,.int .i64 0,.slice none 0 0]:=by kernel_rfl
theorem sh_97:shapeT Tryz.prog 97=some (some 6):=by kernel_rfl
theorem pl_97:placesT Tryz.prog 97=some [(0,1),(1,3),(4,1),(5,1)]:=by kernel_rfl
theorem fo_97_0:fieldOff Tryz.prog 97 0=some 0:=by kernel_rfl
theorem fo_97_1:fieldOff Tryz.prog 97 1=some 1:=by kernel_rfl
theorem fo_97_2:fieldOff Tryz.prog 97 2=some 4:=by kernel_rfl
theorem fo_97_3:fieldOff Tryz.prog 97 3=some 5:=by kernel_rfl
theorem sz_102:(Tryz.prog.info? 102).map (·.size)=some 1:=by kernel_rfl
theorem sh_102:shapeT Tryz.prog 102=some none:=by kernel_rfl
theorem el_102:elemOfT Tryz.prog 102=some (51,10):=by kernel_rfl
theorem ei_102:elemInfo Tryz.prog 102=some (51,10,112):=by kernel_rfl
theorem sz_112:(Tryz.prog.info? 112).map (·.size)=some 6:=by kernel_rfl
theorem ze_112:zeroT Tryz.prog 112=some [.int .i64 0,.int .i64 0,.int .i64 0,.int .i64 0,.bool false,.slice none 0 0]:=by kernel_rfl
theorem sh_112:shapeT Tryz.prog 112=some (some 6):=by kernel_rfl
theorem pl_112:placesT Tryz.prog 112=some [(0,5),(5,1)]:=by kernel_rfl
theorem fo_112_0:fieldOff Tryz.prog 112 0=some 0:=by kernel_rfl
theorem fo_112_1:fieldOff Tryz.prog 112 1=some 5:=by kernel_rfl
theorem fo_114_0:fieldOff Tryz.prog 114 0=some 0:=by kernel_rfl
theorem fo_114_2:fieldOff Tryz.prog 114 2=some 2:=by kernel_rfl
theorem fo_114_3:fieldOff Tryz.prog 114 3=some 3:=by kernel_rfl
theorem fo_114_4:fieldOff Tryz.prog 114 4=some 4:=by kernel_rfl
theorem sz_116:(Tryz.prog.info? 116).map (·.size)=some 13:=by kernel_rfl
theorem ze_116:zeroT Tryz.prog 116=some [.int .i64 0,.slice none 0 0,.int .i64 0,.int .i64 0,.int .i64 0,.int .i64 0,.bool false,.int .i64 0,.int .i64 0,.int .i64 0,.int .i64 0,.int .i64 0,.int .i64 0]:=by kernel_rfl
theorem sh_116:shapeT Tryz.prog 116=some (some 13):=by kernel_rfl
theorem fo_116_0:fieldOff Tryz.prog 116 0=some 0:=by kernel_rfl
theorem fo_116_1:fieldOff Tryz.prog 116 1=some 1:=by kernel_rfl
theorem fo_116_2:fieldOff Tryz.prog 116 2=some 2:=by kernel_rfl
theorem fo_116_4:fieldOff Tryz.prog 116 4=some 12:=by kernel_rfl
theorem sz_156:(Tryz.prog.info? 156).map (·.size)=some 3:=by kernel_rfl
theorem ze_156:zeroT Tryz.prog 156=some [.int .i64 0,.slice none 0 0,.int .i64 0]:=by kernel_rfl
theorem sh_156:shapeT Tryz.prog 156=some (some 3):=by kernel_rfl
theorem pl_156:placesT Tryz.prog 156=some [(0,1),(1,1),(2,1)]:=by kernel_rfl
theorem fo_156_0:fieldOff Tryz.prog 156 0=some 0:=by kernel_rfl
theorem fo_156_1:fieldOff Tryz.prog 156 1=some 1:=by kernel_rfl
theorem fo_156_2:fieldOff Tryz.prog 156 2=some 2:=by kernel_rfl
theorem sz_163:(Tryz.prog.info? 163).map (·.size)=some 1:=by kernel_rfl
theorem sh_163:shapeT Tryz.prog 163=some none:=by kernel_rfl
theorem el_163:elemOfT Tryz.prog 163=some (3,1):=by kernel_rfl
theorem ei_163:elemInfo Tryz.prog 163=some (3,1,8):=by kernel_rfl
theorem el_174:elemOfT Tryz.prog 174=some (2,1):=by kernel_rfl
theorem ei_174:elemInfo Tryz.prog 174=some (2,1,8):=by kernel_rfl
theorem sz_203:(Tryz.prog.info? 203).map (·.size)=some 4:=by kernel_rfl
theorem ze_203:zeroT Tryz.prog 203=some [.int .i64 0,.int .i64 0,.slice none 0 0,.int .i64 0]:=by kernel_rfl
theorem sh_203:shapeT Tryz.prog 203=some (some 4):=by kernel_rfl
theorem pl_203:placesT Tryz.prog 203=some [(0,1),(1,1),(2,1),(3,1)]:=by kernel_rfl
theorem fo_203_2:fieldOff Tryz.prog 203 2=some 2:=by kernel_rfl
theorem fo_203_3:fieldOff Tryz.prog 203 3=some 3:=by kernel_rfl
theorem sz_212:(Tryz.prog.info? 212).map (·.size)=some 1:=by kernel_rfl
theorem sh_212:shapeT Tryz.prog 212=some none:=by kernel_rfl
theorem ze_214:zeroT Tryz.prog 214=some [.slice none 0 0,.slice none 0 0,.slice none 0 0,.int .i64 0,.int .i64 0,.pointer none,.int .i64 0,.int .i64 0,.int .i64 0,.int .i64 0,.bool false,.int .i64 0,.slice none 0 0,.slice none 0 0,.pointer none,.pointer none]:=by kernel_rfl
theorem pl_214:placesT Tryz.prog 214=some [(0,5),(5,1),(6,5),(11,1),(12,1),(13,1),(14,1),(15,1)]:=by kernel_rfl
theorem fo_214_0:fieldOff Tryz.prog 214 0=some 0:=by kernel_rfl
theorem fo_214_1:fieldOff Tryz.prog 214 1=some 5:=by kernel_rfl
theorem fo_214_2:fieldOff Tryz.prog 214 2=some 6:=by kernel_rfl
theorem fo_214_3:fieldOff Tryz.prog 214 3=some 11:=by kernel_rfl
theorem fo_214_4:fieldOff Tryz.prog 214 4=some 12:=by kernel_rfl
theorem fo_214_5:fieldOff Tryz.prog 214 5=some 13:=by kernel_rfl
theorem fo_214_6:fieldOff Tryz.prog 214 6=some 14:=by kernel_rfl
theorem fo_214_7:fieldOff Tryz.prog 214 7=some 15:=by kernel_rfl
theorem ze_231:zeroT Tryz.prog 231=some [.int .i64 0,.slice none 0 0,.int .i64 0,.int .i64 0,.int .i64 0,.int .i64 0,.int .i64 0,.slice none 0 0,.int .i64 0,.int .i64 0,.int .i64 0]:=by kernel_rfl
theorem pl_231:placesT Tryz.prog 231=some [(0,1),(1,1),(2,9)]:=by kernel_rfl
theorem fo_231_0:fieldOff Tryz.prog 231 0=some 0:=by kernel_rfl
theorem fo_231_1:fieldOff Tryz.prog 231 1=some 1:=by kernel_rfl
theorem fo_231_2:fieldOff Tryz.prog 231 2=some 2:=by kernel_rfl
theorem sz_236:(Tryz.prog.info? 236).map (·.size)=some 6:=by kernel_rfl
theorem ze_236:zeroT Tryz.prog 236=some [.int .i64 0,.int .i64 0,.int .i64 0,.int .i64 0,.int .i64 0,.int .i64 0]:=by kernel_rfl
theorem sh_236:shapeT Tryz.prog 236=some (some 6):=by kernel_rfl
theorem pl_236:placesT Tryz.prog 236=some [(0,1),(1,1),(2,1),(3,1),(4,1),(5,1)]:=by kernel_rfl
theorem fo_236_0:fieldOff Tryz.prog 236 0=some 0:=by kernel_rfl
theorem fo_236_4:fieldOff Tryz.prog 236 4=some 4:=by kernel_rfl
theorem fo_236_5:fieldOff Tryz.prog 236 5=some 5:=by kernel_rfl
theorem sz_242:(Tryz.prog.info? 242).map (·.size)=some 3:=by kernel_rfl
theorem ze_242:zeroT Tryz.prog 242=some [.int .i64 0,.int .i64 0,.int .i64 0]:=by kernel_rfl
theorem sh_242:shapeT Tryz.prog 242=some (some 3):=by kernel_rfl
theorem pl_242:placesT Tryz.prog 242=some [(0,1),(1,1),(2,1)]:=by kernel_rfl
theorem fo_242_0:fieldOff Tryz.prog 242 0=some 0:=by kernel_rfl
theorem fo_242_1:fieldOff Tryz.prog 242 1=some 1:=by kernel_rfl
theorem fo_242_2:fieldOff Tryz.prog 242 2=some 2:=by kernel_rfl
theorem el_243:elemOfT Tryz.prog 243=some (248,6):=by kernel_rfl
theorem ei_243:elemInfo Tryz.prog 243=some (248,6,48):=by kernel_rfl
theorem sz_248:(Tryz.prog.info? 248).map (·.size)=some 6:=by kernel_rfl
theorem ze_248:zeroT Tryz.prog 248=some [.int .i64 0,.int .i64 0,.int .i64 0,.int .i64 0,.bool false,.int .i64 0]:=by kernel_rfl
theorem sh_248:shapeT Tryz.prog 248=some (some 6):=by kernel_rfl
theorem pl_248:placesT Tryz.prog 248=some [(0,5),(5,1)]:=by kernel_rfl
theorem fo_248_0:fieldOff Tryz.prog 248 0=some 0:=by kernel_rfl
theorem fo_248_1:fieldOff Tryz.prog 248 1=some 5:=by kernel_rfl
theorem sz_257:(Tryz.prog.info? 257).map (·.size)=some 1:=by kernel_rfl
theorem sh_257:shapeT Tryz.prog 257=some none:=by kernel_rfl
theorem el_257:elemOfT Tryz.prog 257=some (260,7):=by kernel_rfl
theorem ei_257:elemInfo Tryz.prog 257=some (260,7,56):=by kernel_rfl
theorem ze_260:zeroT Tryz.prog 260=some [.int .i64 0,.int .i64 0,.int .i64 0,.int .i64 0,.int .i64 0,.int .i64 0,.int .i64 0]:=by kernel_rfl
theorem sh_260:shapeT Tryz.prog 260=some (some 7):=by kernel_rfl
theorem fo_260_0:fieldOff Tryz.prog 260 0=some 0:=by kernel_rfl
theorem fo_260_1:fieldOff Tryz.prog 260 1=some 5:=by kernel_rfl
theorem fo_260_2:fieldOff Tryz.prog 260 2=some 6:=by kernel_rfl
theorem ze_265:zeroT Tryz.prog 265=some [.slice none 0 0]:=by kernel_rfl
theorem pl_265:placesT Tryz.prog 265=some [(0,1)]:=by kernel_rfl
theorem fo_265_0:fieldOff Tryz.prog 265 0=some 0:=by kernel_rfl
theorem ze_273:zeroT Tryz.prog 273=some [.int .i64 0,.int .i64 0,.int .i64 0,.int .i64 0,.int .i64 0,.int .i64 0,.int .i64 0,.int .i64 0,.int .i64 0]:=by kernel_rfl
theorem pl_273:placesT Tryz.prog 273=some [(0,1),(1,3),(4,3),(7,1),(8,1)]:=by kernel_rfl
theorem fo_273_0:fieldOff Tryz.prog 273 0=some 0:=by kernel_rfl
theorem fo_273_3:fieldOff Tryz.prog 273 3=some 7:=by kernel_rfl
theorem fo_273_4:fieldOff Tryz.prog 273 4=some 8:=by kernel_rfl
theorem el_332:elemOfT Tryz.prog 332=some (62,1):=by kernel_rfl
theorem ei_332:elemInfo Tryz.prog 332=some (62,1,24):=by kernel_rfl
theorem sh_335:shapeT Tryz.prog 335=some none:=by kernel_rfl
theorem sz_336:(Tryz.prog.info? 336).map (·.size)=some 2:=by kernel_rfl
theorem ze_336:zeroT Tryz.prog 336=some [.pointer none,.int .i64 0]:=by kernel_rfl
theorem sh_336:shapeT Tryz.prog 336=some (some 2):=by kernel_rfl
theorem pl_336:placesT Tryz.prog 336=some [(0,1),(1,1)]:=by kernel_rfl
theorem fo_336_0:fieldOff Tryz.prog 336 0=some 0:=by kernel_rfl
theorem fo_336_1:fieldOff Tryz.prog 336 1=some 1:=by kernel_rfl
theorem ze_337:zeroT Tryz.prog 337=some [.pointer none,.int .i64 0,.pointer none,.int .i64 0,.pointer none,.int .i64 0,.pointer none,.int .i64 0]:=by kernel_rfl
theorem ar_337:arrOfT Tryz.prog 337=some (4,336,2):=by kernel_rfl
theorem sz_351:(Tryz.prog.info? 351).map (·.size)=some 2:=by kernel_rfl
theorem ze_351:zeroT Tryz.prog 351=some [.int .i64 0,.int .i64 0]:=by kernel_rfl
theorem sh_351:shapeT Tryz.prog 351=some (some 2):=by kernel_rfl
theorem pl_351:placesT Tryz.prog 351=some [(0,1),(1,1)]:=by kernel_rfl
theorem fo_351_0:fieldOff Tryz.prog 351 0=some 0:=by kernel_rfl
theorem fo_351_1:fieldOff Tryz.prog 351 1=some 1:=by kernel_rfl
theorem ze_372:zeroT Tryz.prog 372=some [.int .i64 0,.int .i64 0,.int .i64 0]:=by kernel_rfl
theorem ar_372:arrOfT Tryz.prog 372=some (3,44,1):=by kernel_rfl
theorem sz_412:(Tryz.prog.info? 412).map (·.size)=some 3:=by kernel_rfl
theorem ze_412:zeroT Tryz.prog 412=some [.pointer none,.int .i64 0,.int .i64 0]:=by kernel_rfl
theorem sh_412:shapeT Tryz.prog 412=some (some 3):=by kernel_rfl
theorem pl_412:placesT Tryz.prog 412=some [(0,1),(1,1),(2,1)]:=by kernel_rfl
theorem fo_412_0:fieldOff Tryz.prog 412 0=some 0:=by kernel_rfl
theorem fo_412_1:fieldOff Tryz.prog 412 1=some 1:=by kernel_rfl
theorem fo_412_2:fieldOff Tryz.prog 412 2=some 2:=by kernel_rfl
theorem ze_413:zeroT Tryz.prog 413=some [.pointer none,.int .i64 0,.int .i64 0,.pointer none,.int .i64 0,.int .i64 0,.pointer none,.int .i64 0,.int .i64 0]:=by kernel_rfl
theorem ar_413:arrOfT Tryz.prog 413=some (3,412,3):=by kernel_rfl
theorem ze_419:zeroT Tryz.prog 419=some [.complex .f64 0 0]:=by kernel_rfl
theorem sh_419:shapeT Tryz.prog 419=some none:=by kernel_rfl
theorem el_464:elemOfT Tryz.prog 464=some (419,1):=by kernel_rfl
theorem pf_21:plainF Tryz.prog 21=true:=by kernel_rfl
theorem pf_23:plainF Tryz.prog 23=true:=by kernel_rfl
theorem pf_24:plainF Tryz.prog 24=true:=by kernel_rfl
theorem pf_27:plainF Tryz.prog 27=true:=by kernel_rfl
theorem pf_30:plainF Tryz.prog 30=true:=by kernel_rfl
theorem pf_32:plainF Tryz.prog 32=true:=by kernel_rfl
theorem pf_33:plainF Tryz.prog 33=true:=by kernel_rfl
theorem pf_34:plainF Tryz.prog 34=true:=by kernel_rfl
theorem pf_35:plainF Tryz.prog 35=true:=by kernel_rfl
theorem pf_36:plainF Tryz.prog 36=true:=by kernel_rfl
theorem pf_37:plainF Tryz.prog 37=true:=by kernel_rfl
theorem pf_38:plainF Tryz.prog 38=true:=by kernel_rfl
theorem pf_39:plainF Tryz.prog 39=true:=by kernel_rfl
theorem pf_40:plainF Tryz.prog 40=true:=by kernel_rfl
theorem pf_41:plainF Tryz.prog 41=true:=by kernel_rfl
theorem pf_42:plainF Tryz.prog 42=true:=by kernel_rfl
theorem pf_43:plainF Tryz.prog 43=true:=by kernel_rfl
theorem pf_45:plainF Tryz.prog 45=true:=by kernel_rfl
theorem pf_46:plainF Tryz.prog 46=true:=by kernel_rfl
theorem pf_47:plainF Tryz.prog 47=true:=by kernel_rfl
theorem pf_50:plainF Tryz.prog 50=true:=by kernel_rfl
theorem pf_51:plainF Tryz.prog 51=true:=by kernel_rfl
theorem pf_53:plainF Tryz.prog 53=true:=by kernel_rfl
theorem pf_56:plainF Tryz.prog 56=true:=by kernel_rfl
theorem pf_58:plainF Tryz.prog 58=true:=by kernel_rfl
theorem pf_59:plainF Tryz.prog 59=true:=by kernel_rfl
theorem pf_64:plainF Tryz.prog 64=true:=by kernel_rfl
theorem pf_65:plainF Tryz.prog 65=true:=by kernel_rfl
theorem pf_66:plainF Tryz.prog 66=true:=by kernel_rfl
theorem pf_69:plainF Tryz.prog 69=true:=by kernel_rfl
theorem pf_73:plainF Tryz.prog 73=true:=by kernel_rfl
theorem pf_75:plainF Tryz.prog 75=true:=by kernel_rfl
theorem pf_76:plainF Tryz.prog 76=true:=by kernel_rfl
theorem pf_97:plainF Tryz.prog 97=true:=by kernel_rfl
theorem pf_98:plainF Tryz.prog 98=true:=by kernel_rfl
theorem pf_99:plainF Tryz.prog 99=true:=by kernel_rfl
theorem pf_103:plainF Tryz.prog 103=true:=by kernel_rfl
theorem pf_107:plainF Tryz.prog 107=true:=by kernel_rfl
theorem pf_108:plainF Tryz.prog 108=true:=by kernel_rfl
theorem pf_109:plainF Tryz.prog 109=true:=by kernel_rfl
theorem pf_110:plainF Tryz.prog 110=true:=by kernel_rfl
theorem pf_111:plainF Tryz.prog 111=true:=by kernel_rfl
theorem pf_112:plainF Tryz.prog 112=true:=by kernel_rfl
theorem pf_113:plainF Tryz.prog 113=true:=by kernel_rfl
theorem pf_114:plainF Tryz.prog 114=true:=by kernel_rfl
theorem pf_115:plainF Tryz.prog 115=true:=by kernel_rfl
theorem pf_116:plainF Tryz.prog 116=true:=by kernel_rfl
theorem pf_117:plainF Tryz.prog 117=true:=by kernel_rfl
theorem pf_121:plainF Tryz.prog 121=true:=by kernel_rfl
theorem pf_122:plainF Tryz.prog 122=true:=by kernel_rfl
theorem pf_123:plainF Tryz.prog 123=true:=by kernel_rfl
theorem pf_125:plainF Tryz.prog 125=true:=by kernel_rfl
theorem pf_126:plainF Tryz.prog 126=true:=by kernel_rfl
theorem pf_127:plainF Tryz.prog 127=true:=by kernel_rfl
theorem pf_128:plainF Tryz.prog 128=true:=by kernel_rfl
theorem pf_129:plainF Tryz.prog 129=true:=by kernel_rfl
theorem pf_130:plainF Tryz.prog 130=true:=by kernel_rfl
theorem pf_131:plainF Tryz.prog 131=true:=by kernel_rfl
theorem pf_132:plainF Tryz.prog 132=true:=by kernel_rfl
theorem pf_133:plainF Tryz.prog 133=true:=by kernel_rfl
theorem pf_134:plainF Tryz.prog 134=true:=by kernel_rfl
theorem pf_135:plainF Tryz.prog 135=true:=by kernel_rfl
theorem pf_136:plainF Tryz.prog 136=true:=by kernel_rfl
theorem pf_137:plainF Tryz.prog 137=true:=by kernel_rfl
theorem pf_138:plainF Tryz.prog 138=true:=by kernel_rfl
theorem pf_141:plainF Tryz.prog 141=true:=by kernel_rfl
theorem pf_142:plainF Tryz.prog 142=true:=by kernel_rfl
theorem pf_143:plainF Tryz.prog 143=true:=by kernel_rfl
theorem pf_150:plainF Tryz.prog 150=true:=by kernel_rfl
theorem pf_151:plainF Tryz.prog 151=true:=by kernel_rfl
theorem pf_154:plainF Tryz.prog 154=true:=by kernel_rfl
theorem pf_155:plainF Tryz.prog 155=true:=by kernel_rfl
theorem pf_156:plainF Tryz.prog 156=true:=by kernel_rfl
theorem pf_157:plainF Tryz.prog 157=true:=by kernel_rfl
theorem pf_158:plainF Tryz.prog 158=true:=by kernel_rfl
theorem pf_181:plainF Tryz.prog 181=true:=by kernel_rfl
theorem pf_185:plainF Tryz.prog 185=true:=by kernel_rfl
theorem pf_186:plainF Tryz.prog 186=true:=by kernel_rfl
theorem pf_187:plainF Tryz.prog 187=true:=by kernel_rfl
theorem pf_188:plainF Tryz.prog 188=true:=by kernel_rfl
theorem pf_189:plainF Tryz.prog 189=true:=by kernel_rfl
theorem pf_190:plainF Tryz.prog 190=true:=by kernel_rfl
theorem pf_191:plainF Tryz.prog 191=true:=by kernel_rfl
theorem pf_192:plainF Tryz.prog 192=true:=by kernel_rfl
theorem pf_193:plainF Tryz.prog 193=true:=by kernel_rfl
theorem pf_194:plainF Tryz.prog 194=true:=by kernel_rfl
theorem pf_195:plainF Tryz.prog 195=true:=by kernel_rfl
theorem pf_196:plainF Tryz.prog 196=true:=by kernel_rfl
theorem pf_199:plainF Tryz.prog 199=true:=by kernel_rfl
theorem pf_200:plainF Tryz.prog 200=true:=by kernel_rfl
theorem pf_201:plainF Tryz.prog 201=true:=by kernel_rfl
theorem pf_202:plainF Tryz.prog 202=true:=by kernel_rfl
theorem pf_203:plainF Tryz.prog 203=true:=by kernel_rfl
theorem pf_204:plainF Tryz.prog 204=true:=by kernel_rfl
theorem pf_205:plainF Tryz.prog 205=true:=by kernel_rfl
theorem pf_206:plainF Tryz.prog 206=true:=by kernel_rfl
theorem pf_207:plainF Tryz.prog 207=true:=by kernel_rfl
theorem pf_208:plainF Tryz.prog 208=true:=by kernel_rfl
theorem pf_209:plainF Tryz.prog 209=true:=by kernel_rfl
theorem pf_210:plainF Tryz.prog 210=true:=by kernel_rfl
theorem pf_211:plainF Tryz.prog 211=true:=by kernel_rfl
theorem pf_212:plainF Tryz.prog 212=true:=by kernel_rfl
theorem pf_220:plainF Tryz.prog 220=true:=by kernel_rfl
theorem pf_223:plainF Tryz.prog 223=true:=by kernel_rfl
theorem pf_224:plainF Tryz.prog 224=true:=by kernel_rfl
theorem pf_225:plainF Tryz.prog 225=true:=by kernel_rfl
theorem pf_244:plainF Tryz.prog 244=true:=by kernel_rfl
theorem pf_245:plainF Tryz.prog 245=true:=by kernel_rfl
theorem pf_246:plainF Tryz.prog 246=true:=by kernel_rfl
theorem pf_247:plainF Tryz.prog 247=true:=by kernel_rfl
theorem pf_248:plainF Tryz.prog 248=true:=by kernel_rfl
theorem pf_249:plainF Tryz.prog 249=true:=by kernel_rfl
theorem pf_250:plainF Tryz.prog 250=true:=by kernel_rfl
theorem pf_251:plainF Tryz.prog 251=true:=by kernel_rfl
theorem pf_253:plainF Tryz.prog 253=true:=by kernel_rfl
theorem pf_254:plainF Tryz.prog 254=true:=by kernel_rfl
theorem pf_255:plainF Tryz.prog 255=true:=by kernel_rfl
theorem pf_256:plainF Tryz.prog 256=true:=by kernel_rfl
theorem pf_257:plainF Tryz.prog 257=true:=by kernel_rfl
theorem pf_258:plainF Tryz.prog 258=true:=by kernel_rfl
theorem pf_259:plainF Tryz.prog 259=true:=by kernel_rfl
theorem pf_260:plainF Tryz.prog 260=true:=by kernel_rfl
theorem pf_261:plainF Tryz.prog 261=true:=by kernel_rfl
theorem pf_262:plainF Tryz.prog 262=true:=by kernel_rfl
theorem pf_263:plainF Tryz.prog 263=true:=by kernel_rfl
theorem pf_269:plainF Tryz.prog 269=true:=by kernel_rfl
theorem pf_270:plainF Tryz.prog 270=true:=by kernel_rfl
theorem pf_271:plainF Tryz.prog 271=true:=by kernel_rfl
theorem pf_279:plainF Tryz.prog 279=true:=by kernel_rfl
theorem pf_280:plainF Tryz.prog 280=true:=by kernel_rfl
theorem pf_282:plainF Tryz.prog 282=true:=by kernel_rfl
theorem pf_283:plainF Tryz.prog 283=true:=by kernel_rfl
theorem pf_284:plainF Tryz.prog 284=true:=by kernel_rfl
theorem pf_285:plainF Tryz.prog 285=true:=by kernel_rfl
theorem pf_286:plainF Tryz.prog 286=true:=by kernel_rfl
theorem pf_287:plainF Tryz.prog 287=true:=by kernel_rfl
theorem pf_288:plainF Tryz.prog 288=true:=by kernel_rfl
theorem pf_289:plainF Tryz.prog 289=true:=by kernel_rfl
theorem pf_291:plainF Tryz.prog 291=true:=by kernel_rfl
theorem pf_292:plainF Tryz.prog 292=true:=by kernel_rfl
theorem pf_293:plainF Tryz.prog 293=true:=by kernel_rfl
theorem pf_294:plainF Tryz.prog 294=true:=by kernel_rfl
theorem pf_295:plainF Tryz.prog 295=true:=by kernel_rfl
theorem pf_296:plainF Tryz.prog 296=true:=by kernel_rfl
theorem pf_299:plainF Tryz.prog 299=true:=by kernel_rfl
theorem pf_300:plainF Tryz.prog 300=true:=by kernel_rfl
theorem pf_301:plainF Tryz.prog 301=true:=by kernel_rfl
theorem pf_302:plainF Tryz.prog 302=true:=by kernel_rfl
theorem pf_309:plainF Tryz.prog 309=true:=by kernel_rfl
theorem pf_310:plainF Tryz.prog 310=true:=by kernel_rfl
theorem pf_311:plainF Tryz.prog 311=true:=by kernel_rfl
theorem pf_312:plainF Tryz.prog 312=true:=by kernel_rfl
theorem pf_313:plainF Tryz.prog 313=true:=by kernel_rfl
theorem pf_315:plainF Tryz.prog 315=true:=by kernel_rfl
theorem pf_316:plainF Tryz.prog 316=true:=by kernel_rfl
theorem pf_317:plainF Tryz.prog 317=true:=by kernel_rfl
theorem pf_318:plainF Tryz.prog 318=true:=by kernel_rfl
theorem pf_319:plainF Tryz.prog 319=true:=by kernel_rfl
theorem pf_320:plainF Tryz.prog 320=true:=by kernel_rfl
theorem pf_322:plainF Tryz.prog 322=true:=by kernel_rfl
theorem pf_323:plainF Tryz.prog 323=true:=by kernel_rfl
theorem pf_324:plainF Tryz.prog 324=true:=by kernel_rfl
theorem pf_325:plainF Tryz.prog 325=true:=by kernel_rfl
theorem pf_338:plainF Tryz.prog 338=true:=by kernel_rfl
theorem pf_339:plainF Tryz.prog 339=true:=by kernel_rfl
theorem pf_340:plainF Tryz.prog 340=true:=by kernel_rfl
theorem pf_341:plainF Tryz.prog 341=true:=by kernel_rfl
theorem pf_348:plainF Tryz.prog 348=true:=by kernel_rfl
theorem follows_mixed:Tryz.prog.follows .mixedOrders=true:=by kernel_rfl
end Go.Proofs.YtclblpmjamcknaaGreat
