/- Contracts of the program's functions. -/
import Derived.Test.YtpdmaimjllhooaaGreatDoorRCt1
import Derived.Test.YtpdmaimjllhooaaGreatDoorProg
section
set_option maxHeartbeats 16000000
set_option maxRecDepth 20000
namespace Go.Proofs
open Go.Shelf
def Tryz.lays189_ren : Go.Shelf.Ren:=⟨fun | 189=>146 | 125=>169 | 257=>168 | 128=>190 | 129=>191 | 294=>181 | 295=>182 | 296=>183 | 297=>184 | 298=>185 | 299=>186 | 216=>187 | 300=>188 | 301=>189 | 328=>194 | 329=>195 | 330=>196 | 331=>197 | 332=>198 | 215=>199 | 343=>204 | n=>n,fun | 28=>36 | 3=>3 | 46=>181 | 0=>0 | 51=>197 | 53=>199 | 4=>4 | 183=>190 | 182=>189 | 131=>171 | 5=>5 | 9=>9 | 218=>200 | 222=>204 | 228=>208 | 229=>45 | n=>n,fun | n=>n⟩
theorem Tryz.lays189 : Go.Proofs.Lays.n189 Tryz.prog Tryz.lays189_ren:={
 mixed:=by kernel_rfl
 f125:=Tryz.func169.trans (congrArg some (by kernel_rfl))
 f128:=Tryz.func190.trans (congrArg some (by kernel_rfl))
 f129:=Tryz.func191.trans (congrArg some (by kernel_rfl))
 f189:=Tryz.func146.trans (congrArg some (by kernel_rfl))
 f215:=Tryz.func199.trans (congrArg some (by kernel_rfl))
 f216:=Tryz.func187.trans (congrArg some (by kernel_rfl))
 f257:=Tryz.func168.trans (congrArg some (by kernel_rfl))
 f294:=Tryz.func181.trans (congrArg some (by kernel_rfl))
 f295:=Tryz.func182.trans (congrArg some (by kernel_rfl))
 f296:=Tryz.func183.trans (congrArg some (by kernel_rfl))
 f297:=Tryz.func184.trans (congrArg some (by kernel_rfl))
 f298:=Tryz.func185.trans (congrArg some (by kernel_rfl))
 f299:=Tryz.func186.trans (congrArg some (by kernel_rfl))
 f300:=Tryz.func188.trans (congrArg some (by kernel_rfl))
 f301:=Tryz.func189.trans (congrArg some (by kernel_rfl))
 f328:=Tryz.func194.trans (congrArg some (by kernel_rfl))
 f329:=Tryz.func195.trans (congrArg some (by kernel_rfl))
 f330:=Tryz.func196.trans (congrArg some (by kernel_rfl))
 f331:=Tryz.func197.trans (congrArg some (by kernel_rfl))
 f332:=Tryz.func198.trans (congrArg some (by kernel_rfl))
 f343:=Tryz.func204.trans (congrArg some (by kernel_rfl))
 t0:=Tryz.underlying0
 a0:=Tryz.isAgg0
 z0:=Tryz.sizeOf0
 v0:=Tryz.zeroValue0
 t3:=Tryz.underlying3
 a3:=Tryz.isAgg3
 z3:=Tryz.sizeOf3
 v3:=Tryz.zeroValue3
 t4:=Tryz.underlying4
 a4:=Tryz.isAgg4
 z4:=Tryz.sizeOf4
 v4:=Tryz.zeroValue4
 t5:=Tryz.underlying5
 a5:=Tryz.isAgg5
 z5:=Tryz.sizeOf5
 v5:=Tryz.zeroValue5
 t9:=Tryz.underlying9
 a9:=Tryz.isAgg9
 z9:=Tryz.sizeOf9
 v9:=Tryz.zeroValue9
 t28:=Tryz.underlying36
 a28:=Tryz.isAgg36
 z28:=Tryz.sizeOf36
 v28:=Tryz.zeroValue36
 t46:=Tryz.underlying181
 a46:=Tryz.isAgg181
 z46:=Tryz.sizeOf181
 v46:=Tryz.zeroValue181
 t51:=Tryz.underlying197
 a51:=Tryz.isAgg197
 z51:=Tryz.sizeOf197
 v51:=Tryz.zeroValue197
 t53:=Tryz.underlying199
 a53:=Tryz.isAgg199
 z53:=Tryz.sizeOf199
 v53:=Tryz.zeroValue199
 t131:=Tryz.underlying171
 a131:=Tryz.isAgg171
 z131:=Tryz.sizeOf171
 v131:=Tryz.zeroValue171
 t182:=Tryz.underlying189
 a182:=Tryz.isAgg189
 z182:=Tryz.sizeOf189
 v182:=Tryz.zeroValue189
 t183:=Tryz.underlying190
 a183:=Tryz.isAgg190
 z183:=Tryz.sizeOf190
 v183:=Tryz.zeroValue190
 t218:=Tryz.underlying200
 a218:=Tryz.isAgg200
 z218:=Tryz.sizeOf200
 v218:=Tryz.zeroValue200
 t222:=Tryz.underlying204
 a222:=Tryz.isAgg204
 z222:=Tryz.sizeOf204
 v222:=Tryz.zeroValue204
 t228:=Tryz.underlying208
 a228:=Tryz.isAgg208
 z228:=Tryz.sizeOf208
 v228:=Tryz.zeroValue208
 t229:=Tryz.underlying45
 a229:=Tryz.isAgg45
 z229:=Tryz.sizeOf45
 v229:=Tryz.zeroValue45 }
def Tryz.laysNm220_ren : Go.Shelf.Ren:=⟨fun | 20=>147 | n=>n,fun | 22=>36 | 3=>3 | 4=>4 | 0=>0 | n=>n,fun | n=>n⟩
theorem Tryz.laysNm220 : Go.Proofs.Lays2.n20 Tryz.prog Tryz.laysNm220_ren:={
 mixed:=by kernel_rfl
 f20:=Tryz.func147.trans (congrArg some (by kernel_rfl))
 t0:=Tryz.underlying0
 a0:=Tryz.isAgg0
 z0:=Tryz.sizeOf0
 v0:=Tryz.zeroValue0
 t3:=Tryz.underlying3
 a3:=Tryz.isAgg3
 z3:=Tryz.sizeOf3
 v3:=Tryz.zeroValue3
 t4:=Tryz.underlying4
 a4:=Tryz.isAgg4
 z4:=Tryz.sizeOf4
 v4:=Tryz.zeroValue4
 t22:=Tryz.underlying36
 a22:=Tryz.isAgg36
 z22:=Tryz.sizeOf36
 v22:=Tryz.zeroValue36
 i3:=by kernel_rfl }
end Go.Proofs
namespace Go.Am
open Go.Proofs
end Go.Am
end
section
set_option maxHeartbeats 16000000
set_option maxRecDepth 100000
namespace Go.Am
open Go.Proofs
theorem PCall.weakA {E:Env} {f:FuncId} {args args':List AV} {v:AV} (h:PCall E f args' v) (hw:Wk2L 0 args args'):PCall E f args v:=by
 refine ⟨h.1,fun K w ys hh hv=>h.2 K w ys hh ?_⟩
 obtain ⟨hl,hc⟩:=hw.spec
 refine ⟨hl ▸ hv.1,fun i x' y hx hy=>?_⟩
 obtain ⟨x,hx0⟩:∃ x,args[i]? = some x:=⟨_,List.getElem?_eq_getElem (by have:=(List.getElem?_eq_some_iff.1 hx).1;omega)⟩
 exact (hc i x x' hx0 hx).rep (hv.2 i x y hx0 hy)
end Go.Am
end
