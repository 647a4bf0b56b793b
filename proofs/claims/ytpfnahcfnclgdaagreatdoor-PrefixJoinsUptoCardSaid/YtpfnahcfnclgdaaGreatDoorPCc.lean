/- Contracts of the program's functions. -/
import Derived.Test.YtpfnahcfnclgdaaGreatDoorPCt0
noncomputable section
set_option maxHeartbeats 16000000
set_option maxRecDepth 100000
namespace Go.Am
open Go.Proofs
def T11 := mkC Tryz.f11 28
def T14 := mkC Tryz.f14 25
def T18 := mkC Tryz.f18 121
def T25 := mkC Tryz.f25 37
def T37 := mkC Tryz.f37 29
def T40 := mkC Tryz.f40 11
def T43 := mkC Tryz.f43 6
def T46 := mkC Tryz.f46 68
def T50 := mkC Tryz.f50 8
def T58 := mkC Tryz.f58 63
def T65 := mkC Tryz.f65 16
def T68 := mkC Tryz.f68 6
def T82 := mkC Tryz.f82 52
def T85 := mkC Tryz.f85 22
def T88 := mkC Tryz.f88 6
def T91 := mkC Tryz.f91 16
def T94 := mkC Tryz.f94 11
def T97 := mkC Tryz.f97 23
def T103 := mkC Tryz.f103 18
def T109 := mkC Tryz.f109 11
def T113 := mkC Tryz.f113 15
def T124 := mkC Tryz.f124 36
def T127 := mkC Tryz.f127 11
def T130 := mkC Tryz.f130 22
def T133 := mkC Tryz.f133 32
def T136 := mkC Tryz.f136 51
def T143 := mkC Tryz.f143 114
def T147 := mkC Tryz.f147 23
def T152 := mkC Tryz.f152 19
def T155 := mkC Tryz.f155 17
def T158 := mkC Tryz.f158 59
def T161 := mkC Tryz.f161 18
def T166 := mkC Tryz.f166 17
def T170 := mkC Tryz.f170 131
def T173 := mkC Tryz.f173 9
def T176 := mkC Tryz.f176 7
def T182 := mkC Tryz.f182 20
def T185 := mkC Tryz.f185 20
def T188 := mkC Tryz.f188 6
def T192 := mkC Tryz.f192 26
def T199 := mkC Tryz.f199 23
def T210 := mkC Tryz.f210 14
end Go.Am
end
