/- Contracts of the program's functions. -/
import Derived.Test.YtpfnahcfnclgdaaGreatDoorPCt0
noncomputable section
set_option maxHeartbeats 16000000
set_option maxRecDepth 100000
namespace Go.Am
open Go.Proofs
def T3 := mkC Tryz.f3 50
def T12 := mkC Tryz.f12 155
def T15 := mkC Tryz.f15 27
def T22 := mkC Tryz.f22 66
def T33 := mkC Tryz.f33 67
def T38 := mkC Tryz.f38 22
def T41 := mkC Tryz.f41 5
def T44 := mkC Tryz.f44 56
def T47 := mkC Tryz.f47 67
def T51 := mkC Tryz.f51 15
def T59 := mkC Tryz.f59 86
def T66 := mkC Tryz.f66 42
def T73 := mkC Tryz.f73 13
def T83 := mkC Tryz.f83 93
def T86 := mkC Tryz.f86 6
def T89 := mkC Tryz.f89 8
def T92 := mkC Tryz.f92 10
def T95 := mkC Tryz.f95 68
def T98 := mkC Tryz.f98 24
def T104 := mkC Tryz.f104 26
def T111 := mkC Tryz.f111 4
def T122 := mkC Tryz.f122 9
def T125 := mkC Tryz.f125 19
def T128 := mkC Tryz.f128 100
def T131 := mkC Tryz.f131 4
def T134 := mkC Tryz.f134 113
def T141 := mkC Tryz.f141 32
def T145 := mkC Tryz.f145 27
def T150 := mkC Tryz.f150 19
def T153 := mkC Tryz.f153 29
def T156 := mkC Tryz.f156 51
def T159 := mkC Tryz.f159 16
def T162 := mkC Tryz.f162 10
def T167 := mkC Tryz.f167 11
def T171 := mkC Tryz.f171 19
def T174 := mkC Tryz.f174 14
def T180 := mkC Tryz.f180 18
def T183 := mkC Tryz.f183 21
def T186 := mkC Tryz.f186 13
def T190 := mkC Tryz.f190 19
def T197 := mkC Tryz.f197 36
def T201 := mkC Tryz.f201 39
end Go.Am
end
