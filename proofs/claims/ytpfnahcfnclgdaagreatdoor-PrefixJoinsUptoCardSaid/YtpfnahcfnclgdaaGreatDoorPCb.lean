/- Contracts of the program's functions. -/
import Derived.Test.YtpfnahcfnclgdaaGreatDoorPCt0
noncomputable section
set_option maxHeartbeats 16000000
set_option maxRecDepth 100000
namespace Go.Am
open Go.Proofs
def T6 := mkC Tryz.f6 133
def T13 := mkC Tryz.f13 25
def T16 := mkC Tryz.f16 75
def T24 := mkC Tryz.f24 20
def T36 := mkC Tryz.f36 78
def T39 := mkC Tryz.f39 23
def T42 := mkC Tryz.f42 10
def T45 := mkC Tryz.f45 59
def T49 := mkC Tryz.f49 15
def T52 := mkC Tryz.f52 31
def T60 := mkC Tryz.f60 9
def T67 := mkC Tryz.f67 4
def T77 := mkC Tryz.f77 12
def T84 := mkC Tryz.f84 29
def T87 := mkC Tryz.f87 19
def T90 := mkC Tryz.f90 28
def T93 := mkC Tryz.f93 11
def T96 := mkC Tryz.f96 19
def T99 := mkC Tryz.f99 8
def T105 := mkC Tryz.f105 19
def T112 := mkC Tryz.f112 30
def T123 := mkC Tryz.f123 9
def T126 := mkC Tryz.f126 9
def T129 := mkC Tryz.f129 56
def T132 := mkC Tryz.f132 12
def T135 := mkC Tryz.f135 7
def T142 := mkC Tryz.f142 29
def T146 := mkC Tryz.f146 6
def T151 := mkC Tryz.f151 9
def T154 := mkC Tryz.f154 10
def T157 := mkC Tryz.f157 8
def T160 := mkC Tryz.f160 60
def T163 := mkC Tryz.f163 32
def T168 := mkC Tryz.f168 32
def T172 := mkC Tryz.f172 35
def T175 := mkC Tryz.f175 59
def T181 := mkC Tryz.f181 16
def T184 := mkC Tryz.f184 47
def T187 := mkC Tryz.f187 4
def T191 := mkC Tryz.f191 32
def T198 := mkC Tryz.f198 48
def T209 := mkC Tryz.f209 95
end Go.Am
end
