/- Contracts of the program's functions, for every argument that meets the conditions that each theorem names. -/
import Derived.Test.YtehpdnkachbakaaDoorAm6
import Derived.Test.YtehpdnkachbakaaDoorAm4
import Derived.Test.YtehpdnkachbakaaDoorProg
section
set_option maxHeartbeats 16000000
set_option maxRecDepth 100000
namespace Go.Am
open Go.Proofs
abbrev oN (d : Nat) (o : AOp) (a : List Nat) : AOper := ⟨some d, o, a, none⟩
abbrev oG (d : Nat) (o : AOp) (a : List Nat) (g : Nat) (b : Bool) : AOper := ⟨some d, o, a, some (g, b)⟩
abbrev eN (o : AOp) (a : List Nat) : AOper := ⟨none, o, a, none⟩
abbrev eG (o : AOp) (a : List Nat) (g : Nat) (b : Bool) : AOper := ⟨none, o, a, some (g, b)⟩
abbrev cI (n : Int) : Opd := .c (.val (.int .i64 n))
abbrev cB (b : Bool) : Opd := .c (.val (.bool b))
abbrev cN : Opd := .c (.val (.slice none 0 0))
abbrev vI (n : Int) : AV := .val (.int .i64 n)
abbrev vN : AV := .val (.slice none 0 0)
abbrev zE : List AV := [vI 0, vN, vI 0, vI 0, vI 0, vI 0, vI 0, .val (.string ⟨#[]⟩)]
abbrev zP : List AV := [vI 0, vN, vI 0, vI 0, vI 0, vI 0, vI 0, vN, vI 0, vI 0, vI 0, vI 0, vI 0, .val (.string ⟨#[]⟩)]
def Trydc3 : ACode :=
 (.seq (.reg [
 oN 2 (.box (.t 0)) [],
 oN 3 (.box (.t 1)) [],
 oN 4 (.mv (cB false)) []])
 (.seq (.reg [
 oN 14 (.ld 14 true (.t 2)) [],
 oN 15 (.call 7 [(.t 14)]) [0],
 oN 13 (.mv (.t 15)) [1],
 oN 16 (.ext (.t 13) 0) [2],
 oN 17 (.ext (.t 13) 1) [2],
 oN 5 (.mv (.t 16)) [3,1,0,1,2,3],
 oN 6 (.mv (.t 17)) [4,5,0,1,2,3,4,5]])
 (.seq (.seq (.reg [
 oN 18 (.ld 14 true (.t 2)) [],
 oN 19 (.call 8 [(.t 18)]) [0],
 oN 20 (.un .not (.t 19)) [1],
 oN 21 (.mv (.t 20)) [2,1],
 oG 22 (.ld 8 true (.t 3)) [3] 21 false,
 oG 23 (.call 9 [(.t 22)]) [4,3,3] 21 false,
 oG 24 (.un .not (.t 23)) [5,3] 21 false,
 oN 25 (.pick (.t 21) (cB true) (.t 24)) [3,6],
 oN 26 (.mv (.t 25)) [7,5],
 oG 27 (.mv (.t 5)) [8] 26 false,
 oG 28 (.bin .geq (.t 27) (cI 64)) [9,8] 26 false,
 oN 29 (.pick (.t 26) (cB true) (.t 28)) [8,10],
 oN 30 (.mv (.t 29)) [11,8],
 oG 31 (.mv (.t 6)) [12] 30 false,
 oG 32 (.bin .geq (.t 31) (cI 12)) [13,12] 30 false,
 oN 33 (.pick (.t 30) (cB true) (.t 32)) [12,14],
 oN 34 (.mv (.t 33)) [15,12],
 oG 35 (.ld 8 true (.t 3)) [16] 34 false,
 oG 36 (.call 10 [(.t 35)]) [17,16,16] 34 false,
 oG 37 (.bin .neq (.t 36) (cI 0)) [18,16] 34 false,
 oN 38 (.pick (.t 34) (cB true) (.t 37)) [16,19]])
 (.cond (.t 38)
 (.seq (.reg [
 oN 39 (.call 11 []) [],
 oN 4 (.mv (.t 39)) [0,0,0]])
 .ret)
 .skip))
 (.seq (.seq (.reg [
 oN 41 (.ld 14 true (.t 2)) [],
 oN 42 (.call 12 [(.t 41)]) [0],
 oN 40 (.mv (.t 42)) [1],
 oN 43 (.ext (.t 40) 0) [2],
 oN 44 (.ext (.t 40) 1) [2],
 oN 7 (.mv (.t 43)) [3,1,0,1,2,3],
 oN 8 (.mv (.t 44)) [4,5,0,1,2,3,4,5]])
 (.seq (.reg [
 oN 45 (.mv (.t 8)) [],
 oN 46 (.bin .neq (.t 45) (cI 0)) [0]])
 (.cond (.t 46)
 (.seq (.reg [
 oN 47 (.call 11 []) [],
 oN 4 (.mv (.t 47)) [0,0,0]])
 .ret)
 .skip)))
 (.seq (.reg [
 oN 49 (.ld 14 true (.t 2)) [],
 oN 50 (.bslice 14 [(.t 49)]) [0],
 oN 51 (.ld 8 true (.t 3)) [],
 oN 52 (.build zP [(0, 1, (cI 7)), (1, 1, (.t 50)), (6, 8, (.t 51))]) [1,2],
 oN 53 (.call 12 [(.t 52)]) [3],
 oN 48 (.mv (.t 53)) [4],
 oN 54 (.ext (.t 48) 0) [5],
 oN 55 (.ext (.t 48) 1) [5],
 oN 9 (.mv (.t 54)) [6,4,0,1,2,3,4,5,6],
 oN 10 (.mv (.t 55)) [7,8,0,1,2,3,4,5,6,7,8]])
 (.seq (.reg [
 oN 57 (.ld 14 true (.t 2)) [],
 oN 58 (.ld 8 true (.t 3)) [],
 oN 59 (.bslice 8 [(.t 58)]) [1],
 oN 60 (.call 13 [(.t 57), (.t 59)]) [0,2],
 oN 56 (.mv (.t 60)) [3],
 oN 61 (.ext (.t 56) 0) [4],
 oN 62 (.ext (.t 56) 1) [4],
 oN 11 (.mv (.t 61)) [5,3,0,1,2,3,4,5],
 oN 12 (.mv (.t 62)) [6,7,0,1,2,3,4,5,6,7]])
 (.seq (.reg [
 oN 63 (.mv (.t 10)) [],
 oN 64 (.mv (.t 12)) [],
 oN 65 (.bin .eql (.t 63) (.t 64)) [0,1],
 oN 66 (.mv (.t 65)) [2],
 oG 67 (.mv (.t 9)) [3] 66 true,
 oG 68 (.bin .eql (.t 67) (cI 0)) [4,3] 66 true,
 oN 69 (.pick (.t 66) (.t 68) (cB false)) [3,5],
 oN 70 (.mv (.t 69)) [6,3],
 oG 71 (.mv (.t 11)) [7] 70 true,
 oG 72 (.bin .eql (.t 71) (cI 0)) [8,7] 70 true,
 oN 73 (.pick (.t 70) (.t 72) (cB false)) [7,9],
 oN 74 (.mv (.t 73)) [10,7],
 oG 75 (.call 11 []) [11,11] 74 true,
 oN 76 (.pick (.t 74) (.t 75) (cB false)) [11,12],
 oN 4 (.mv (.t 76)) [13,12,0,1,2,3,4,5,6,7,8,9,10,11,12,13]])
 .ret)))))))
theorem Trydp3 : (Tryd.f3.body.map (prep Tryd.prog 77)) = some Trydc3 := by kernel_rfl
def Trydc4 : ACode :=
 (.seq (.reg [
 oN 2 (.box (.t 0)) [],
 oN 4 (.mv (cB false)) []])
 (.seq (.reg [
 oN 18 (.ld 14 true (.t 2)) [],
 oN 19 (.call 7 [(.t 18)]) [0],
 oN 17 (.mv (.t 19)) [1],
 oN 20 (.ext (.t 17) 0) [2],
 oN 21 (.ext (.t 17) 1) [2],
 oN 5 (.mv (.t 20)) [3,1,0,1,2,3],
 oN 6 (.mv (.t 21)) [4,5,0,1,2,3,4,5]])
 (.seq (.seq (.reg [
 oN 22 (.ld 14 true (.t 2)) [],
 oN 23 (.call 8 [(.t 22)]) [0],
 oN 24 (.un .not (.t 23)) [1],
 oN 25 (.mv (.t 24)) [2,1],
 oG 26 (.mv (.t 5)) [3] 25 false,
 oG 27 (.bin .geq (.t 26) (cI 64)) [4,3] 25 false,
 oN 28 (.pick (.t 25) (cB true) (.t 27)) [3,5],
 oN 29 (.mv (.t 28)) [6,3],
 oG 30 (.mv (.t 6)) [7] 29 false,
 oG 31 (.bin .geq (.t 30) (cI 12)) [8,7] 29 false,
 oN 32 (.pick (.t 29) (cB true) (.t 31)) [7,9],
 oN 33 (.mv (.t 32)) [10,7],
 oG 34 (.ld 14 true (.t 2)) [11] 33 false,
 oG 35 (.call 14 [(.t 34)]) [12,11,11] 33 false,
 oG 36 (.bin .neq (.t 35) (cI 0)) [13,11] 33 false,
 oN 37 (.pick (.t 33) (cB true) (.t 36)) [11,14]])
 (.cond (.t 37)
 (.seq (.reg [
 oN 38 (.call 11 []) [],
 oN 4 (.mv (.t 38)) [0,0,0]])
 .ret)
 .skip))
 (.seq (.reg [
 oN 39 (.ld 14 true (.t 2)) [],
 oN 40 (.bslice 14 [(.t 39)]) [0],
 oN 41 (.build zP [(0, 1, (cI 4)), (1, 1, (.t 40))]) [1],
 oN 7 (.box (.c (.agg zP))) [],
 eN (.st 14 (.t 7) (.t 41)) [3,2,0,1,2,3]])
 (.seq (.reg [
 oN 43 (.ld 14 true (.t 2)) [],
 oN 44 (.call 12 [(.t 43)]) [0],
 oN 42 (.mv (.t 44)) [1],
 oN 45 (.ext (.t 42) 0) [2],
 oN 46 (.ext (.t 42) 1) [2],
 oN 8 (.mv (.t 45)) [3,1,0,1,2,3],
 oN 9 (.mv (.t 46)) [4,5,0,1,2,3,4,5]])
 (.seq (.reg [
 oN 48 (.ld 14 true (.t 7)) [],
 oN 49 (.call 12 [(.t 48)]) [0],
 oN 47 (.mv (.t 49)) [1],
 oN 50 (.ext (.t 47) 0) [2],
 oN 51 (.ext (.t 47) 1) [2],
 oN 10 (.mv (.t 50)) [3,1,0,1,2,3],
 oN 11 (.mv (.t 51)) [4,5,0,1,2,3,4,5]])
 (.seq (.seq (.reg [
 oN 52 (.mv (.t 9)) [],
 oN 53 (.mv (.t 11)) [],
 oN 54 (.bin .neq (.t 52) (.t 53)) [0,1],
 oN 55 (.mv (.t 54)) [2],
 oG 56 (.mv (.t 9)) [3] 55 false,
 oG 57 (.bin .neq (.t 56) (cI 0)) [4,3] 55 false,
 oG 58 (.mv (.t 57)) [5,3,3] 55 false,
 oG 59 (.mv (.t 10)) [6] 58 true,
 oG 60 (.mv (.t 8)) [6] 58 true,
 oG 61 (.bin .add (.t 60) (cI 1)) [8,6] 58 true,
 oG 62 (.bin .neq (.t 59) (.t 61)) [7,9,6] 58 true,
 oG 63 (.pick (.t 58) (.t 62) (cB false)) [6,10,3] 55 false,
 oN 64 (.pick (.t 55) (cB true) (.t 63)) [3,11],
 oN 65 (.mv (.t 64)) [12,6],
 oG 66 (.mv (.t 9)) [13] 65 false,
 oG 67 (.bin .eql (.t 66) (cI 0)) [14,13] 65 false,
 oG 68 (.mv (.t 67)) [15,13,13] 65 false,
 oG 69 (.mv (.t 10)) [16] 68 true,
 oG 70 (.bin .neq (.t 69) (cI 0)) [17,16] 68 true,
 oG 71 (.pick (.t 68) (.t 70) (cB false)) [16,18,13] 65 false,
 oN 72 (.pick (.t 65) (cB true) (.t 71)) [13,19]])
 (.cond (.t 72)
 (.seq (.reg [
 oN 4 (.mv (cB false)) []])
 .ret)
 .skip))
 (.seq (.reg [
 oN 74 (.ld 14 true (.t 7)) [],
 oN 75 (.mv (.t 1)) [],
 oN 76 (.bin .rem (.t 75) (.c (.val (.int .u8 16)))) [1],
 oN 77 (.cvi .i64 (.t 76)) [2],
 oN 78 (.build zE [(0, 1, (cI 2)), (2, 1, (.t 77))]) [3],
 oN 79 (.bslice 8 [(.t 78)]) [4],
 oN 80 (.call 13 [(.t 74), (.t 79)]) [0,5],
 oN 73 (.mv (.t 80)) [6],
 oN 81 (.ext (.t 73) 0) [7],
 oN 82 (.ext (.t 73) 1) [7],
 oN 12 (.mv (.t 81)) [8,6,0,1,2,3,4,5,6,7,8],
 oN 13 (.mv (.t 82)) [9,10,0,1,2,3,4,5,6,7,8,9,10]])
 (.seq (.reg [
 oN 84 (.ld 14 true (.t 7)) [],
 oN 85 (.mv (.t 1)) [],
 oN 86 (.bin .rem (.t 85) (.c (.val (.int .u8 16)))) [1],
 oN 87 (.cvi .i64 (.t 86)) [2],
 oN 88 (.build zE [(0, 1, (cI 3)), (2, 1, (.t 87))]) [3],
 oN 89 (.bslice 8 [(.t 88)]) [4],
 oN 90 (.call 13 [(.t 84), (.t 89)]) [0,5],
 oN 83 (.mv (.t 90)) [6],
 oN 91 (.ext (.t 83) 0) [7],
 oN 92 (.ext (.t 83) 1) [7],
 oN 14 (.mv (.t 91)) [8,6,0,1,2,3,4,5,6,7,8],
 oN 15 (.mv (.t 92)) [9,10,0,1,2,3,4,5,6,7,8,9,10]])
 (.seq (.reg [
 oN 93 (.ld 14 true (.t 2)) [],
 oN 94 (.call 16 [(.t 93)]) [0],
 oN 95 (.mv (.t 1)) [],
 oN 96 (.bin .rem (.t 95) (.c (.val (.int .u8 16)))) [2],
 oN 97 (.cvi .i64 (.t 96)) [3],
 oN 98 (.call 15 [(.t 94), (.t 97)]) [1,4,1],
 oN 16 (.mv (.t 98)) [5,5,0,1,2,3,4,5]])
 (.seq (.seq (.reg [
 oN 99 (.mv (.t 16)) []])
 (.cond (.t 99)
 (.seq (.reg [
 oN 100 (.mv (.t 13)) [],
 oN 101 (.bin .eql (.t 100) (cI 11)) [0],
 oN 102 (.mv (.t 101)) [1],
 oG 103 (.mv (.t 15)) [2] 102 true,
 oG 104 (.bin .eql (.t 103) (cI 0)) [3,2] 102 true,
 oN 105 (.pick (.t 102) (.t 104) (cB false)) [2,4],
 oN 106 (.mv (.t 105)) [5,2],
 oG 107 (.call 11 []) [6,6] 106 true,
 oN 108 (.pick (.t 106) (.t 107) (cB false)) [6,7],
 oN 4 (.mv (.t 108)) [8,7,0,1,2,3,4,5,6,7,8]])
 .ret)
 .skip))
 (.seq (.reg [
 oN 109 (.mv (.t 13)) [],
 oN 110 (.bin .eql (.t 109) (cI 10)) [0],
 oN 111 (.mv (.t 110)) [1],
 oG 112 (.mv (.t 15)) [2] 111 true,
 oG 113 (.bin .eql (.t 112) (cI 10)) [3,2] 111 true,
 oN 114 (.pick (.t 111) (.t 113) (cB false)) [2,4],
 oN 115 (.mv (.t 114)) [5,2],
 oG 116 (.call 11 []) [6,6] 115 true,
 oN 117 (.pick (.t 115) (.t 116) (cB false)) [6,7],
 oN 4 (.mv (.t 117)) [8,7,0,1,2,3,4,5,6,7,8]])
 .ret))))))))))))
theorem Trydp4 : (Tryd.f4.body.map (prep Tryd.prog 118)) = some Trydc4 := by kernel_rfl
def Trydc5 : ACode :=
 (.seq (.reg [
 oN 1 (.box (.t 0)) [],
 oN 2 (.mv (cB false)) []])
 (.seq (.seq (.reg [
 oN 12 (.ld 14 true (.t 1)) [],
 oN 13 (.call 8 [(.t 12)]) [0],
 oN 14 (.un .not (.t 13)) [1],
 oN 15 (.mv (.t 14)) [2,1],
 oG 16 (.ld 14 true (.t 1)) [3] 15 false,
 oG 17 (.call 14 [(.t 16)]) [4,3,3] 15 false,
 oG 18 (.bin .neq (.t 17) (cI 0)) [5,3] 15 false,
 oN 19 (.pick (.t 15) (cB true) (.t 18)) [3,6]])
 (.cond (.t 19)
 (.seq (.reg [
 oN 20 (.call 11 []) [],
 oN 2 (.mv (.t 20)) [0,0,0]])
 .ret)
 .skip))
 (.seq (.reg [
 oN 21 (.ld 14 true (.t 1)) [],
 oN 22 (.call 16 [(.t 21)]) [0],
 oN 3 (.mv (.t 22)) [1,1,0,1]])
 (.seq (.seq (.reg [
 oN 23 (.ld 14 true (.t 1)) [],
 oN 24 (.call 17 [(.t 23)]) [0],
 oN 25 (.len (.t 24)) [1],
 oN 26 (.mv (cI 0)) []])
 (.block 0
 (.loop
 (.seq (.reg [
 oN 27 (.bin .lss (.t 26) (.t 25)) []])
 (.seq (.cond (.t 27)
 .skip
 (.exit 0))
 (.seq (.block 1
 (.seq (.reg [
 oN 28 (.mv (.t 26)) [],
 oN 29 (.ia 14 (.t 24) (.t 26)) [],
 oN 30 (.ld 14 true (.t 29)) [1],
 oN 5 (.box (.c (.agg zP))) [],
 oN 4 (.mv (.t 28)) [0,0,1,2,3],
 eN (.st 14 (.t 5) (.t 30)) [3,2,4,0,1,2,3,4]])
 (.seq (.reg [
 oN 32 (.ld 14 true (.t 1)) [],
 oN 33 (.mv (.t 4)) [],
 oN 34 (.call 18 [(.t 32), (.t 33)]) [0,1],
 oN 31 (.mv (.t 34)) [2],
 oN 35 (.ext (.t 31) 0) [3],
 oN 36 (.ext (.t 31) 1) [3],
 oN 6 (.box cN) [],
 eN (.st 1 (.t 6) (.t 35)) [6,4,2,0,1,2,3,4,6],
 oN 7 (.mv (.t 36)) [5,7,0,1,2,3,4,5,6,7]])
 (.seq (.reg [
 oN 38 (.ld 14 true (.t 1)) [],
 oN 39 (.mv (.t 4)) [],
 oN 40 (.call 19 [(.t 38), (.t 39)]) [0,1],
 oN 37 (.mv (.t 40)) [2],
 oN 41 (.ext (.t 37) 0) [3],
 oN 42 (.ext (.t 37) 1) [3],
 oN 8 (.mv (.t 41)) [4,2,0,1,2,3,4],
 oN 9 (.mv (.t 42)) [5,6,0,1,2,3,4,5,6]])
 (.seq (.seq (.reg [
 oN 43 (.mv (.t 7)) [],
 oN 44 (.mv (.t 9)) [],
 oN 45 (.bin .neq (.t 43) (.t 44)) [0,1],
 oN 46 (.mv (.t 45)) [2],
 oG 47 (.mv (.t 7)) [3] 46 false,
 oG 48 (.bin .neq (.t 47) (cI 0)) [4,3] 46 false,
 oG 49 (.mv (.t 48)) [5,3,3] 46 false,
 oG 50 (.mv (.t 7)) [6] 49 true,
 oG 51 (.bin .neq (.t 50) (cI 1)) [7,6] 49 true,
 oG 52 (.mv (.t 51)) [8,6,6] 49 true,
 oG 53 (.ld 1 false (.t 6)) [9] 52 false,
 oG 54 (.len (.t 53)) [10,9] 52 false,
 oG 55 (.mv (.t 8)) [9] 52 false,
 oG 56 (.len (.t 55)) [12,9] 52 false,
 oG 57 (.bin .add (.t 54) (.t 56)) [11,13,9] 52 false,
 oG 58 (.bin .gtr (.t 57) (cI 0)) [14,9] 52 false,
 oG 59 (.pick (.t 52) (cB true) (.t 58)) [9,15,6] 49 true,
 oG 60 (.pick (.t 49) (.t 59) (cB false)) [6,16,3] 46 false,
 oN 61 (.pick (.t 46) (cB true) (.t 60)) [3,17]])
 (.cond (.t 61)
 (.seq (.reg [
 oN 2 (.mv (cB false)) []])
 .ret)
 .skip))
 (.seq (.seq (.reg [
 oN 62 (.mv (.t 8)) [],
 oN 63 (.mkfn 21 [(.t 6)]) [],
 oN 64 (.call 20 [(.t 62), (.t 63)]) [0,1],
 oN 65 (.mv (.t 64)) [2,2],
 oG 66 (.ld 1 false (.t 6)) [3] 65 false,
 oG 67 (.call 22 [(.t 66)]) [4,3,3] 65 false,
 oG 68 (.un .not (.t 67)) [5,3] 65 false,
 oN 69 (.pick (.t 65) (cB true) (.t 68)) [3,6],
 oN 70 (.mv (.t 69)) [7,5],
 oG 71 (.mv (.t 8)) [8] 70 false,
 oG 72 (.call 22 [(.t 71)]) [9,8,8] 70 false,
 oG 73 (.un .not (.t 72)) [10,8] 70 false,
 oN 74 (.pick (.t 70) (cB true) (.t 73)) [8,11]])
 (.cond (.t 74)
 (.seq (.reg [
 oN 2 (.mv (cB false)) []])
 .ret)
 .skip))
 (.seq (.seq (.reg [
 oN 75 (.ld 1 false (.t 6)) [],
 oN 76 (.len (.t 75)) [0],
 oN 77 (.mv (cI 0)) []])
 (.block 2
 (.loop
 (.seq (.reg [
 oN 78 (.bin .lss (.t 77) (.t 76)) []])
 (.seq (.cond (.t 78)
 .skip
 (.exit 2))
 (.seq (.block 3
 (.seq (.reg [
 oN 79 (.ia 1 (.t 75) (.t 77)) [],
 oN 80 (.ld 1 false (.t 79)) [0],
 oN 11 (.mv (.t 80)) [1,0,1]])
 (.seq (.reg [
 oN 81 (.fa 0 (.t 5)) [],
 oN 82 (.ld 1 false (.t 81)) [0],
 oN 83 (.bin .eql (.t 82) (cI 0)) [1],
 oN 84 (.mv (.t 83)) [2],
 oG 85 (.mv (.t 11)) [3] 84 true,
 oG 86 (.fa 3 (.t 5)) [3] 84 true,
 oG 87 (.ld 1 false (.t 86)) [5,3] 84 true,
 oG 88 (.bin .gtr (.t 85) (.t 87)) [4,6,3] 84 true,
 oN 89 (.pick (.t 84) (.t 88) (cB false)) [3,7],
 oN 90 (.mv (.t 89)) [8,3],
 oG 91 (.fa 0 (.t 5)) [9] 90 false,
 oG 92 (.ld 1 false (.t 91)) [10,9] 90 false,
 oG 93 (.bin .eql (.t 92) (cI 7)) [11,9] 90 false,
 oG 94 (.mv (.t 93)) [12,9,9] 90 false,
 oG 95 (.mv (.t 3)) [13] 94 true,
 oG 96 (.mv (.t 11)) [13] 94 true,
 oG 97 (.call 15 [(.t 95), (.t 96)]) [14,15,13,13] 94 true,
 oG 98 (.un .not (.t 97)) [16,13] 94 true,
 oG 99 (.pick (.t 94) (.t 98) (cB false)) [13,17,9] 90 false,
 oN 100 (.pick (.t 90) (cB true) (.t 99)) [9,18]])
 (.cond (.t 100)
 (.seq (.reg [
 oN 2 (.mv (cB false)) []])
 .ret)
 .skip))))
 (.reg [
 oN 101 (.bin .add (.t 77) (cI 1)) [],
 oN 77 (.mv (.t 101)) [0]])))))))
 (.seq (.reg [
 oN 102 (.fa 0 (.t 5)) [],
 oN 103 (.ld 1 false (.t 102)) [0],
 oN 104 (.bin .eql (.t 103) (cI 0)) [1],
 oN 105 (.mv (.t 104)) [2],
 oG 106 (.fa 0 (.t 5)) [3] 105 false,
 oG 107 (.ld 1 false (.t 106)) [4,3] 105 false,
 oG 108 (.bin .eql (.t 107) (cI 5)) [5,3] 105 false,
 oN 109 (.pick (.t 105) (cB true) (.t 108)) [3,6],
 oN 110 (.mv (.t 109)) [7,3],
 oG 111 (.mv (.t 7)) [8] 110 true,
 oG 112 (.bin .neq (.t 111) (cI 0)) [9,8] 110 true,
 oG 113 (.mv (.t 112)) [10,8,8] 110 true,
 oG 114 (.mv (.t 8)) [11] 113 false,
 oG 115 (.fa 3 (.t 5)) [11] 113 false,
 oG 116 (.ld 1 false (.t 115)) [13,11] 113 false,
 oG 117 (.call 15 [(.t 114), (.t 116)]) [12,14,11,11] 113 false,
 oG 118 (.un .not (.t 117)) [15,11] 113 false,
 oG 119 (.pick (.t 113) (cB true) (.t 118)) [11,16,8] 110 true,
 oN 120 (.pick (.t 110) (.t 119) (cB false)) [8,17]])
 (.cond (.t 120)
 (.seq (.reg [
 oN 2 (.mv (cB false)) []])
 .ret)
 .skip)))))))))
 (.reg [
 oN 121 (.bin .add (.t 26) (cI 1)) [],
 oN 26 (.mv (.t 121)) [0]])))))))
 (.seq (.reg [
 oN 122 (.call 11 []) [],
 oN 2 (.mv (.t 122)) [0,0,0]])
 .ret)))))
theorem Trydp5 : (Tryd.f5.body.map (prep Tryd.prog 123)) = some Trydc5 := by kernel_rfl
def Trydc6 : ACode :=
 (.seq (.reg [
 oN 1 (.box (.t 0)) [],
 oN 2 (.mv (cB false)) []])
 (.seq (.reg [
 oN 23 (.ld 14 true (.t 1)) [],
 oN 24 (.call 7 [(.t 23)]) [0],
 oN 22 (.mv (.t 24)) [1],
 oN 25 (.ext (.t 22) 0) [2],
 oN 26 (.ext (.t 22) 1) [2],
 oN 3 (.mv (.t 25)) [3,1,0,1,2,3],
 oN 4 (.mv (.t 26)) [4,5,0,1,2,3,4,5]])
 (.seq (.reg [
 oN 28 (.ld 14 true (.t 1)) [],
 oN 29 (.call 23 [(.t 28)]) [0],
 oN 27 (.mv (.t 29)) [1],
 oN 30 (.ext (.t 27) 0) [2],
 oN 31 (.ext (.t 27) 1) [2],
 oN 32 (.ext (.t 27) 2) [2],
 oN 5 (.mv (.t 30)) [3,1,0,1,2,3],
 oN 6 (.mv (.t 31)) [4,6,0,1,2,3,4,6],
 oN 7 (.mv (.t 32)) [5,7,0,1,2,3,4,5,6,7]])
 (.seq (.seq (.reg [
 oN 33 (.ld 14 true (.t 1)) [],
 oN 34 (.call 8 [(.t 33)]) [0],
 oN 35 (.un .not (.t 34)) [1],
 oN 36 (.mv (.t 35)) [2,1],
 oG 37 (.mv (.t 3)) [3] 36 false,
 oG 38 (.bin .add (.t 37) (cI 2)) [4,3] 36 false,
 oG 39 (.bin .gtr (.t 38) (cI 64)) [5,3] 36 false,
 oN 40 (.pick (.t 36) (cB true) (.t 39)) [3,6],
 oN 41 (.mv (.t 40)) [7,3],
 oG 42 (.mv (.t 4)) [8] 41 false,
 oG 43 (.bin .geq (.t 42) (cI 12)) [9,8] 41 false,
 oN 44 (.pick (.t 41) (cB true) (.t 43)) [8,10],
 oN 45 (.mv (.t 44)) [11,8],
 oG 46 (.mv (.t 7)) [12] 45 false,
 oG 47 (.bin .neq (.t 46) (cI 0)) [13,12] 45 false,
 oN 48 (.pick (.t 45) (cB true) (.t 47)) [12,14],
 oN 49 (.mv (.t 48)) [15,12],
 oG 50 (.mv (.t 5)) [16] 49 false,
 oG 51 (.bin .geq (.t 50) (cI 16)) [17,16] 49 false,
 oN 52 (.pick (.t 49) (cB true) (.t 51)) [16,18]])
 (.cond (.t 52)
 (.seq (.reg [
 oN 53 (.call 11 []) [],
 oN 2 (.mv (.t 53)) [0,0,0]])
 .ret)
 .skip))
 (.seq (.reg [
 oN 54 (.mkslice 1 8 (vI 0) (cI 16) (cI 16)) [],
 oN 8 (.mv (.t 54)) [0,0]])
 (.seq (.seq (.reg [
 oN 55 (.mv (.t 5)) [],
 oN 56 (.mv (cI 0)) []])
 (.block 0
 (.loop
 (.seq (.reg [
 oN 57 (.bin .lss (.t 56) (.t 55)) []])
 (.seq (.cond (.t 57)
 .skip
 (.exit 0))
 (.seq (.block 1
 (.seq (.reg [
 oN 58 (.mv (.t 56)) [],
 oN 9 (.mv (.t 58)) [0,0]])
 (.reg [
 oN 59 (.mv (.t 8)) [],
 oN 60 (.mv (.t 9)) [],
 oN 61 (.mv (.t 9)) [],
 oN 62 (.bin .add (.t 61) (cI 1)) [2],
 oN 63 (.ia 1 (.t 59) (.t 60)) [0,1,0,1,2,3],
 eN (.st 1 (.t 63) (.t 62)) [4,3,0,1,2,3]])))
 (.reg [
 oN 64 (.bin .add (.t 56) (cI 1)) [],
 oN 56 (.mv (.t 64)) [0]])))))))
 (.seq (.reg [
 oN 66 (.ld 14 true (.t 1)) [],
 oN 67 (.mv (.t 8)) [],
 oN 68 (.call 24 [(.t 66), (.t 67)]) [0,1],
 oN 65 (.mv (.t 68)) [2],
 oN 69 (.ext (.t 65) 0) [3],
 oN 70 (.ext (.t 65) 1) [3],
 oN 10 (.box (.c (.agg zP))) [],
 eN (.st 14 (.t 10) (.t 69)) [6,4,2,0,1,2,3,4,6],
 oN 11 (.mv (.t 70)) [5,7,0,1,2,3,4,5,6,7]])
 (.seq (.seq (.reg [
 oN 71 (.mv (.t 11)) [],
 oN 72 (.bin .neq (.t 71) (cI 0)) [0]])
 (.cond (.t 72)
 (.seq (.reg [
 oN 2 (.mv (cB false)) []])
 .ret)
 .skip))
 (.seq (.draw [
 oN 73 (.call 25 []) [],
 oN 74 (.build zP [(6, 8, (.t 73))]) [0],
 oN 75 (.ld 14 true (.t 10)) [],
 oN 76 (.bslice 14 [(.t 74), (.t 75)]) [1,2],
 oN 77 (.build zP [(0, 1, (cI 1)), (1, 1, (.t 76))]) [3],
 oN 12 (.box (.c (.agg zP))) [],
 eN (.st 14 (.t 12) (.t 77)) [5,4,0,0,1,2,3,4,5]])
 (.seq (.seq (.reg [
 oN 78 (.mv (.t 3)) [],
 oN 79 (.mv (cI 0)) []])
 (.block 2
 (.loop
 (.seq (.reg [
 oN 80 (.bin .lss (.t 79) (.t 78)) []])
 (.seq (.cond (.t 80)
 .skip
 (.exit 2))
 (.seq (.block 3
 (.seq (.reg [
 oN 81 (.mv (.t 79)) [],
 oN 13 (.mv (.t 81)) [0,0]])
 (.seq (.reg [
 oN 83 (.ld 14 true (.t 1)) [],
 oN 84 (.mv (.t 13)) [],
 oN 85 (.call 18 [(.t 83), (.t 84)]) [0,1],
 oN 82 (.mv (.t 85)) [2],
 oN 86 (.ext (.t 82) 0) [3],
 oN 87 (.ext (.t 82) 1) [3],
 oN 14 (.mv (.t 86)) [4,2,0,1,2,3,4],
 oN 15 (.mv (.t 87)) [5,6,0,1,2,3,4,5,6]])
 (.seq (.reg [
 oN 89 (.ld 14 true (.t 12)) [],
 oN 90 (.mv (.t 13)) [],
 oN 91 (.bin .add (.t 90) (cI 2)) [1],
 oN 92 (.call 18 [(.t 89), (.t 91)]) [0,2],
 oN 88 (.mv (.t 92)) [3],
 oN 93 (.ext (.t 88) 0) [4],
 oN 94 (.ext (.t 88) 1) [4],
 oN 16 (.mv (.t 93)) [5,3,0,1,2,3,4,5],
 oN 17 (.mv (.t 94)) [6,7,0,1,2,3,4,5,6,7]])
 (.seq (.reg [
 oN 96 (.ld 14 true (.t 1)) [],
 oN 97 (.mv (.t 13)) [],
 oN 98 (.call 19 [(.t 96), (.t 97)]) [0,1],
 oN 95 (.mv (.t 98)) [2],
 oN 99 (.ext (.t 95) 0) [3],
 oN 100 (.ext (.t 95) 1) [3],
 oN 18 (.mv (.t 99)) [4,2,0,1,2,3,4],
 oN 19 (.mv (.t 100)) [5,6,0,1,2,3,4,5,6]])
 (.seq (.reg [
 oN 102 (.ld 14 true (.t 12)) [],
 oN 103 (.mv (.t 13)) [],
 oN 104 (.bin .add (.t 103) (cI 2)) [1],
 oN 105 (.call 19 [(.t 102), (.t 104)]) [0,2],
 oN 101 (.mv (.t 105)) [3],
 oN 106 (.ext (.t 101) 0) [4],
 oN 107 (.ext (.t 101) 1) [4],
 oN 20 (.mv (.t 106)) [5,3,0,1,2,3,4,5],
 oN 21 (.mv (.t 107)) [6,7,0,1,2,3,4,5,6,7]])
 (.seq (.reg [
 oN 108 (.mv (.t 15)) [],
 oN 109 (.mv (.t 17)) [],
 oN 110 (.bin .neq (.t 108) (.t 109)) [0,1],
 oN 111 (.mv (.t 110)) [2],
 oG 112 (.mv (.t 19)) [3] 111 false,
 oG 113 (.mv (.t 21)) [3] 111 false,
 oG 114 (.bin .neq (.t 112) (.t 113)) [4,5,3] 111 false,
 oN 115 (.pick (.t 111) (cB true) (.t 114)) [3,6],
 oN 116 (.mv (.t 115)) [7,3],
 oG 117 (.mv (.t 15)) [8] 116 false,
 oG 118 (.bin .eql (.t 117) (cI 0)) [9,8] 116 false,
 oG 119 (.mv (.t 118)) [10,8,8] 116 false,
 oG 120 (.mv (.t 16)) [11] 119 true,
 oG 121 (.mv (.t 14)) [11] 119 true,
 oG 122 (.call 27 [(.t 121)]) [13,11,11] 119 true,
 oG 123 (.call 26 [(.t 120), (.t 122)]) [12,14,14,11] 119 true,
 oG 124 (.un .not (.t 123)) [15,11] 119 true,
 oG 125 (.mv (.t 124)) [16,15,11] 119 true,
 oG 126 (.mv (.t 20)) [17] 125 false,
 oG 127 (.mv (.t 18)) [17] 125 false,
 oG 128 (.call 27 [(.t 127)]) [19,17,17] 125 false,
 oG 129 (.call 26 [(.t 126), (.t 128)]) [18,20,20,17] 125 false,
 oG 130 (.un .not (.t 129)) [21,17] 125 false,
 oG 131 (.pick (.t 125) (cB true) (.t 130)) [17,22,11] 119 true,
 oG 132 (.pick (.t 119) (.t 131) (cB false)) [11,23,8] 116 false,
 oN 133 (.pick (.t 116) (cB true) (.t 132)) [8,24]])
 (.cond (.t 133)
 (.seq (.reg [
 oN 2 (.mv (cB false)) []])
 .ret)
 .skip))))))))
 (.reg [
 oN 134 (.bin .add (.t 79) (cI 1)) [],
 oN 79 (.mv (.t 134)) [0]])))))))
 (.seq (.reg [
 oN 135 (.call 11 []) [],
 oN 2 (.mv (.t 135)) [0,0,0]])
 .ret)))))))))))
theorem Trydp6 : (Tryd.f6.body.map (prep Tryd.prog 136)) = some Trydc6 := by kernel_rfl
def Trydc7 : ACode :=
 (.seq (.reg [
 oN 1 (.box (.t 0)) [],
 oN 2 (.mv (cI 0)) [],
 oN 3 (.mv (cI 0)) [1]])
 (.seq (.reg [
 oN 4 (.mv (cI 1)) [],
 oN 5 (.mv (cI 0)) [0,0]])
 (.seq (.seq (.reg [
 oN 10 (.fa 1 (.t 1)) [],
 oN 11 (.ld 1 false (.t 10)) [0],
 oN 12 (.len (.t 11)) [1],
 oN 13 (.mv (cI 0)) []])
 (.block 0
 (.loop
 (.seq (.reg [
 oN 14 (.bin .lss (.t 13) (.t 12)) []])
 (.seq (.cond (.t 14)
 .skip
 (.exit 0))
 (.seq (.block 1
 (.seq (.reg [
 oN 15 (.ia 14 (.t 11) (.t 13)) [],
 oN 16 (.ld 14 true (.t 15)) [0],
 oN 7 (.box (.c (.agg zP))) [],
 eN (.st 14 (.t 7) (.t 16)) [2,1,0,1,2]])
 (.seq (.reg [
 oN 18 (.ld 14 true (.t 7)) [],
 oN 19 (.call 7 [(.t 18)]) [0],
 oN 17 (.mv (.t 19)) [1],
 oN 20 (.ext (.t 17) 0) [2],
 oN 21 (.ext (.t 17) 1) [2],
 oN 8 (.mv (.t 20)) [3,1,0,1,2,3],
 oN 9 (.mv (.t 21)) [4,5,0,1,2,3,4,5]])
 (.reg [
 oN 22 (.mv (.t 4)) [],
 oN 23 (.mv (.t 8)) [],
 oN 24 (.bin .add (.t 22) (.t 23)) [0,1],
 oN 25 (.mv (.t 5)) [],
 oN 26 (.mv (.t 9)) [],
 oN 27 (.mx [(.t 25), (.t 26)]) [3,4],
 oN 4 (.mv (.t 24)) [2,0,1,2],
 oN 5 (.mv (.t 27)) [5,6,0,1,2,3,4,5,6]]))))
 (.reg [
 oN 28 (.bin .add (.t 13) (cI 1)) [],
 oN 13 (.mv (.t 28)) [0]])))))))
 (.seq (.reg [
 oN 29 (.mv (.t 4)) [],
 oN 30 (.mv (.t 5)) [],
 oN 31 (.bin .add (.t 30) (cI 1)) [1],
 oN 2 (.mv (.t 29)) [0,0],
 oN 3 (.mv (.t 31)) [2,3,0,1,2,3]])
 .ret))))
theorem Trydp7 : (Tryd.f7.body.map (prep Tryd.prog 32)) = some Trydc7 := by kernel_rfl
def Trydc8 : ACode :=
 (.seq (.reg [
 oN 1 (.box (.t 0)) [],
 oN 2 (.mv (cB false)) []])
 (.seq (.reg [
 oN 3 (.ld 14 true (.t 1)) [],
 oN 4 (.call 28 [(.t 3)]) [0],
 oN 2 (.mv (.t 4)) [1,1,0,1]])
 .ret))
theorem Trydp8 : (Tryd.f8.body.map (prep Tryd.prog 5)) = some Trydc8 := by kernel_rfl
def Trydc9 : ACode :=
 (.seq (.reg [
 oN 1 (.box (.t 0)) [],
 oN 2 (.mv (cB false)) []])
 (.seq (.reg [
 oN 3 (.ld 8 true (.t 1)) [],
 oN 4 (.call 29 [(.t 3), (cI 200)]) [0],
 oN 5 (.bin .leq (.t 4) (cI 200)) [1],
 oN 6 (.mv (.t 5)) [2,1],
 oG 7 (.ld 8 true (.t 1)) [3] 6 true,
 oG 8 (.call 30 [(.t 7)]) [4,3,3] 6 true,
 oG 9 (.bin .leq (.t 8) (cI 100)) [5,3] 6 true,
 oN 10 (.pick (.t 6) (.t 9) (cB false)) [3,6],
 oN 2 (.mv (.t 10)) [7,5,0,1,2,3,4,5,6,7]])
 .ret))
theorem Trydp9 : (Tryd.f9.body.map (prep Tryd.prog 11)) = some Trydc9 := by kernel_rfl
def Trydc10 : ACode :=
 (.seq (.reg [
 oN 1 (.box (.t 0)) [],
 oN 2 (.mv (cI 0)) []])
 (.seq (.seq (.reg [
 oN 3 (.ld 8 true (.t 1)) [],
 oN 4 (.call 29 [(.t 3), (cI 64)]) [0],
 oN 5 (.bin .gtr (.t 4) (cI 64)) [1]])
 (.cond (.t 5)
 (.seq (.reg [
 oN 2 (.mv (cI 5)) []])
 .ret)
 .skip))
 (.seq (.seq (.reg [
 oN 6 (.ld 8 true (.t 1)) [],
 oN 7 (.call 30 [(.t 6)]) [0],
 oN 8 (.bin .gtr (.t 7) (cI 12)) [1]])
 (.cond (.t 8)
 (.seq (.reg [
 oN 2 (.mv (cI 12)) []])
 .ret)
 .skip))
 (.seq (.reg [
 oN 9 (.ld 8 true (.t 1)) [],
 oN 10 (.call 31 [(.t 9)]) [0],
 oN 2 (.mv (.t 10)) [1,1,0,1]])
 .ret))))
theorem Trydp10 : (Tryd.f10.body.map (prep Tryd.prog 11)) = some Trydc10 := by kernel_rfl
def Trydc11 : ACode :=
 (.seq (.reg [
 oN 0 (.mv (cB false)) []])
 (.seq (.reg [
 oN 18 (.call 25 []) [],
 oN 19 (.call 25 []) [0],
 oN 20 (.call 32 [(.t 18), (.t 19)]) [0,1,1],
 oN 1 (.box (.c (.agg zP))) [],
 eN (.st 14 (.t 1) (.t 20)) [3,2,2,0,1,2,3]])
 (.seq (.reg [
 oN 22 (.ld 14 true (.t 1)) [],
 oN 23 (.call 18 [(.t 22), (cI 4)]) [0],
 oN 21 (.mv (.t 23)) [1],
 oN 24 (.ext (.t 21) 0) [2],
 oN 25 (.ext (.t 21) 1) [2],
 oN 2 (.mv (.t 24)) [3,1,0,1,2,3],
 oN 3 (.mv (.t 25)) [4,5,0,1,2,3,4,5]])
 (.seq (.reg [
 oN 27 (.ld 14 true (.t 1)) [],
 oN 28 (.call 19 [(.t 27), (cI 4)]) [0],
 oN 26 (.mv (.t 28)) [1],
 oN 29 (.ext (.t 26) 0) [2],
 oN 30 (.ext (.t 26) 1) [2],
 oN 4 (.mv (.t 29)) [3,1,0,1,2,3],
 oN 5 (.mv (.t 30)) [4,5,0,1,2,3,4,5]])
 (.seq (.reg [
 oN 32 (.ld 14 true (.t 1)) [],
 oN 33 (.call 19 [(.t 32), (cI 3)]) [0],
 oN 31 (.mv (.t 33)) [1],
 oN 34 (.ext (.t 31) 0) [2],
 oN 35 (.ext (.t 31) 1) [2],
 oN 6 (.mv (.t 34)) [3,1,0,1,2,3],
 oN 7 (.mv (.t 35)) [4,5,0,1,2,3,4,5]])
 (.seq (.reg [
 oN 36 (.build zE [(0, 1, (cI 1)), (2, 1, (cI 1))]) [],
 oN 37 (.build zE [(0, 1, (cI 3)), (2, 1, (cI 1))]) [],
 oN 8 (.box (.c (.agg zE))) [],
 oN 9 (.box (.c (.agg zE))) [],
 eN (.st 8 (.t 8) (.t 36)) [2,0,0,2,3],
 eN (.st 8 (.t 9) (.t 37)) [3,1,4,0,1,2,3,4]])
 (.seq (.draw [
 oN 39 (.call 25 []) [],
 oN 40 (.ld 8 true (.t 8)) [],
 oN 41 (.call 33 [(.t 40)]) [1,0],
 oN 42 (.call 32 [(.t 39), (.t 41)]) [0,2,2],
 oN 43 (.call 12 [(.t 42)]) [3,3],
 oN 38 (.mv (.t 43)) [4],
 oN 44 (.ext (.t 38) 0) [5],
 oN 45 (.ext (.t 38) 1) [5],
 oN 10 (.mv (.t 44)) [6,4,0,1,2,3,4,5,6],
 oN 11 (.mv (.t 45)) [7,8,0,1,2,3,4,5,6,7,8]])
 (.seq (.reg [
 oN 47 (.build zE [(0, 1, (cI 1)), (2, 1, (cI 2))]) [],
 oN 48 (.call 33 [(.t 47)]) [0],
 oN 49 (.call 25 []) [1],
 oN 50 (.call 32 [(.t 48), (.t 49)]) [1,2,2],
 oN 51 (.call 12 [(.t 50)]) [3,3],
 oN 46 (.mv (.t 51)) [4],
 oN 52 (.ext (.t 46) 0) [5],
 oN 53 (.ext (.t 46) 1) [5],
 oN 12 (.mv (.t 52)) [6,4,0,1,2,3,4,5,6],
 oN 13 (.mv (.t 53)) [7,8,0,1,2,3,4,5,6,7,8]])
 (.seq (.draw [
 oN 55 (.call 25 []) [],
 oN 56 (.ld 8 true (.t 9)) [],
 oN 57 (.call 33 [(.t 56)]) [1,0],
 oN 58 (.call 32 [(.t 55), (.t 57)]) [0,2,2],
 oN 59 (.call 12 [(.t 58)]) [3,3],
 oN 54 (.mv (.t 59)) [4],
 oN 60 (.ext (.t 54) 0) [5],
 oN 61 (.ext (.t 54) 1) [5],
 oN 14 (.mv (.t 60)) [6,4,0,1,2,3,4,5,6],
 oN 15 (.mv (.t 61)) [7,8,0,1,2,3,4,5,6,7,8]])
 (.seq (.reg [
 oN 63 (.ld 14 true (.t 1)) [],
 oN 64 (.build zE [(0, 1, (cI 1))]) [],
 oN 65 (.ld 8 true (.t 9)) [],
 oN 66 (.build zE [(0, 1, (cI 2)), (2, 1, (cI 1))]) [],
 oN 67 (.bslice 8 [(.t 64), (.t 65), (.t 66)]) [1,2,3],
 oN 68 (.call 13 [(.t 63), (.t 67)]) [0,4],
 oN 62 (.mv (.t 68)) [5],
 oN 69 (.ext (.t 62) 0) [6],
 oN 70 (.ext (.t 62) 1) [6],
 oN 16 (.mv (.t 69)) [7,5,0,1,2,3,4,5,6,7],
 oN 17 (.mv (.t 70)) [8,9,0,1,2,3,4,5,6,7,8,9]])
 (.seq (.seq (.reg [
 oN 71 (.mv (.t 3)) [],
 oN 72 (.bin .neq (.t 71) (cI 0)) [0],
 oN 73 (.mv (.t 72)) [1],
 oG 74 (.mv (.t 5)) [2] 73 false,
 oG 75 (.bin .neq (.t 74) (cI 0)) [3,2] 73 false,
 oN 76 (.pick (.t 73) (cB true) (.t 75)) [2,4],
 oN 77 (.mv (.t 76)) [5,2],
 oG 78 (.mv (.t 7)) [6] 77 false,
 oG 79 (.bin .neq (.t 78) (cI 0)) [7,6] 77 false,
 oN 80 (.pick (.t 77) (cB true) (.t 79)) [6,8],
 oN 81 (.mv (.t 80)) [9,6],
 oG 82 (.mv (.t 11)) [10] 81 false,
 oG 83 (.bin .neq (.t 82) (cI 11)) [11,10] 81 false,
 oN 84 (.pick (.t 81) (cB true) (.t 83)) [10,12],
 oN 85 (.mv (.t 84)) [13,10],
 oG 86 (.mv (.t 13)) [14] 85 false,
 oG 87 (.bin .neq (.t 86) (cI 10)) [15,14] 85 false,
 oN 88 (.pick (.t 85) (cB true) (.t 87)) [14,16],
 oN 89 (.mv (.t 88)) [17,14],
 oG 90 (.mv (.t 15)) [18] 89 false,
 oG 91 (.bin .neq (.t 90) (cI 0)) [19,18] 89 false,
 oN 92 (.pick (.t 89) (cB true) (.t 91)) [18,20],
 oN 93 (.mv (.t 92)) [21,18],
 oG 94 (.mv (.t 17)) [22] 93 false,
 oG 95 (.bin .neq (.t 94) (cI 11)) [23,22] 93 false,
 oN 96 (.pick (.t 93) (cB true) (.t 95)) [22,24]])
 (.cond (.t 96)
 (.seq (.reg [
 oN 0 (.mv (cB false)) []])
 .ret)
 .skip))
 (.seq (.reg [
 oN 97 (.mv (.t 2)) [],
 oN 98 (.bslice 1 [(cI 0), (cI 1), (cI 2)]) [],
 oN 99 (.call 26 [(.t 97), (.t 98)]) [0,1],
 oN 100 (.mv (.t 99)) [2,2],
 oG 101 (.mv (.t 4)) [3] 100 true,
 oG 102 (.bslice 1 [(cI 0), (cI 2)]) [3] 100 true,
 oG 103 (.call 26 [(.t 101), (.t 102)]) [4,5,3,3] 100 true,
 oN 104 (.pick (.t 100) (.t 103) (cB false)) [3,6],
 oN 105 (.mv (.t 104)) [7,6],
 oG 106 (.mv (.t 6)) [8] 105 true,
 oG 107 (.bslice 1 [(cI 0), (cI 1)]) [8] 105 true,
 oG 108 (.call 26 [(.t 106), (.t 107)]) [9,10,8,8] 105 true,
 oN 109 (.pick (.t 105) (.t 108) (cB false)) [8,11],
 oN 110 (.mv (.t 109)) [12,11],
 oG 111 (.mv (.t 10)) [13] 110 true,
 oG 112 (.bin .eql (.t 111) (cI 4)) [14,13] 110 true,
 oN 113 (.pick (.t 110) (.t 112) (cB false)) [13,15],
 oN 114 (.mv (.t 113)) [16,13],
 oG 115 (.mv (.t 12)) [17] 114 true,
 oG 116 (.bin .eql (.t 115) (cI 1)) [18,17] 114 true,
 oN 117 (.pick (.t 114) (.t 116) (cB false)) [17,19],
 oN 118 (.mv (.t 117)) [20,17],
 oG 119 (.mv (.t 16)) [21] 118 true,
 oG 120 (.bin .eql (.t 119) (cI 2)) [22,21] 118 true,
 oN 121 (.pick (.t 118) (.t 120) (cB false)) [21,23],
 oN 0 (.mv (.t 121)) [24,21,0,1,2,3,4,5,6,7,8,9,10,11,12,13,14,15,16,17,18,19,20,21,22,23,24]])
 .ret))))))))))))
theorem Trydp11 : (Tryd.f11.body.map (prep Tryd.prog 122)) = some Trydc11 := by kernel_rfl
def Trydc12 : ACode :=
 (.seq (.reg [
 oN 1 (.box (.t 0)) [],
 oN 2 (.mv (cI 0)) [],
 oN 3 (.mv (cI 0)) [1]])
 (.seq (.seq (.reg [
 oN 7 (.ld 14 true (.t 1)) [],
 oN 8 (.call 14 [(.t 7)]) [0],
 oN 4 (.mv (.t 8)) [1,1,0,1]])
 (.seq (.reg [
 oN 9 (.mv (.t 4)) [],
 oN 10 (.bin .neq (.t 9) (cI 0)) [0]])
 (.cond (.t 10)
 (.seq (.reg [
 oN 11 (.mv (.t 4)) [],
 oN 2 (.mv (cI 0)) [],
 oN 3 (.mv (.t 11)) [0,1,0,1]])
 .ret)
 .skip)))
 (.seq (.reg [
 oN 5 (.box (cI 0)) [],
 oN 6 (.box (cI 0)) [],
 eN (.st 1 (.t 5) (cI 0)) [0,0,1],
 eN (.st 1 (.t 6) (cI 0)) [1,2,0,1,2]])
 (.seq (.reg [
 oN 12 (.ld 14 true (.t 1)) [],
 oN 13 (.mkfn 35 [(.t 6), (.t 5)]) [],
 oN 14 (.call 34 [(.t 12), (.t 13)]) [0,1]])
 (.seq (.draw [
 oN 15 (.ld 1 false (.t 5)) [],
 oN 16 (.ld 1 false (.t 6)) [],
 oN 2 (.mv (.t 15)) [0,0],
 oN 3 (.mv (.t 16)) [1,2,0,1,2]])
 .ret)))))
theorem Trydp12 : (Tryd.f12.body.map (prep Tryd.prog 17)) = some Trydc12 := by kernel_rfl
def Trydc13 : ACode :=
 (.seq (.reg [
 oN 2 (.box (.t 0)) [],
 oN 4 (.mv (cI 0)) [],
 oN 5 (.mv (cI 0)) [1]])
 (.seq (.seq (.reg [
 oN 11 (.ld 14 true (.t 2)) [],
 oN 12 (.call 14 [(.t 11)]) [0],
 oN 6 (.mv (.t 12)) [1,1,0,1]])
 (.seq (.reg [
 oN 13 (.mv (.t 6)) [],
 oN 14 (.bin .neq (.t 13) (cI 0)) [0]])
 (.cond (.t 14)
 (.seq (.reg [
 oN 15 (.mv (.t 6)) [],
 oN 4 (.mv (cI 0)) [],
 oN 5 (.mv (.t 15)) [0,1,0,1]])
 .ret)
 .skip)))
 (.seq (.seq (.reg [
 oN 16 (.mv (.t 1)) [],
 oN 17 (.len (.t 16)) [0],
 oN 18 (.bin .gtr (.t 17) (cI 256)) [1]])
 (.cond (.t 18)
 (.seq (.reg [
 oN 4 (.mv (cI 0)) [],
 oN 5 (.mv (cI 5)) [0,0]])
 .ret)
 .skip))
 (.seq (.draw [
 oN 19 (.ld 14 true (.t 2)) [],
 oN 20 (.call 16 [(.t 19)]) [0],
 oN 21 (.ld 14 true (.t 2)) [],
 oN 22 (.call 38 [(.t 21)]) [2,1],
 oN 23 (.build [vN, vN, (vI 0)] [(0, 1, (.t 20)), (1, 1, (.t 22)), (2, 1, (cI (-1)))]) [1,3],
 oN 7 (.box (.c (.agg [vN, vN, (vI 0)]))) [],
 eN (.st 3 (.t 7) (.t 23)) [5,4,3,0,1,2,3,4,5]])
 (.seq (.seq (.reg [
 oN 24 (.mv (.t 1)) [],
 oN 25 (.len (.t 24)) [0],
 oN 26 (.mv (cI 0)) []])
 (.block 0
 (.loop
 (.seq (.reg [
 oN 27 (.bin .lss (.t 26) (.t 25)) []])
 (.seq (.cond (.t 27)
 .skip
 (.exit 0))
 (.seq (.block 1
 (.seq (.reg [
 oN 28 (.mv (.t 26)) [],
 oN 29 (.ia 8 (.t 24) (.t 26)) [],
 oN 30 (.ld 8 true (.t 29)) [1],
 oN 9 (.box (.c (.agg zE))) [],
 oN 8 (.mv (.t 28)) [0,0,1,2,3],
 eN (.st 8 (.t 9) (.t 30)) [3,2,4,0,1,2,3,4]])
 (.seq (.reg [
 oN 31 (.ld 8 true (.t 9)) [],
 oN 32 (.call 39 [(.t 31)]) [0],
 oN 10 (.mv (.t 32)) [1,1,0,1]])
 (.seq (.seq (.reg [
 oN 33 (.mv (.t 10)) [],
 oN 34 (.bin .eql (.t 33) (cI 0)) [0]])
 (.cond (.t 34)
 (.reg [
 oN 35 (.ld 8 true (.t 9)) [],
 oN 36 (.ld 3 true (.t 7)) [],
 oN 37 (.call 36 [(.t 35), (.t 36)]) [0,1],
 oN 10 (.mv (.t 37)) [2,2,0,1,2]])
 .skip))
 (.seq (.reg [
 oN 38 (.mv (.t 10)) [],
 oN 39 (.bin .neq (.t 38) (cI 0)) [0]])
 (.cond (.t 39)
 (.seq (.reg [
 oN 40 (.mv (.t 8)) [],
 oN 41 (.mv (.t 10)) [],
 oN 4 (.mv (.t 40)) [0,0],
 oN 5 (.mv (.t 41)) [1,2,0,1,2]])
 .ret)
 .skip))))))
 (.reg [
 oN 42 (.bin .add (.t 26) (cI 1)) [],
 oN 26 (.mv (.t 42)) [0]])))))))
 (.seq (.reg [
 oN 4 (.mv (cI 0)) [],
 oN 5 (.mv (cI 0)) [0,0]])
 .ret))))))
theorem Trydp13 : (Tryd.f13.body.map (prep Tryd.prog 43)) = some Trydc13 := by kernel_rfl
def Trydc14 : ACode :=
 (.seq (.reg [
 oN 1 (.box (.t 0)) [],
 oN 2 (.mv (cI 0)) []])
 (.seq (.seq (.reg [
 oN 7 (.ld 14 true (.t 1)) [],
 oN 8 (.call 40 [(.t 7)]) [0],
 oN 3 (.mv (.t 8)) [1,1,0,1]])
 (.seq (.reg [
 oN 9 (.mv (.t 3)) [],
 oN 10 (.bin .neq (.t 9) (cI 0)) [0]])
 (.cond (.t 10)
 (.seq (.reg [
 oN 11 (.mv (.t 3)) [],
 oN 2 (.mv (.t 11)) [0,0]])
 .ret)
 .skip)))
 (.seq (.seq (.reg [
 oN 13 (.ld 14 true (.t 1)) [],
 oN 14 (.call 41 [(.t 13)]) [0],
 oN 12 (.mv (.t 14)) [1],
 oN 15 (.ext (.t 12) 0) [2],
 oN 16 (.ext (.t 12) 1) [2],
 oN 17 (.ext (.t 12) 2) [2],
 oN 4 (.mv (.t 15)) [3,1,0,1,2,3],
 oN 5 (.mv (.t 16)) [4,6,0,1,2,3,4,6],
 oN 6 (.mv (.t 17)) [5,7,0,1,2,3,4,5,6,7]])
 (.seq (.reg [
 oN 18 (.mv (.t 6)) [],
 oN 19 (.un .not (.t 18)) [0]])
 (.cond (.t 19)
 (.seq (.reg [
 oN 2 (.mv (cI 14)) []])
 .ret)
 .skip)))
 (.seq (.reg [
 oN 2 (.mv (cI 0)) []])
 .ret))))
theorem Trydp14 : (Tryd.f14.body.map (prep Tryd.prog 20)) = some Trydc14 := by kernel_rfl
def Trydc15 : ACode :=
 (.seq (.reg [
 oN 4 (.mv (cB false)) []])
 (.seq (.reg [
 oN 5 (.mv (.t 0)) [],
 oN 6 (.mv (.t 1)) [],
 oN 7 (.call 42 [(.t 5), (.t 6)]) [0,1],
 oN 8 (.bin .geq (.t 7) (cI 0)) [2],
 oN 4 (.mv (.t 8)) [3,2,0,1,2,3]])
 .ret))
theorem Trydp15 : (Tryd.f15.body.map (prep Tryd.prog 9)) = some Trydc15 := by kernel_rfl
def Trydc16 : ACode :=
 (.seq (.reg [
 oN 1 (.box (.t 0)) [],
 oN 2 (.mv cN) []])
 (.seq (.reg [
 oN 3 (.box cN) []])
 (.seq (.seq (.reg [
 oN 5 (.ld 14 true (.t 1)) [],
 oN 6 (.call 43 [(.t 5)]) [0]])
 (.block 0
 (.rfun (.t 6) [7]
 (.reg [
 oN 4 (.box (.c (.agg zP))) [],
 eN (.st 14 (.t 4) (.t 7)) [0,0]])
 (.block 1
 (.seq (.reg [
 oN 8 (.fa 0 (.t 4)) [],
 oN 9 (.ld 1 false (.t 8)) [0],
 oN 10 (.bin .eql (.t 9) (cI 0)) [1]])
 (.cond (.t 10)
 (.reg [
 oN 11 (.ld 1 false (.t 3)) [],
 oN 12 (.fa 3 (.t 4)) [],
 oN 13 (.ld 1 false (.t 12)) [1],
 oN 14 (.bslice 1 [(.t 13)]) [2],
 oN 15 (.app 1 8 (.t 11) (.t 14)) [0,3],
 eN (.st 1 (.t 3) (.t 15)) [4,4,0,1,2,3,4]])
 .skip))))))
 (.seq (.reg [
 oN 16 (.ld 1 false (.t 3)) [],
 oN 17 (.call 44 [(.t 16)]) [0]])
 (.seq (.reg [
 oN 18 (.ld 1 false (.t 3)) [],
 oN 19 (.call 45 [(.t 18)]) [0],
 oN 2 (.mv (.t 19)) [1,1,0,1]])
 .ret)))))
theorem Trydp16 : (Tryd.f16.body.map (prep Tryd.prog 20)) = some Trydc16 := by kernel_rfl
def Trydc17 : ACode :=
 (.seq (.reg [
 oN 1 (.box (.t 0)) [],
 oN 2 (.mv cN) []])
 (.seq (.reg [
 oN 5 (.ld 14 true (.t 1)) [],
 oN 6 (.bslice 14 [(.t 5)]) [0],
 oN 3 (.mv (.t 6)) [1,0,1]])
 (.seq (.seq (.reg [
 oN 4 (.mv (cI 0)) []])
 (.block 0
 (.loop
 (.seq (.seq (.reg [
 oN 7 (.mv (.t 4)) [],
 oN 8 (.fa 1 (.t 1)) [],
 oN 9 (.ld 1 false (.t 8)) [1],
 oN 10 (.len (.t 9)) [2],
 oN 11 (.bin .lss (.t 7) (.t 10)) [0,3]])
 (.cond (.t 11)
 .skip
 (.exit 0)))
 (.seq (.block 1
 (.reg [
 oN 14 (.mv (.t 3)) [],
 oN 15 (.fa 1 (.t 1)) [],
 oN 16 (.ld 1 false (.t 15)) [1],
 oN 17 (.mv (.t 4)) [],
 oN 18 (.ia 14 (.t 16) (.t 17)) [2,3],
 oN 19 (.ld 14 true (.t 18)) [4],
 oN 20 (.call 17 [(.t 19)]) [5],
 oN 21 (.app 14 152 (.t 14) (.t 20)) [0,6,6],
 oN 3 (.mv (.t 21)) [7,7,0,1,2,3,4,5,6,7]]))
 (.reg [
 oN 12 (.mv (.t 4)) [],
 oN 13 (.bin .add (.t 12) (cI 1)) [0],
 oN 4 (.mv (.t 13)) [1,0,1]]))))))
 (.seq (.reg [
 oN 22 (.mv (.t 3)) [],
 oN 2 (.mv (.t 22)) [0,0]])
 .ret))))
theorem Trydp17 : (Tryd.f17.body.map (prep Tryd.prog 23)) = some Trydc17 := by kernel_rfl
def Trydc18 : ACode :=
 (.seq (.reg [
 oN 2 (.box (.t 0)) [],
 oN 4 (.mv cN) [],
 oN 5 (.mv (cI 0)) [1]])
 (.seq (.reg [
 oN 9 (.ld 14 true (.t 2)) [],
 oN 10 (.mv (.t 1)) [],
 oN 11 (.call 46 [(.t 9), (.t 10)]) [0,1],
 oN 8 (.mv (.t 11)) [2],
 oN 12 (.ext (.t 8) 0) [3],
 oN 13 (.ext (.t 8) 1) [3],
 oN 6 (.box (.c (.agg [vN, vN, (vI 0)]))) [],
 eN (.st 3 (.t 6) (.t 12)) [6,4,2,0,1,2,3,4,6],
 oN 7 (.mv (.t 13)) [5,7,0,1,2,3,4,5,6,7]])
 (.seq (.reg [
 oN 14 (.fa 0 (.t 6)) [],
 oN 15 (.ld 1 false (.t 14)) [0],
 oN 16 (.mv (.t 7)) [],
 oN 4 (.mv (.t 15)) [1,0,1],
 oN 5 (.mv (.t 16)) [2,3,0,1,2,3]])
 .ret)))
theorem Trydp18 : (Tryd.f18.body.map (prep Tryd.prog 17)) = some Trydc18 := by kernel_rfl
def Trydc19 : ACode :=
 (.seq (.reg [
 oN 2 (.box (.t 0)) [],
 oN 4 (.mv cN) [],
 oN 5 (.mv (cI 0)) [1]])
 (.seq (.reg [
 oN 9 (.ld 14 true (.t 2)) [],
 oN 10 (.mv (.t 1)) [],
 oN 11 (.call 46 [(.t 9), (.t 10)]) [0,1],
 oN 8 (.mv (.t 11)) [2],
 oN 12 (.ext (.t 8) 0) [3],
 oN 13 (.ext (.t 8) 1) [3],
 oN 6 (.box (.c (.agg [vN, vN, (vI 0)]))) [],
 eN (.st 3 (.t 6) (.t 12)) [6,4,2,0,1,2,3,4,6],
 oN 7 (.mv (.t 13)) [5,7,0,1,2,3,4,5,6,7]])
 (.seq (.reg [
 oN 14 (.fa 1 (.t 6)) [],
 oN 15 (.ld 1 false (.t 14)) [0],
 oN 16 (.mv (.t 7)) [],
 oN 4 (.mv (.t 15)) [1,0,1],
 oN 5 (.mv (.t 16)) [2,3,0,1,2,3]])
 .ret)))
theorem Trydp19 : (Tryd.f19.body.map (prep Tryd.prog 17)) = some Trydc19 := by kernel_rfl
def Trydc20 : ACode :=
 (.seq (.reg [
 oN 4 (.mv (cB false)) []])
 (.seq (.reg [
 oN 5 (.mv (.t 0)) [],
 oN 6 (.mv (.t 1)) [],
 oN 7 (.call 47 [(.t 5), (.t 6)]) [0,1],
 oN 8 (.bin .geq (.t 7) (cI 0)) [2],
 oN 4 (.mv (.t 8)) [3,2,0,1,2,3]])
 .ret))
theorem Trydp20 : (Tryd.f20.body.map (prep Tryd.prog 9)) = some Trydc20 := by kernel_rfl
def Trydc21 : ACode :=
 (.seq (.reg [
 oN 3 (.mv (cB false)) []])
 (.seq (.reg [
 oN 4 (.ld 1 false (.t 1)) [],
 oN 5 (.mv (.t 0)) [],
 oN 6 (.call 15 [(.t 4), (.t 5)]) [0,1],
 oN 7 (.un .not (.t 6)) [2],
 oN 3 (.mv (.t 7)) [3,2,0,1,2,3]])
 .ret))
theorem Trydp21 : (Tryd.f21.body.map (prep Tryd.prog 8)) = some Trydc21 := by kernel_rfl
def Trydc22 : ACode :=
 (.seq (.reg [
 oN 2 (.mv (cB false)) []])
 (.seq (.seq (.reg [
 oN 4 (.mv (.t 0)) [],
 oN 5 (.len (.t 4)) [0],
 oN 6 (.bin .sub (.t 5) (cI 1)) [1],
 oN 3 (.mv (.t 6)) [2,0,1,2]])
 (.block 0
 (.loop
 (.seq (.seq (.reg [
 oN 7 (.mv (.t 3)) [],
 oN 8 (.bin .gtr (.t 7) (cI 0)) [0]])
 (.cond (.t 8)
 .skip
 (.exit 0)))
 (.seq (.block 1
 (.seq (.draw [
 oN 11 (.mv (.t 0)) [],
 oN 12 (.mv (.t 3)) [],
 oN 13 (.ia 1 (.t 11) (.t 12)) [0,1],
 oN 14 (.ld 1 false (.t 13)) [2],
 oN 15 (.mv (.t 0)) [],
 oN 16 (.mv (.t 3)) [],
 oN 17 (.bin .sub (.t 16) (cI 1)) [5],
 oN 18 (.ia 1 (.t 15) (.t 17)) [4,6],
 oN 19 (.ld 1 false (.t 18)) [7],
 oN 20 (.call 48 [(.t 14), (.t 19)]) [3,8]])
 (.cond (.t 20)
 (.seq (.reg [
 oN 2 (.mv (cB false)) []])
 .ret)
 .skip)))
 (.reg [
 oN 9 (.mv (.t 3)) [],
 oN 10 (.bin .sub (.t 9) (cI 1)) [0],
 oN 3 (.mv (.t 10)) [1,0,1]]))))))
 (.seq (.reg [
 oN 2 (.mv (cB true)) []])
 .ret)))
theorem Trydp22 : (Tryd.f22.body.map (prep Tryd.prog 21)) = some Trydc22 := by kernel_rfl
def Trydc23 : ACode :=
 (.seq (.reg [
 oN 1 (.box (.t 0)) [],
 oN 2 (.mv (cI 0)) [],
 oN 3 (.mv (cI 0)) [1],
 oN 4 (.mv (cI 0)) [2]])
 (.seq (.seq (.reg [
 oN 9 (.ld 14 true (.t 1)) [],
 oN 10 (.call 14 [(.t 9)]) [0],
 oN 5 (.mv (.t 10)) [1,1,0,1]])
 (.seq (.reg [
 oN 11 (.mv (.t 5)) [],
 oN 12 (.bin .neq (.t 11) (cI 0)) [0]])
 (.cond (.t 12)
 (.seq (.reg [
 oN 13 (.mv (.t 5)) [],
 oN 2 (.mv (cI 0)) [],
 oN 3 (.mv (cI 0)) [1,1],
 oN 4 (.mv (.t 13)) [0,2,0,1,2]])
 .ret)
 .skip)))
 (.seq (.reg [
 oN 15 (.ld 14 true (.t 1)) [],
 oN 16 (.call 41 [(.t 15)]) [0],
 oN 14 (.mv (.t 16)) [1],
 oN 17 (.ext (.t 14) 0) [2],
 oN 18 (.ext (.t 14) 1) [2],
 oN 19 (.ext (.t 14) 2) [2],
 oN 6 (.mv (.t 17)) [3,1,0,1,2,3],
 oN 7 (.mv (.t 18)) [4,6,0,1,2,3,4,6],
 oN 8 (.mv (.t 19)) [5,7,0,1,2,3,4,5,6,7]])
 (.seq (.reg [
 oN 20 (.mv (.t 6)) [],
 oN 21 (.mv (.t 7)) [],
 oN 2 (.mv (.t 20)) [0,0],
 oN 3 (.mv (.t 21)) [1,2,0,1,2],
 oN 4 (.mv (cI 0)) [3,0,1,2,3]])
 .ret))))
theorem Trydp23 : (Tryd.f23.body.map (prep Tryd.prog 22)) = some Trydc23 := by kernel_rfl
def Trydc24 : ACode :=
 (.seq (.reg [
 oN 2 (.box (.t 0)) [],
 oN 3 (.box (.t 1)) [],
 oN 4 (.box (.c (.agg zP))) [],
 oN 5 (.box (cI 0)) []])
 (.seq (.seq (.reg [
 oN 11 (.ld 14 true (.t 2)) [],
 oN 12 (.call 49 [(.t 11)]) [0],
 oN 6 (.mv (.t 12)) [1,1,0,1]])
 (.seq (.reg [
 oN 13 (.mv (.t 6)) [],
 oN 14 (.bin .neq (.t 13) (cI 0)) [0]])
 (.cond (.t 14)
 (.seq (.reg [
 oN 15 (.build zP []) [],
 oN 16 (.mv (.t 6)) [],
 eN (.st 14 (.t 4) (.t 15)) [0,0],
 eN (.st 1 (.t 5) (.t 16)) [1,2,0,1,2]])
 .ret)
 .skip)))
 (.seq (.seq (.reg [
 oN 17 (.ld 14 true (.t 2)) [],
 oN 18 (.call 43 [(.t 17)]) [0]])
 (.block 0
 (.rfun (.t 18) [19]
 (.reg [
 oN 7 (.box (.c (.agg zP))) [],
 eN (.st 14 (.t 7) (.t 19)) [0,0]])
 (.block 1
 (.seq (.reg [
 oN 20 (.fa 0 (.t 7)) [],
 oN 21 (.ld 1 false (.t 20)) [0],
 oN 22 (.iaA 6 11 (.g 1) (.t 21)) [1],
 oN 23 (.ld 6 true (.t 22)) [2],
 oN 8 (.box (.c (.agg [(vI 0), (vI 0), (.val (.bool false)), (.val (.bool false)), (.val (.bool false)), (.val (.bool false))]))) [],
 eN (.st 6 (.t 8) (.t 23)) [4,3,0,1,2,3,4]])
 (.seq (.seq (.reg [
 oN 24 (.fa 2 (.t 8)) [],
 oN 25 (.ld 1 false (.t 24)) [0],
 oN 26 (.mv (.t 25)) [1],
 oG 27 (.fa 3 (.t 7)) [2] 26 true,
 oG 28 (.ld 1 false (.t 27)) [3,2] 26 true,
 oG 29 (.ld 1 false (.t 3)) [2] 26 true,
 oG 30 (.len (.t 29)) [5,2] 26 true,
 oG 31 (.bin .geq (.t 28) (.t 30)) [4,6,2] 26 true,
 oN 32 (.pick (.t 26) (.t 31) (cB false)) [2,7]])
 (.cond (.t 32)
 (.seq (.reg [
 oN 33 (.build zP []) [],
 eN (.st 14 (.t 4) (.t 33)) [0,0],
 eN (.st 1 (.t 5) (cI 6)) [1,0,1]])
 .ret)
 .skip))
 (.seq (.seq (.reg [
 oN 34 (.fa 2 (.t 8)) [],
 oN 35 (.ld 1 false (.t 34)) [0],
 oN 36 (.mv (.t 35)) [1],
 oG 37 (.ld 1 false (.t 3)) [2] 36 true,
 oG 38 (.fa 3 (.t 7)) [2] 36 true,
 oG 39 (.ld 1 false (.t 38)) [4,2] 36 true,
 oG 40 (.ia 1 (.t 37) (.t 39)) [3,5,2] 36 true,
 oG 41 (.ld 1 false (.t 40)) [6,2] 36 true,
 oG 42 (.bin .lss (.t 41) (cI 0)) [7,2] 36 true,
 oG 43 (.mv (.t 42)) [8,2,2] 36 true,
 oG 44 (.ld 1 false (.t 3)) [9] 43 false,
 oG 45 (.fa 3 (.t 7)) [9] 43 false,
 oG 46 (.ld 1 false (.t 45)) [11,9] 43 false,
 oG 47 (.ia 1 (.t 44) (.t 46)) [10,12,9] 43 false,
 oG 48 (.ld 1 false (.t 47)) [13,9] 43 false,
 oG 49 (.bin .geq (.t 48) (cI 16)) [14,9] 43 false,
 oG 50 (.pick (.t 43) (cB true) (.t 49)) [9,15,2] 36 true,
 oN 51 (.pick (.t 36) (.t 50) (cB false)) [2,16]])
 (.cond (.t 51)
 (.seq (.reg [
 oN 52 (.build zP []) [],
 eN (.st 14 (.t 4) (.t 52)) [0,0],
 eN (.st 1 (.t 5) (cI 2)) [1,0,1]])
 .ret)
 .skip))
 (.seq (.reg [
 oN 53 (.fa 3 (.t 8)) [],
 oN 54 (.ld 1 false (.t 53)) [0]])
 (.cond (.t 54)
 (.seq (.reg [
 oN 56 (.fa 6 (.t 7)) [],
 oN 57 (.ld 8 true (.t 56)) [0],
 oN 58 (.ld 1 false (.t 3)) [],
 oN 59 (.call 50 [(.t 57), (.t 58)]) [1,2],
 oN 55 (.mv (.t 59)) [3],
 oN 60 (.ext (.t 55) 0) [4],
 oN 61 (.ext (.t 55) 1) [4],
 oN 9 (.box (.c (.agg zE))) [],
 eN (.st 8 (.t 9) (.t 60)) [7,5,3,0,1,2,3,4,5,7],
 oN 10 (.mv (.t 61)) [6,8,0,1,2,3,4,5,6,7,8]])
 (.seq (.reg [
 oN 62 (.mv (.t 10)) [],
 oN 63 (.bin .neq (.t 62) (cI 0)) [0]])
 (.cond (.t 63)
 (.seq (.reg [
 oN 64 (.build zP []) [],
 oN 65 (.mv (.t 10)) [],
 eN (.st 14 (.t 4) (.t 64)) [0,0],
 eN (.st 1 (.t 5) (.t 65)) [1,2,0,1,2]])
 .ret)
 .skip)))
 .skip)))))))))
 (.seq (.reg [
 oN 66 (.ld 14 true (.t 2)) [],
 oN 67 (.ld 1 false (.t 3)) [],
 oN 68 (.call 51 [(.t 66), (.t 67)]) [0,1],
 eN (.st 14 (.t 4) (.t 68)) [2,2,0,1,2],
 eN (.st 1 (.t 5) (cI 0)) [3,0,1,2,3]])
 .ret))))
theorem Trydp24 : (Tryd.f24.body.map (prep Tryd.prog 69)) = some Trydc24 := by kernel_rfl
def Trydc25 : ACode :=
 (.seq (.reg [
 oN 0 (.box (.c (.agg zE))) []])
 (.seq (.reg [
 oN 1 (.call 52 [(cB true)]) [],
 oN 2 (.build zE [(0, 1, (cI 0)), (5, 3, (.t 1))]) [0],
 eN (.st 8 (.t 0) (.t 2)) [1,0,0,1]])
 .ret))
theorem Trydp25 : (Tryd.f25.body.map (prep Tryd.prog 3)) = some Trydc25 := by kernel_rfl
def Trydc26 : ACode :=
 (.seq (.reg [
 oN 4 (.mv (cB false)) []])
 (.seq (.seq (.reg [
 oN 6 (.mv (.t 0)) [],
 oN 7 (.len (.t 6)) [0],
 oN 8 (.mv (.t 1)) [],
 oN 9 (.len (.t 8)) [2],
 oN 10 (.bin .neq (.t 7) (.t 9)) [1,3]])
 (.cond (.t 10)
 (.seq (.reg [
 oN 4 (.mv (cB false)) []])
 .ret)
 .skip))
 (.seq (.seq (.reg [
 oN 11 (.mv (.t 0)) [],
 oN 12 (.len (.t 11)) [0],
 oN 13 (.mv (cI 0)) []])
 (.block 0
 (.loop
 (.seq (.reg [
 oN 14 (.bin .lss (.t 13) (.t 12)) []])
 (.seq (.cond (.t 14)
 .skip
 (.exit 0))
 (.seq (.block 1
 (.seq (.reg [
 oN 15 (.mv (.t 13)) [],
 oN 5 (.mv (.t 15)) [0,0]])
 (.seq (.draw [
 oN 16 (.mv (.t 0)) [],
 oN 17 (.mv (.t 5)) [],
 oN 18 (.ia 1 (.t 16) (.t 17)) [0,1],
 oN 19 (.ld 1 false (.t 18)) [2],
 oN 20 (.mv (.t 1)) [],
 oN 21 (.mv (.t 5)) [],
 oN 22 (.ia 1 (.t 20) (.t 21)) [4,5],
 oN 23 (.ld 1 false (.t 22)) [6],
 oN 24 (.bin .neq (.t 19) (.t 23)) [3,7]])
 (.cond (.t 24)
 (.seq (.reg [
 oN 4 (.mv (cB false)) []])
 .ret)
 .skip))))
 (.reg [
 oN 25 (.bin .add (.t 13) (cI 1)) [],
 oN 13 (.mv (.t 25)) [0]])))))))
 (.seq (.reg [
 oN 4 (.mv (cB true)) []])
 .ret))))
theorem Trydp26 : (Tryd.f26.body.map (prep Tryd.prog 26)) = some Trydc26 := by kernel_rfl
def Trydc27 : ACode :=
 (.seq (.reg [
 oN 2 (.mv cN) []])
 (.seq (.reg [
 oN 6 (.bslice 1 [(cI 0)]) [],
 oN 3 (.mv (.t 6)) [0,0]])
 (.seq (.seq (.reg [
 oN 7 (.mv (.t 0)) [],
 oN 8 (.len (.t 7)) [0],
 oN 9 (.mv (cI 0)) []])
 (.block 0
 (.loop
 (.seq (.reg [
 oN 10 (.bin .lss (.t 9) (.t 8)) []])
 (.seq (.cond (.t 10)
 .skip
 (.exit 0))
 (.seq (.block 1
 (.seq (.reg [
 oN 11 (.ia 1 (.t 7) (.t 9)) [],
 oN 12 (.ld 1 false (.t 11)) [0],
 oN 5 (.mv (.t 12)) [1,0,1]])
 (.reg [
 oN 13 (.mv (.t 3)) [],
 oN 14 (.mv (.t 5)) [],
 oN 15 (.bin .add (.t 14) (cI 1)) [1],
 oN 16 (.bslice 1 [(.t 15)]) [2],
 oN 17 (.app 1 8 (.t 13) (.t 16)) [0,3],
 oN 3 (.mv (.t 17)) [4,4,0,1,2,3,4]])))
 (.reg [
 oN 18 (.bin .add (.t 9) (cI 1)) [],
 oN 9 (.mv (.t 18)) [0]])))))))
 (.seq (.reg [
 oN 19 (.mv (.t 3)) [],
 oN 2 (.mv (.t 19)) [0,0]])
 .ret))))
theorem Trydp27 : (Tryd.f27.body.map (prep Tryd.prog 20)) = some Trydc27 := by kernel_rfl
def Trydc28 : ACode :=
 (.seq (.reg [
 oN 1 (.box (.t 0)) [],
 oN 2 (.mv (cB false)) []])
 (.seq (.seq (.reg [
 oN 5 (.ld 14 true (.t 1)) [],
 oN 6 (.call 53 [(.t 5), (cI 150)]) [0],
 oN 7 (.bin .gtr (.t 6) (cI 150)) [1],
 oN 8 (.mv (.t 7)) [2,1],
 oG 9 (.ld 14 true (.t 1)) [3] 8 false,
 oG 10 (.call 54 [(.t 9)]) [4,3,3] 8 false,
 oG 11 (.bin .gtr (.t 10) (cI 60)) [5,3] 8 false,
 oN 12 (.pick (.t 8) (cB true) (.t 11)) [3,6]])
 (.cond (.t 12)
 (.seq (.reg [
 oN 2 (.mv (cB false)) []])
 .ret)
 .skip))
 (.seq (.reg [
 oN 13 (.ld 14 true (.t 1)) [],
 oN 14 (.call 17 [(.t 13)]) [0],
 oN 3 (.mv (.t 14)) [1,1,0,1]])
 (.seq (.seq (.reg [
 oN 4 (.mv (cI 0)) []])
 (.block 0
 (.loop
 (.seq (.seq (.reg [
 oN 15 (.mv (.t 4)) [],
 oN 16 (.mv (.t 3)) [],
 oN 17 (.len (.t 16)) [1],
 oN 18 (.bin .lss (.t 15) (.t 17)) [0,2]])
 (.cond (.t 18)
 .skip
 (.exit 0)))
 (.seq (.block 1
 (.seq (.reg [
 oN 21 (.mv (.t 3)) [],
 oN 22 (.mv (.t 4)) [],
 oN 23 (.ia 14 (.t 21) (.t 22)) [0,1],
 oN 24 (.fa 6 (.t 23)) [2],
 oN 25 (.ld 8 true (.t 24)) [3],
 oN 26 (.call 9 [(.t 25)]) [4],
 oN 27 (.un .not (.t 26)) [5]])
 (.cond (.t 27)
 (.seq (.reg [
 oN 2 (.mv (cB false)) []])
 .ret)
 .skip)))
 (.reg [
 oN 19 (.mv (.t 4)) [],
 oN 20 (.bin .add (.t 19) (cI 1)) [0],
 oN 4 (.mv (.t 20)) [1,0,1]]))))))
 (.seq (.reg [
 oN 2 (.mv (cB true)) []])
 .ret)))))
theorem Trydp28 : (Tryd.f28.body.map (prep Tryd.prog 28)) = some Trydc28 := by kernel_rfl
def Trydc29 : ACode :=
 (.seq (.reg [
 oN 2 (.box (.t 0)) [],
 oN 4 (.mv (cI 0)) []])
 (.seq (.reg [
 oN 5 (.mv (cI 1)) []])
 (.seq (.seq (.reg [
 oN 6 (.mv (cI 0)) []])
 (.block 0
 (.loop
 (.seq (.seq (.reg [
 oN 7 (.mv (.t 6)) [],
 oN 8 (.fa 1 (.t 2)) [],
 oN 9 (.ld 1 false (.t 8)) [1],
 oN 10 (.len (.t 9)) [2],
 oN 11 (.bin .lss (.t 7) (.t 10)) [0,3],
 oN 12 (.mv (.t 11)) [4],
 oG 13 (.mv (.t 5)) [5] 12 true,
 oG 14 (.mv (.t 1)) [5] 12 true,
 oG 15 (.bin .leq (.t 13) (.t 14)) [6,7,5] 12 true,
 oN 16 (.pick (.t 12) (.t 15) (cB false)) [5,8]])
 (.cond (.t 16)
 .skip
 (.exit 0)))
 (.seq (.block 1
 (.reg [
 oN 19 (.mv (.t 5)) [],
 oN 20 (.fa 1 (.t 2)) [],
 oN 21 (.ld 1 false (.t 20)) [1],
 oN 22 (.mv (.t 6)) [],
 oN 23 (.ia 8 (.t 21) (.t 22)) [2,3],
 oN 24 (.ld 8 true (.t 23)) [4],
 oN 25 (.mv (.t 1)) [],
 oN 26 (.call 29 [(.t 24), (.t 25)]) [5,6],
 oN 27 (.bin .add (.t 19) (.t 26)) [0,7],
 oN 5 (.mv (.t 27)) [8,7,0,1,2,3,4,5,6,7,8]]))
 (.reg [
 oN 17 (.mv (.t 6)) [],
 oN 18 (.bin .add (.t 17) (cI 1)) [0],
 oN 6 (.mv (.t 18)) [1,0,1]]))))))
 (.seq (.reg [
 oN 28 (.mv (.t 5)) [],
 oN 4 (.mv (.t 28)) [0,0]])
 .ret))))
theorem Trydp29 : (Tryd.f29.body.map (prep Tryd.prog 29)) = some Trydc29 := by kernel_rfl
def Trydc30 : ACode :=
 (.seq (.reg [
 oN 1 (.box (.t 0)) [],
 oN 2 (.mv (cI 0)) []])
 (.seq (.reg [
 oN 3 (.mv (cI 0)) []])
 (.seq (.seq (.reg [
 oN 4 (.mv (cI 0)) []])
 (.block 0
 (.loop
 (.seq (.seq (.reg [
 oN 5 (.mv (.t 4)) [],
 oN 6 (.fa 1 (.t 1)) [],
 oN 7 (.ld 1 false (.t 6)) [1],
 oN 8 (.len (.t 7)) [2],
 oN 9 (.bin .lss (.t 5) (.t 8)) [0,3]])
 (.cond (.t 9)
 .skip
 (.exit 0)))
 (.seq (.block 1
 (.reg [
 oN 12 (.mv (.t 3)) [],
 oN 13 (.fa 1 (.t 1)) [],
 oN 14 (.ld 1 false (.t 13)) [1],
 oN 15 (.mv (.t 4)) [],
 oN 16 (.ia 8 (.t 14) (.t 15)) [2,3],
 oN 17 (.ld 8 true (.t 16)) [4],
 oN 18 (.call 30 [(.t 17)]) [5],
 oN 19 (.mx [(.t 12), (.t 18)]) [0,6],
 oN 3 (.mv (.t 19)) [7,6,0,1,2,3,4,5,6,7]]))
 (.reg [
 oN 10 (.mv (.t 4)) [],
 oN 11 (.bin .add (.t 10) (cI 1)) [0],
 oN 4 (.mv (.t 11)) [1,0,1]]))))))
 (.seq (.reg [
 oN 20 (.mv (.t 3)) [],
 oN 21 (.bin .add (.t 20) (cI 1)) [0],
 oN 2 (.mv (.t 21)) [1,0,1]])
 .ret))))
theorem Trydp30 : (Tryd.f30.body.map (prep Tryd.prog 22)) = some Trydc30 := by kernel_rfl
def Trydc31 : ACode :=
 (.seq (.reg [
 oN 1 (.box (.t 0)) [],
 oN 2 (.mv (cI 0)) []])
 (.seq (.seq (.reg [
 oN 6 (.ld 8 true (.t 1)) [],
 oN 7 (.call 55 [(.t 6)]) [0],
 oN 3 (.mv (.t 7)) [1,1,0,1]])
 (.seq (.reg [
 oN 8 (.mv (.t 3)) [],
 oN 9 (.bin .neq (.t 8) (cI 0)) [0]])
 (.cond (.t 9)
 (.seq (.reg [
 oN 10 (.mv (.t 3)) [],
 oN 2 (.mv (.t 10)) [0,0]])
 .ret)
 .skip)))
 (.seq (.seq (.reg [
 oN 4 (.mv (cI 0)) []])
 (.block 0
 (.loop
 (.seq (.seq (.reg [
 oN 11 (.mv (.t 4)) [],
 oN 12 (.fa 1 (.t 1)) [],
 oN 13 (.ld 1 false (.t 12)) [1],
 oN 14 (.len (.t 13)) [2],
 oN 15 (.bin .lss (.t 11) (.t 14)) [0,3]])
 (.cond (.t 15)
 .skip
 (.exit 0)))
 (.seq (.block 1
 (.seq (.reg [
 oN 18 (.fa 1 (.t 1)) [],
 oN 19 (.ld 1 false (.t 18)) [0],
 oN 20 (.mv (.t 4)) [],
 oN 21 (.ia 8 (.t 19) (.t 20)) [1,2],
 oN 22 (.ld 8 true (.t 21)) [3],
 oN 23 (.call 31 [(.t 22)]) [4],
 oN 5 (.mv (.t 23)) [5,5,0,1,2,3,4,5]])
 (.seq (.reg [
 oN 24 (.mv (.t 5)) [],
 oN 25 (.bin .neq (.t 24) (cI 0)) [0]])
 (.cond (.t 25)
 (.seq (.reg [
 oN 26 (.mv (.t 5)) [],
 oN 2 (.mv (.t 26)) [0,0]])
 .ret)
 .skip))))
 (.reg [
 oN 16 (.mv (.t 4)) [],
 oN 17 (.bin .add (.t 16) (cI 1)) [0],
 oN 4 (.mv (.t 17)) [1,0,1]]))))))
 (.seq (.reg [
 oN 2 (.mv (cI 0)) []])
 .ret))))
theorem Trydp31 : (Tryd.f31.body.map (prep Tryd.prog 27)) = some Trydc31 := by kernel_rfl
def Trydc32 : ACode :=
 (.seq (.reg [
 oN 2 (.box (.t 0)) [],
 oN 3 (.box (.t 1)) [],
 oN 4 (.box (.c (.agg zP))) []])
 (.seq (.reg [
 oN 6 (.call 25 []) [],
 oN 7 (.build zP [(3, 1, (cI 1)), (6, 8, (.t 6))]) [0],
 oN 8 (.bslice 14 [(.t 7)]) [1],
 oN 9 (.build zP [(0, 1, (cI 4)), (1, 1, (.t 8))]) [2],
 oN 5 (.box (.c (.agg zP))) [],
 eN (.st 14 (.t 5) (.t 9)) [4,3,0,0,1,2,3,4]])
 (.seq (.reg [
 oN 10 (.ld 8 true (.t 2)) [],
 oN 11 (.build zP [(6, 8, (.t 10))]) [0],
 oN 12 (.ld 14 true (.t 5)) [],
 oN 13 (.ld 8 true (.t 3)) [],
 oN 14 (.build zP [(3, 1, (cI 2)), (6, 8, (.t 13))]) [3],
 oN 15 (.bslice 14 [(.t 11), (.t 12), (.t 14)]) [1,2,4],
 oN 16 (.build zP [(0, 1, (cI 1)), (1, 1, (.t 15))]) [5],
 eN (.st 14 (.t 4) (.t 16)) [6,0,1,2,3,4,5,6]])
 .ret)))
theorem Trydp32 : (Tryd.f32.body.map (prep Tryd.prog 17)) = some Trydc32 := by kernel_rfl
def Trydc33 : ACode :=
 (.seq (.reg [
 oN 1 (.box (.t 0)) [],
 oN 2 (.box (.c (.agg zE))) []])
 (.seq (.reg [
 oN 3 (.ld 8 true (.t 1)) [],
 oN 4 (.build [(vI 0), (vI 0), (.val (.string ⟨#[]⟩))] [(1, 1, (cI 1))]) [],
 oN 5 (.build zE [(0, 1, (cI 0)), (5, 3, (.t 4))]) [1],
 oN 6 (.bslice 8 [(.t 3), (.t 5)]) [0,2],
 oN 7 (.build zE [(0, 1, (cI 7)), (1, 1, (.t 6))]) [3],
 eN (.st 8 (.t 2) (.t 7)) [4,0,1,2,3,4]])
 .ret))
theorem Trydp33 : (Tryd.f33.body.map (prep Tryd.prog 8)) = some Trydc33 := by kernel_rfl
def Trydc34 : ACode :=
 (.seq (.reg [
 oN 2 (.box (.t 0)) [],
 oN 3 (.box (.t 1)) []])
 (.seq (.reg [
 oN 4 (.box (cI 0)) [],
 eN (.st 1 (.t 4) (cI (-1))) [0,0]])
 (.seq (.reg [
 oN 5 (.box (.c (.val .nilFunc))) []])
 (.seq (.reg [
 oN 6 (.mkfn 56 [(.t 4), (.t 3), (.t 5)]) [],
 eN (.st 1 (.t 5) (.t 6)) [0,0]])
 (.reg [
 oN 7 (.ld 1 false (.t 5)) [],
 oN 8 (.ld 14 true (.t 2)) [],
 oN 9 (.build [vN, vN, (vI 0)] [(2, 1, (cI (-1)))]) [],
 oN 10 (.callv (.t 7) [(.t 8), (.t 9)]) [0,1,2]])))))
theorem Trydp34 : (Tryd.f34.body.map (prep Tryd.prog 11)) = some Trydc34 := by kernel_rfl
def Trydc35 : ACode :=
 (.seq (.reg [
 oN 6 (.box (.t 1)) [],
 oN 7 (.box (.t 2)) [],
 oN 8 (.mv (cB false)) []])
 (.seq (.seq (.reg [
 oN 9 (.fa 0 (.t 6)) [],
 oN 10 (.ld 1 false (.t 9)) [0],
 oN 11 (.iaA 2 8 (.g 0) (.t 10)) [1],
 oN 12 (.fa 1 (.t 11)) [2],
 oN 13 (.ld 1 false (.t 12)) [3],
 oN 14 (.un .not (.t 13)) [4]])
 (.cond (.t 14)
 (.seq (.reg [
 oN 8 (.mv (cB true)) []])
 .ret)
 .skip))
 (.seq (.seq (.draw [
 oN 15 (.fa 6 (.t 6)) [],
 oN 16 (.ld 8 true (.t 15)) [0],
 oN 17 (.ld 14 true (.t 6)) [],
 oN 18 (.ld 3 true (.t 7)) [],
 oN 19 (.call 37 [(.t 17), (.t 18)]) [2,3],
 oN 20 (.call 36 [(.t 16), (.t 19)]) [1,4,4],
 eN (.st 1 (.t 3) (.t 20)) [5,5,0,1,2,3,4,5]])
 (.seq (.reg [
 oN 21 (.ld 1 false (.t 3)) [],
 oN 22 (.bin .neq (.t 21) (cI 0)) [0]])
 (.cond (.t 22)
 (.reg [
 oN 23 (.mv (.t 0)) [],
 eN (.st 1 (.t 4) (.t 23)) [0,0]])
 .skip)))
 (.seq (.reg [
 oN 24 (.ld 1 false (.t 3)) [],
 oN 25 (.bin .eql (.t 24) (cI 0)) [0],
 oN 8 (.mv (.t 25)) [1,0,1]])
 .ret))))
theorem Trydp35 : (Tryd.f35.body.map (prep Tryd.prog 26)) = some Trydc35 := by kernel_rfl
def Trydc36 : ACode :=
 (.seq (.reg [
 oN 2 (.box (.t 0)) [],
 oN 3 (.box (.t 1)) [],
 oN 4 (.mv (cI 0)) []])
 (.seq (.seq (.reg [
 oN 9 (.fa 0 (.t 2)) [],
 oN 10 (.ld 1 false (.t 9)) [0],
 oN 11 (.bin .geq (.t 10) (cI 1)) [1],
 oN 12 (.mv (.t 11)) [2],
 oG 13 (.fa 0 (.t 2)) [3] 12 true,
 oG 14 (.ld 1 false (.t 13)) [4,3] 12 true,
 oG 15 (.bin .leq (.t 14) (cI 4)) [5,3] 12 true,
 oN 16 (.pick (.t 12) (.t 15) (cB false)) [3,6]])
 (.cond (.t 16)
 (.seq (.reg [
 oN 17 (.fa 0 (.t 2)) [],
 oN 18 (.ld 1 false (.t 17)) [0],
 oN 19 (.bin .eql (.t 18) (cI 1)) [1],
 oN 20 (.mv (.t 19)) [2],
 oG 21 (.fa 0 (.t 2)) [3] 20 false,
 oG 22 (.ld 1 false (.t 21)) [4,3] 20 false,
 oG 23 (.bin .eql (.t 22) (cI 2)) [5,3] 20 false,
 oN 24 (.pick (.t 20) (cB true) (.t 23)) [3,6],
 oN 5 (.mv (.t 24)) [7,3,0,1,2,3,4,5,6,7]])
 (.block 0
 (.seq (.reg [
 oN 26 (.fa 0 (.t 3)) [],
 oN 27 (.ld 1 false (.t 26)) [0],
 oN 28 (.fa 2 (.t 2)) [],
 oN 29 (.ld 1 false (.t 28)) [2],
 oN 30 (.call 15 [(.t 27), (.t 29)]) [1,3],
 oN 31 (.un .not (.t 30)) [4],
 oN 25 (.mv (.t 31)) [5,4]])
 (.cond (.t 25)
 (.seq (.reg [
 oN 4 (.mv (cI 10)) []])
 .ret)
 (.seq (.seq (.reg [
 oN 33 (.mv (.t 5)) [],
 oN 34 (.mv (.t 33)) [0],
 oG 35 (.fa 1 (.t 3)) [1] 34 true,
 oG 36 (.ld 1 false (.t 35)) [2,1] 34 true,
 oG 37 (.fa 2 (.t 2)) [1] 34 true,
 oG 38 (.ld 1 false (.t 37)) [4,1] 34 true,
 oG 39 (.call 15 [(.t 36), (.t 38)]) [3,5,1,1] 34 true,
 oG 40 (.un .not (.t 39)) [6,1] 34 true,
 oN 41 (.pick (.t 34) (.t 40) (cB false)) [1,7],
 oN 32 (.mv (.t 41)) [8,6]])
 (.cond (.t 32)
 .skip
 (.reg [
 oN 42 (.mv (.t 5)) [],
 oN 43 (.un .not (.t 42)) [0],
 oN 44 (.mv (.t 43)) [1],
 oG 45 (.fa 2 (.t 2)) [2] 44 true,
 oG 46 (.ld 1 false (.t 45)) [3,2] 44 true,
 oG 47 (.fa 2 (.t 3)) [2] 44 true,
 oG 48 (.ld 1 false (.t 47)) [5,2] 44 true,
 oG 49 (.bin .eql (.t 46) (.t 48)) [4,6,2] 44 true,
 oN 50 (.pick (.t 44) (.t 49) (cB false)) [2,7],
 oN 32 (.mv (.t 50)) [8,2]])))
 (.cond (.t 32)
 (.seq (.reg [
 oN 4 (.mv (cI 11)) []])
 .ret)
 .skip))))))
 .skip))
 (.seq (.seq (.reg [
 oN 51 (.fa 1 (.t 2)) [],
 oN 52 (.ld 1 false (.t 51)) [0],
 oN 53 (.len (.t 52)) [1],
 oN 54 (.mv (cI 0)) []])
 (.block 1
 (.loop
 (.seq (.reg [
 oN 55 (.bin .lss (.t 54) (.t 53)) []])
 (.seq (.cond (.t 55)
 .skip
 (.exit 1))
 (.seq (.block 2
 (.seq (.reg [
 oN 56 (.ia 8 (.t 52) (.t 54)) [],
 oN 57 (.ld 8 true (.t 56)) [0],
 oN 7 (.box (.c (.agg zE))) [],
 eN (.st 8 (.t 7) (.t 57)) [2,1,0,1,2]])
 (.seq (.reg [
 oN 58 (.ld 8 true (.t 7)) [],
 oN 59 (.ld 3 true (.t 3)) [],
 oN 60 (.call 36 [(.t 58), (.t 59)]) [0,1],
 oN 8 (.mv (.t 60)) [2,2,0,1,2]])
 (.seq (.reg [
 oN 61 (.mv (.t 8)) [],
 oN 62 (.bin .neq (.t 61) (cI 0)) [0]])
 (.cond (.t 62)
 (.seq (.reg [
 oN 63 (.mv (.t 8)) [],
 oN 4 (.mv (.t 63)) [0,0]])
 .ret)
 .skip)))))
 (.reg [
 oN 64 (.bin .add (.t 54) (cI 1)) [],
 oN 54 (.mv (.t 64)) [0]])))))))
 (.seq (.reg [
 oN 4 (.mv (cI 0)) []])
 .ret))))
theorem Trydp36 : (Tryd.f36.body.map (prep Tryd.prog 65)) = some Trydc36 := by kernel_rfl
def Trydc37 : ACode :=
 (.seq (.reg [
 oN 2 (.box (.t 0)) [],
 oN 3 (.box (.t 1)) [],
 oN 4 (.box (.c (.agg [vN, vN, (vI 0)]))) []])
 (.seq (.reg [
 oN 6 (.fa 3 (.t 2)) [],
 oN 7 (.ld 1 false (.t 6)) [0],
 oN 8 (.bslice 1 [(.t 7)]) [1],
 oN 5 (.mv (.t 8)) [2,0,1,2]])
 (.seq (.seq (.reg [
 oN 9 (.fa 0 (.t 2)) [],
 oN 10 (.ld 1 false (.t 9)) [0]])
 (.block 0
 (.seq (.reg [
 oN 12 (.bin .eql (.t 10) (cI 0)) [],
 oN 11 (.mv (.t 12)) [0]])
 (.cond (.t 11)
 (.seq (.draw [
 oN 13 (.fa 0 (.t 3)) [],
 oN 14 (.ld 1 false (.t 13)) [0],
 oN 15 (.mv (.t 5)) [],
 oN 16 (.call 57 [(.t 14), (.t 15)]) [1,2],
 oN 17 (.fa 1 (.t 3)) [],
 oN 18 (.ld 1 false (.t 17)) [4],
 oN 19 (.mv (.t 5)) [],
 oN 20 (.call 57 [(.t 18), (.t 19)]) [5,6,3],
 oN 21 (.build [vN, vN, (vI 0)] [(0, 1, (.t 16)), (1, 1, (.t 20)), (2, 1, (cI (-1)))]) [3,7],
 eN (.st 3 (.t 4) (.t 21)) [8,7,0,1,2,3,4,5,6,7,8]])
 .ret)
 (.seq (.reg [
 oN 23 (.bin .eql (.t 10) (cI 5)) [],
 oN 22 (.mv (.t 23)) [0]])
 (.cond (.t 22)
 (.seq (.draw [
 oN 24 (.fa 0 (.t 3)) [],
 oN 25 (.ld 1 false (.t 24)) [0],
 oN 26 (.fa 1 (.t 2)) [],
 oN 27 (.ld 1 false (.t 26)) [2],
 oN 28 (.ia 14 (.t 27) (cI 0)) [3],
 oN 29 (.ld 14 true (.t 28)) [4],
 oN 30 (.call 16 [(.t 29)]) [5],
 oN 31 (.call 57 [(.t 25), (.t 30)]) [1,6,6],
 oN 32 (.mv (.t 5)) [],
 oN 33 (.call 57 [(.t 31), (.t 32)]) [7,8,7],
 oN 34 (.fa 1 (.t 3)) [],
 oN 35 (.ld 1 false (.t 34)) [10],
 oN 36 (.mv (.t 5)) [],
 oN 37 (.call 57 [(.t 35), (.t 36)]) [11,12,9],
 oN 38 (.fa 3 (.t 2)) [],
 oN 39 (.ld 1 false (.t 38)) [14],
 oN 40 (.build [vN, vN, (vI 0)] [(0, 1, (.t 33)), (1, 1, (.t 37)), (2, 1, (.t 39))]) [9,13,15],
 eN (.st 3 (.t 4) (.t 40)) [16,13,0,1,2,3,4,5,6,7,8,9,10,11,12,13,14,15,16]])
 .ret)
 .skip))))))
 (.seq (.draw [
 oN 41 (.fa 0 (.t 3)) [],
 oN 42 (.ld 1 false (.t 41)) [0],
 oN 43 (.fa 1 (.t 2)) [],
 oN 44 (.ld 1 false (.t 43)) [2],
 oN 45 (.ia 14 (.t 44) (cI 0)) [3],
 oN 46 (.ld 14 true (.t 45)) [4],
 oN 47 (.call 16 [(.t 46)]) [5],
 oN 48 (.call 57 [(.t 42), (.t 47)]) [1,6,6],
 oN 49 (.fa 1 (.t 3)) [],
 oN 50 (.ld 1 false (.t 49)) [8],
 oN 51 (.fa 1 (.t 2)) [],
 oN 52 (.ld 1 false (.t 51)) [10],
 oN 53 (.ia 14 (.t 52) (cI 0)) [11],
 oN 54 (.ld 14 true (.t 53)) [12],
 oN 55 (.call 38 [(.t 54)]) [13,7],
 oN 56 (.call 57 [(.t 50), (.t 55)]) [9,14,14],
 oN 57 (.build [vN, vN, (vI 0)] [(0, 1, (.t 48)), (1, 1, (.t 56)), (2, 1, (cI (-1)))]) [7,15],
 eN (.st 3 (.t 4) (.t 57)) [16,15,0,1,2,3,4,5,6,7,8,9,10,11,12,13,14,15,16]])
 .ret))))
theorem Trydp37 : (Tryd.f37.body.map (prep Tryd.prog 58)) = some Trydc37 := by kernel_rfl
def Trydc38 : ACode :=
 (.seq (.reg [
 oN 1 (.box (.t 0)) [],
 oN 2 (.mv cN) []])
 (.seq (.seq (.reg [
 oN 6 (.fa 0 (.t 1)) [],
 oN 7 (.ld 1 false (.t 6)) [0],
 oN 8 (.iaA 2 8 (.g 0) (.t 7)) [1],
 oN 9 (.fa 0 (.t 8)) [2],
 oN 10 (.ld 1 false (.t 9)) [3],
 oN 11 (.un .not (.t 10)) [4]])
 (.cond (.t 11)
 (.seq (.reg [
 oN 2 (.mv cN) []])
 .ret)
 .skip))
 (.seq (.seq (.reg [
 oN 12 (.fa 0 (.t 1)) [],
 oN 13 (.ld 1 false (.t 12)) [0],
 oN 14 (.bin .eql (.t 13) (cI 0)) [1]])
 (.cond (.t 14)
 (.seq (.reg [
 oN 15 (.fa 3 (.t 1)) [],
 oN 16 (.ld 1 false (.t 15)) [0],
 oN 17 (.bslice 1 [(.t 16)]) [1],
 oN 2 (.mv (.t 17)) [2,0,1,2]])
 .ret)
 .skip))
 (.seq (.reg [
 oN 3 (.mv cN) []])
 (.seq (.seq (.reg [
 oN 18 (.fa 1 (.t 1)) [],
 oN 19 (.ld 1 false (.t 18)) [0],
 oN 20 (.len (.t 19)) [1],
 oN 21 (.mv (cI 0)) []])
 (.block 0
 (.loop
 (.seq (.reg [
 oN 22 (.bin .lss (.t 21) (.t 20)) []])
 (.seq (.cond (.t 22)
 .skip
 (.exit 0))
 (.seq (.block 1
 (.seq (.reg [
 oN 23 (.ia 14 (.t 19) (.t 21)) [],
 oN 24 (.ld 14 true (.t 23)) [0],
 oN 5 (.box (.c (.agg zP))) [],
 eN (.st 14 (.t 5) (.t 24)) [2,1,0,1,2]])
 (.reg [
 oN 25 (.mv (.t 3)) [],
 oN 26 (.ld 14 true (.t 5)) [],
 oN 27 (.call 38 [(.t 26)]) [1],
 oN 28 (.call 57 [(.t 25), (.t 27)]) [0,2,2],
 oN 3 (.mv (.t 28)) [3,3,0,1,2,3]])))
 (.reg [
 oN 29 (.bin .add (.t 21) (cI 1)) [],
 oN 21 (.mv (.t 29)) [0]])))))))
 (.seq (.reg [
 oN 30 (.mv (.t 3)) [],
 oN 2 (.mv (.t 30)) [0,0]])
 .ret))))))
theorem Trydp38 : (Tryd.f38.body.map (prep Tryd.prog 31)) = some Trydc38 := by kernel_rfl
def Trydc39 : ACode :=
 (.seq (.reg [
 oN 1 (.box (.t 0)) [],
 oN 2 (.mv (cI 0)) []])
 (.seq (.reg [
 oN 6 (.ld 8 true (.t 1)) [],
 oN 7 (.call 58 [(.t 6)]) [0],
 oN 5 (.mv (.t 7)) [1],
 oN 8 (.ext (.t 5) 0) [2],
 oN 9 (.ext (.t 5) 1) [2],
 oN 3 (.mv (.t 8)) [3,1,0,1,2,3],
 oN 4 (.mv (.t 9)) [4,5,0,1,2,3,4,5]])
 (.seq (.block 0
 (.seq (.reg [
 oN 11 (.mv (.t 3)) [],
 oN 12 (.bin .gtr (.t 11) (cI 64)) [0],
 oN 10 (.mv (.t 12)) [1]])
 (.cond (.t 10)
 (.seq (.reg [
 oN 2 (.mv (cI 5)) []])
 .ret)
 (.seq (.reg [
 oN 14 (.mv (.t 4)) [],
 oN 15 (.bin .gtr (.t 14) (cI 12)) [0],
 oN 13 (.mv (.t 15)) [1]])
 (.cond (.t 13)
 (.seq (.reg [
 oN 2 (.mv (cI 12)) []])
 .ret)
 .skip)))))
 (.seq (.reg [
 oN 16 (.ld 8 true (.t 1)) [],
 oN 17 (.call 59 [(.t 16), (.c (.fn 60 []))]) [0],
 oN 2 (.mv (.t 17)) [1,1,0,1]])
 .ret))))
theorem Trydp39 : (Tryd.f39.body.map (prep Tryd.prog 18)) = some Trydc39 := by kernel_rfl
def Trydc40 : ACode :=
 (.seq (.reg [
 oN 1 (.box (.t 0)) [],
 oN 2 (.box (cI 0)) []])
 (.seq (.seq (.reg [
 oN 5 (.ld 14 true (.t 1)) [],
 oN 6 (.call 49 [(.t 5)]) [0],
 oN 3 (.mv (.t 6)) [1,1,0,1]])
 (.seq (.reg [
 oN 7 (.mv (.t 3)) [],
 oN 8 (.bin .neq (.t 7) (cI 0)) [0]])
 (.cond (.t 8)
 (.seq (.reg [
 oN 9 (.mv (.t 3)) [],
 eN (.st 1 (.t 2) (.t 9)) [0,0]])
 .ret)
 .skip)))
 (.seq (.seq (.reg [
 oN 10 (.ld 14 true (.t 1)) [],
 oN 11 (.call 43 [(.t 10)]) [0]])
 (.block 0
 (.rfun (.t 11) [12]
 (.reg [
 oN 4 (.box (.c (.agg zP))) [],
 eN (.st 14 (.t 4) (.t 12)) [0,0]])
 (.block 1
 (.seq (.reg [
 oN 13 (.fa 0 (.t 4)) [],
 oN 14 (.ld 1 false (.t 13)) [0],
 oN 15 (.bin .geq (.t 14) (cI 8)) [1]])
 (.cond (.t 15)
 (.seq (.reg [
 eN (.st 1 (.t 2) (cI 1)) []])
 .ret)
 .skip))))))
 (.seq (.reg [
 eN (.st 1 (.t 2) (cI 0)) []])
 .ret))))
theorem Trydp40 : (Tryd.f40.body.map (prep Tryd.prog 16)) = some Trydc40 := by kernel_rfl
def Trydc41 : ACode :=
 (.seq (.reg [
 oN 1 (.box (.t 0)) [],
 oN 2 (.mv (cI 0)) [],
 oN 3 (.mv (cI 0)) [1],
 oN 4 (.mv (cB false)) [2]])
 (.seq (.reg [
 oN 5 (.box (cI 0)) [],
 oN 6 (.box (cI 0)) [],
 oN 7 (.box (cB false)) [],
 eN (.st 1 (.t 5) (cI 0)) [0,0,1,2],
 eN (.st 1 (.t 6) (cI 0)) [1,3,0,1,2,3],
 eN (.st 1 (.t 7) (cB true)) [2,4,0,1,2,3,4]])
 (.seq (.seq (.reg [
 oN 10 (.ld 14 true (.t 1)) [],
 oN 11 (.call 43 [(.t 10)]) [0]])
 (.block 0
 (.rfun (.t 11) [12]
 (.reg [
 oN 8 (.box (.c (.agg zP))) [],
 eN (.st 14 (.t 8) (.t 12)) [0,0]])
 (.block 1
 (.seq (.reg [
 oN 13 (.fa 0 (.t 8)) [],
 oN 14 (.ld 1 false (.t 13)) [0],
 oN 15 (.iaA 6 11 (.g 1) (.t 14)) [1],
 oN 16 (.ld 6 true (.t 15)) [2],
 oN 9 (.box (.c (.agg [(vI 0), (vI 0), (.val (.bool false)), (.val (.bool false)), (.val (.bool false)), (.val (.bool false))]))) [],
 eN (.st 6 (.t 9) (.t 16)) [4,3,0,1,2,3,4]])
 (.seq (.seq (.reg [
 oN 17 (.fa 2 (.t 9)) [],
 oN 18 (.ld 1 false (.t 17)) [0]])
 (.cond (.t 18)
 (.seq (.reg [
 oN 19 (.ld 1 false (.t 7)) [],
 oN 20 (.mv (.t 19)) [0],
 oG 21 (.fa 3 (.t 8)) [1] 20 true,
 oG 22 (.ld 1 false (.t 21)) [2,1] 20 true,
 oG 23 (.ld 1 false (.t 5)) [1] 20 true,
 oG 24 (.bin .eql (.t 22) (.t 23)) [3,4,1] 20 true,
 oN 25 (.pick (.t 20) (.t 24) (cB false)) [1,5],
 eN (.st 1 (.t 7) (.t 25)) [6,1,0,1,2,3,4,5,6]])
 (.reg [
 oN 26 (.ld 1 false (.t 5)) [],
 oN 27 (.bin .add (.t 26) (cI 1)) [0],
 eN (.st 1 (.t 5) (.t 27)) [1,0,1]]))
 .skip))
 (.seq (.reg [
 oN 28 (.fa 4 (.t 9)) [],
 oN 29 (.ld 1 false (.t 28)) [0]])
 (.cond (.t 29)
 (.seq (.reg [
 oN 30 (.ld 1 false (.t 7)) [],
 oN 31 (.mv (.t 30)) [0],
 oG 32 (.fa 4 (.t 8)) [1] 31 true,
 oG 33 (.ld 1 false (.t 32)) [2,1] 31 true,
 oG 34 (.ld 1 false (.t 6)) [1] 31 true,
 oG 35 (.bin .eql (.t 33) (.t 34)) [3,4,1] 31 true,
 oN 36 (.pick (.t 31) (.t 35) (cB false)) [1,5],
 eN (.st 1 (.t 7) (.t 36)) [6,1,0,1,2,3,4,5,6]])
 (.reg [
 oN 37 (.ld 1 false (.t 6)) [],
 oN 38 (.bin .add (.t 37) (cI 1)) [0],
 eN (.st 1 (.t 6) (.t 38)) [1,0,1]]))
 .skip))))))))
 (.seq (.draw [
 oN 39 (.ld 1 false (.t 5)) [],
 oN 40 (.ld 1 false (.t 6)) [],
 oN 41 (.ld 1 false (.t 7)) [],
 oN 2 (.mv (.t 39)) [0,0],
 oN 3 (.mv (.t 40)) [1,3,0,1,3],
 oN 4 (.mv (.t 41)) [2,4,0,1,2,3,4]])
 .ret))))
theorem Trydp41 : (Tryd.f41.body.map (prep Tryd.prog 42)) = some Trydc41 := by kernel_rfl
def Trydc42 : ACode :=
 (.seq (.reg [
 oN 4 (.mv (cI 0)) []])
 (.seq (.seq (.reg [
 oN 6 (.mv (.t 0)) [],
 oN 7 (.len (.t 6)) [0],
 oN 8 (.mv (cI 0)) []])
 (.block 0
 (.loop
 (.seq (.reg [
 oN 9 (.bin .lss (.t 8) (.t 7)) []])
 (.seq (.cond (.t 9)
 .skip
 (.exit 0))
 (.seq (.block 1
 (.seq (.reg [
 oN 10 (.mv (.t 8)) [],
 oN 5 (.mv (.t 10)) [0,0]])
 (.seq (.reg [
 oN 11 (.mv (.t 1)) [],
 oN 12 (.mv (.t 0)) [],
 oN 13 (.mv (.t 5)) [],
 oN 14 (.ia 1 (.t 12) (.t 13)) [1,2],
 oN 15 (.ld 1 false (.t 14)) [3],
 oN 16 (.bin .eql (.t 11) (.t 15)) [0,4]])
 (.cond (.t 16)
 (.seq (.reg [
 oN 17 (.mv (.t 5)) [],
 oN 4 (.mv (.t 17)) [0,0]])
 .ret)
 .skip))))
 (.reg [
 oN 18 (.bin .add (.t 8) (cI 1)) [],
 oN 8 (.mv (.t 18)) [0]])))))))
 (.seq (.reg [
 oN 4 (.mv (cI (-1))) []])
 .ret)))
theorem Trydp42 : (Tryd.f42.body.map (prep Tryd.prog 19)) = some Trydc42 := by kernel_rfl
def Trydc43 : ACode :=
 (.seq (.reg [
 oN 1 (.box (.t 0)) [],
 oN 2 (.mv (.c (.val .nilFunc))) []])
 (.seq (.reg [
 oN 3 (.mkfn 61 [(.t 1)]) [],
 oN 2 (.mv (.t 3)) [0,0]])
 .ret))
theorem Trydp43 : (Tryd.f43.body.map (prep Tryd.prog 4)) = some Trydc43 := by kernel_rfl
def Trydc44 : ACode :=
 (.seq (.reg [
 oN 3 (.mv (.t 0)) [],
 oN 4 (.len (.t 3)) [0],
 oN 2 (.mv (.t 4)) [1,0,1]])
 (.reg [
 oN 5 (.mv (.t 0)) [],
 oN 6 (.mv (.t 2)) [],
 oN 7 (.mv (.t 2)) [],
 oN 8 (.cvi .u64 (.t 7)) [2],
 oN 9 (.call 64 [(.t 8)]) [3],
 oN 10 (.call 63 [(.t 5), (cI 0), (.t 6), (.t 9)]) [0,1,4,4]]))
theorem Trydp44 : (Tryd.f44.body.map (prep Tryd.prog 11)) = some Trydc44 := by kernel_rfl
def Trydc45 : ACode :=
 (.seq (.reg [
 oN 2 (.mv cN) []])
 (.seq (.seq (.reg [
 oN 6 (.mv (.t 0)) [],
 oN 7 (.len (.t 6)) [0],
 oN 8 (.bin .lss (.t 7) (cI 2)) [1]])
 (.cond (.t 8)
 (.seq (.reg [
 oN 9 (.mv (.t 0)) [],
 oN 2 (.mv (.t 9)) [0,0]])
 .ret)
 .skip))
 (.seq (.seq (.reg [
 oN 3 (.mv (cI 1)) []])
 (.block 0
 (.loop
 (.seq (.seq (.reg [
 oN 10 (.mv (.t 3)) [],
 oN 11 (.mv (.t 0)) [],
 oN 12 (.len (.t 11)) [1],
 oN 13 (.bin .lss (.t 10) (.t 12)) [0,2]])
 (.cond (.t 13)
 .skip
 (.exit 0)))
 (.seq (.block 1
 (.seq (.draw [
 oN 16 (.mv (.t 0)) [],
 oN 17 (.mv (.t 3)) [],
 oN 18 (.ia 1 (.t 16) (.t 17)) [0,1],
 oN 19 (.ld 1 false (.t 18)) [2],
 oN 20 (.mv (.t 0)) [],
 oN 21 (.mv (.t 3)) [],
 oN 22 (.bin .sub (.t 21) (cI 1)) [5],
 oN 23 (.ia 1 (.t 20) (.t 22)) [4,6],
 oN 24 (.ld 1 false (.t 23)) [7],
 oN 25 (.bin .eql (.t 19) (.t 24)) [3,8]])
 (.cond (.t 25)
 (.seq (.reg [
 oN 26 (.mv (.t 0)) [],
 oN 27 (.mv (.t 3)) [],
 oN 28 (.slc 1 (.t 26) (some (.t 27)) none) [0,1],
 oN 4 (.mv (.t 28)) [2,0,1,2]])
 (.seq (.seq (.reg [
 oN 5 (.mv (cI 1)) []])
 (.block 2
 (.loop
 (.seq (.seq (.reg [
 oN 29 (.mv (.t 5)) [],
 oN 30 (.mv (.t 4)) [],
 oN 31 (.len (.t 30)) [1],
 oN 32 (.bin .lss (.t 29) (.t 31)) [0,2]])
 (.cond (.t 32)
 .skip
 (.exit 2)))
 (.seq (.block 3
 (.seq (.draw [
 oN 35 (.mv (.t 4)) [],
 oN 36 (.mv (.t 5)) [],
 oN 37 (.ia 1 (.t 35) (.t 36)) [0,1],
 oN 38 (.ld 1 false (.t 37)) [2],
 oN 39 (.mv (.t 4)) [],
 oN 40 (.mv (.t 5)) [],
 oN 41 (.bin .sub (.t 40) (cI 1)) [5],
 oN 42 (.ia 1 (.t 39) (.t 41)) [4,6],
 oN 43 (.ld 1 false (.t 42)) [7],
 oN 44 (.bin .neq (.t 38) (.t 43)) [3,8]])
 (.cond (.t 44)
 (.seq (.reg [
 oN 45 (.mv (.t 0)) [],
 oN 46 (.mv (.t 3)) [],
 oN 47 (.mv (.t 4)) [],
 oN 48 (.mv (.t 5)) [],
 oN 49 (.ia 1 (.t 47) (.t 48)) [2,3],
 oN 50 (.ld 1 false (.t 49)) [4],
 oN 51 (.ia 1 (.t 45) (.t 46)) [0,1,0,1,2,3,4,5],
 eN (.st 1 (.t 51) (.t 50)) [6,5,0,1,2,3,4,5]])
 (.reg [
 oN 52 (.mv (.t 3)) [],
 oN 53 (.bin .add (.t 52) (cI 1)) [0],
 oN 3 (.mv (.t 53)) [1,0,1]]))
 .skip)))
 (.reg [
 oN 33 (.mv (.t 5)) [],
 oN 34 (.bin .add (.t 33) (cI 1)) [0],
 oN 5 (.mv (.t 34)) [1,0,1]]))))))
 (.seq (.reg [
 oN 54 (.mv (.t 0)) [],
 oN 55 (.mv (.t 3)) [],
 oN 56 (.slc 1 (.t 54) (some (.t 55)) none) [0,1],
 eN (.bad) [2]])
 (.seq (.reg [
 oN 57 (.mv (.t 0)) [],
 oN 58 (.mv (.t 3)) [],
 oN 59 (.slc 1 (.t 57) none (some (.t 58))) [0,1],
 oN 2 (.mv (.t 59)) [2,0,1,2]])
 .ret))))
 .skip)))
 (.reg [
 oN 14 (.mv (.t 3)) [],
 oN 15 (.bin .add (.t 14) (cI 1)) [0],
 oN 3 (.mv (.t 15)) [1,0,1]]))))))
 (.seq (.reg [
 oN 60 (.mv (.t 0)) [],
 oN 2 (.mv (.t 60)) [0,0]])
 .ret))))
theorem Trydp45 : (Tryd.f45.body.map (prep Tryd.prog 61)) = some Trydc45 := by kernel_rfl
def Trydc46 : ACode :=
 (.seq (.reg [
 oN 2 (.box (.t 0)) [],
 oN 3 (.box (.t 1)) [],
 oN 4 (.box (.c (.agg [vN, vN, (vI 0)]))) [],
 oN 5 (.mv (cI 0)) []])
 (.seq (.seq (.reg [
 oN 9 (.ld 14 true (.t 2)) [],
 oN 10 (.call 14 [(.t 9)]) [0],
 oN 6 (.mv (.t 10)) [1,1,0,1]])
 (.seq (.reg [
 oN 11 (.mv (.t 6)) [],
 oN 12 (.bin .neq (.t 11) (cI 0)) [0]])
 (.cond (.t 12)
 (.seq (.reg [
 oN 13 (.build [vN, vN, (vI 0)] []) [],
 oN 14 (.mv (.t 6)) [],
 eN (.st 3 (.t 4) (.t 13)) [0,0],
 oN 5 (.mv (.t 14)) [1,2,0,1,2]])
 .ret)
 .skip)))
 (.seq (.reg [
 oN 15 (.build [vN, vN, (vI 0)] []) [],
 oN 7 (.box (.c (.agg [vN, vN, (vI 0)]))) [],
 oN 8 (.box (cI 0)) [],
 eN (.st 3 (.t 7) (.t 15)) [1,0,0,1,2],
 eN (.st 1 (.t 8) (cI 6)) [2,3,0,1,2,3]])
 (.seq (.reg [
 oN 16 (.ld 14 true (.t 2)) [],
 oN 17 (.mkfn 65 [(.t 3), (.t 8), (.t 7)]) [],
 oN 18 (.call 34 [(.t 16), (.t 17)]) [0,1]])
 (.seq (.draw [
 oN 19 (.ld 3 true (.t 7)) [],
 oN 20 (.ld 1 false (.t 8)) [],
 eN (.st 3 (.t 4) (.t 19)) [0,0],
 oN 5 (.mv (.t 20)) [1,2,0,1,2]])
 .ret)))))
theorem Trydp46 : (Tryd.f46.body.map (prep Tryd.prog 21)) = some Trydc46 := by kernel_rfl
def Trydc47 : ACode :=
 (.seq (.reg [
 oN 4 (.mv (cI 0)) []])
 (.seq (.seq (.reg [
 oN 6 (.mv (.t 0)) [],
 oN 7 (.len (.t 6)) [0],
 oN 8 (.mv (cI 0)) []])
 (.block 0
 (.loop
 (.seq (.reg [
 oN 9 (.bin .lss (.t 8) (.t 7)) []])
 (.seq (.cond (.t 9)
 .skip
 (.exit 0))
 (.seq (.block 1
 (.seq (.reg [
 oN 10 (.mv (.t 8)) [],
 oN 5 (.mv (.t 10)) [0,0]])
 (.seq (.reg [
 oN 11 (.mv (.t 1)) [],
 oN 12 (.mv (.t 0)) [],
 oN 13 (.mv (.t 5)) [],
 oN 14 (.ia 1 (.t 12) (.t 13)) [1,2],
 oN 15 (.ld 1 false (.t 14)) [3],
 oN 16 (.callv (.t 11) [(.t 15)]) [0,4]])
 (.cond (.t 16)
 (.seq (.reg [
 oN 17 (.mv (.t 5)) [],
 oN 4 (.mv (.t 17)) [0,0]])
 .ret)
 .skip))))
 (.reg [
 oN 18 (.bin .add (.t 8) (cI 1)) [],
 oN 8 (.mv (.t 18)) [0]])))))))
 (.seq (.reg [
 oN 4 (.mv (cI (-1))) []])
 .ret)))
theorem Trydp47 : (Tryd.f47.body.map (prep Tryd.prog 19)) = some Trydc47 := by kernel_rfl
def Trydc48 : ACode :=
 (.seq (.reg [
 oN 4 (.mv (cB false)) []])
 (.seq (.reg [
 oN 5 (.mv (.t 0)) [],
 oN 6 (.call 66 [(.t 5)]) [0],
 oN 7 (.mv (.t 6)) [1,1],
 oG 8 (.mv (.t 1)) [2] 7 true,
 oG 9 (.call 66 [(.t 8)]) [3,2,2] 7 true,
 oG 10 (.un .not (.t 9)) [4,2] 7 true,
 oN 11 (.pick (.t 7) (.t 10) (cB false)) [2,5],
 oN 12 (.mv (.t 11)) [6,4],
 oG 13 (.mv (.t 0)) [7] 12 false,
 oG 14 (.mv (.t 1)) [7] 12 false,
 oG 15 (.bin .lss (.t 13) (.t 14)) [8,9,7] 12 false,
 oN 16 (.pick (.t 12) (cB true) (.t 15)) [7,10],
 oN 4 (.mv (.t 16)) [11,7,0,1,2,3,4,5,6,7,8,9,10,11]])
 .ret))
theorem Trydp48 : (Tryd.f48.body.map (prep Tryd.prog 17)) = some Trydc48 := by kernel_rfl
def Trydc49 : ACode :=
 (.seq (.reg [
 oN 1 (.box (.t 0)) [],
 oN 2 (.box (cI 0)) []])
 (.seq (.reg [
 oN 8 (.ld 14 true (.t 1)) [],
 oN 9 (.call 7 [(.t 8)]) [0],
 oN 7 (.mv (.t 9)) [1],
 oN 10 (.ext (.t 7) 0) [2],
 oN 11 (.ext (.t 7) 1) [2],
 oN 3 (.mv (.t 10)) [3,1,0,1,2,3],
 oN 4 (.mv (.t 11)) [4,5,0,1,2,3,4,5]])
 (.seq (.seq (.reg [
 oN 12 (.mv (.t 3)) [],
 oN 13 (.bin .gtr (.t 12) (cI 64)) [0]])
 (.cond (.t 13)
 (.seq (.reg [
 eN (.st 1 (.t 2) (cI 5)) []])
 .ret)
 .skip))
 (.seq (.seq (.reg [
 oN 14 (.mv (.t 4)) [],
 oN 15 (.bin .gtr (.t 14) (cI 12)) [0]])
 (.cond (.t 15)
 (.seq (.reg [
 eN (.st 1 (.t 2) (cI 12)) []])
 .ret)
 .skip))
 (.seq (.seq (.reg [
 oN 16 (.ld 14 true (.t 1)) [],
 oN 17 (.call 43 [(.t 16)]) [0]])
 (.block 0
 (.rfun (.t 17) [18]
 (.reg [
 oN 5 (.box (.c (.agg zP))) [],
 eN (.st 14 (.t 5) (.t 18)) [0,0]])
 (.block 1
 (.seq (.reg [
 oN 19 (.ld 14 true (.t 5)) [],
 oN 20 (.call 67 [(.t 19)]) [0],
 oN 6 (.mv (.t 20)) [1,1,0,1]])
 (.seq (.reg [
 oN 21 (.mv (.t 6)) [],
 oN 22 (.bin .neq (.t 21) (cI 0)) [0]])
 (.cond (.t 22)
 (.seq (.reg [
 oN 23 (.mv (.t 6)) [],
 eN (.st 1 (.t 2) (.t 23)) [0,0]])
 .ret)
 .skip)))))))
 (.seq (.reg [
 eN (.st 1 (.t 2) (cI 0)) []])
 .ret))))))
theorem Trydp49 : (Tryd.f49.body.map (prep Tryd.prog 24)) = some Trydc49 := by kernel_rfl
def Trydc50 : ACode :=
 (.seq (.reg [
 oN 2 (.box (.t 0)) [],
 oN 3 (.box (.t 1)) [],
 oN 4 (.box (.c (.agg zE))) [],
 oN 5 (.mv (cI 0)) []])
 (.seq (.seq (.reg [
 oN 8 (.ld 8 true (.t 2)) [],
 oN 9 (.call 39 [(.t 8)]) [0],
 oN 6 (.mv (.t 9)) [1,1,0,1]])
 (.seq (.reg [
 oN 10 (.mv (.t 6)) [],
 oN 11 (.bin .neq (.t 10) (cI 0)) [0]])
 (.cond (.t 11)
 (.seq (.reg [
 oN 12 (.build zE []) [],
 oN 13 (.mv (.t 6)) [],
 eN (.st 8 (.t 4) (.t 12)) [0,0],
 oN 5 (.mv (.t 13)) [1,2,0,1,2]])
 .ret)
 .skip)))
 (.seq (.reg [
 oN 14 (.ld 8 true (.t 2)) [],
 oN 15 (.mkfn 68 [(.t 3)]) [],
 oN 16 (.call 59 [(.t 14), (.t 15)]) [0,1],
 oN 7 (.mv (.t 16)) [2,2,0,1,2]])
 (.seq (.seq (.reg [
 oN 17 (.mv (.t 7)) [],
 oN 18 (.bin .neq (.t 17) (cI 0)) [0]])
 (.cond (.t 18)
 (.seq (.reg [
 oN 19 (.build zE []) [],
 oN 20 (.mv (.t 7)) [],
 eN (.st 8 (.t 4) (.t 19)) [0,0],
 oN 5 (.mv (.t 20)) [1,2,0,1,2]])
 .ret)
 .skip))
 (.seq (.reg [
 oN 21 (.ld 8 true (.t 2)) [],
 oN 22 (.mkfn 71 [(.t 3)]) [],
 oN 23 (.call 70 [(.t 21), (.t 22)]) [0,1],
 eN (.st 8 (.t 4) (.t 23)) [2,2,0,1,2],
 oN 5 (.mv (cI 0)) [3,0,1,2,3]])
 .ret)))))
theorem Trydp50 : (Tryd.f50.body.map (prep Tryd.prog 24)) = some Trydc50 := by kernel_rfl
def Trydc51 : ACode :=
 (.seq (.reg [
 oN 2 (.box (.t 0)) [],
 oN 4 (.box (.c (.agg zP))) []])
 (.seq (.reg [
 oN 9 (.fa 0 (.t 2)) [],
 oN 10 (.ld 1 false (.t 9)) [0],
 oN 11 (.iaA 6 11 (.g 1) (.t 10)) [1],
 oN 12 (.ld 6 true (.t 11)) [2],
 oN 5 (.box (.c (.agg [(vI 0), (vI 0), (.val (.bool false)), (.val (.bool false)), (.val (.bool false)), (.val (.bool false))]))) [],
 eN (.st 6 (.t 5) (.t 12)) [4,3,0,1,2,3,4]])
 (.seq (.seq (.reg [
 oN 13 (.fa 2 (.t 5)) [],
 oN 14 (.ld 1 false (.t 13)) [0]])
 (.cond (.t 14)
 (.reg [
 oN 15 (.mv (.t 1)) [],
 oN 16 (.fa 3 (.t 2)) [],
 oN 17 (.ld 1 false (.t 16)) [1],
 oN 18 (.ia 1 (.t 15) (.t 17)) [0,2],
 oN 19 (.ld 1 false (.t 18)) [3],
 oN 20 (.fa 3 (.t 2)) [0,1,2,3,4],
 eN (.st 1 (.t 20) (.t 19)) [5,4,0,1,2,3,4]])
 .skip))
 (.seq (.seq (.reg [
 oN 21 (.fa 3 (.t 5)) [],
 oN 22 (.ld 1 false (.t 21)) [0]])
 (.cond (.t 22)
 (.reg [
 oN 24 (.fa 6 (.t 2)) [],
 oN 25 (.ld 8 true (.t 24)) [0],
 oN 26 (.mv (.t 1)) [],
 oN 27 (.call 50 [(.t 25), (.t 26)]) [1,2],
 oN 23 (.mv (.t 27)) [3],
 oN 28 (.ext (.t 23) 0) [4],
 oN 29 (.ext (.t 23) 1) [4],
 oN 30 (.fa 6 (.t 2)) [0,1,2,3,4,5],
 eN (.st 8 (.t 30) (.t 28)) [7,5,3,0,1,2,3,4,5]])
 .skip))
 (.seq (.reg [
 oN 31 (.fa 1 (.t 2)) [],
 oN 32 (.ld 1 false (.t 31)) [0],
 oN 33 (.len (.t 32)) [1],
 oN 34 (.mkslice 14 152 (.agg zP) (.t 33) (.t 33)) [2,2],
 oN 6 (.mv (.t 34)) [3,0,1,2,3]])
 (.seq (.seq (.reg [
 oN 35 (.fa 1 (.t 2)) [],
 oN 36 (.ld 1 false (.t 35)) [0],
 oN 37 (.len (.t 36)) [1],
 oN 38 (.mv (cI 0)) []])
 (.block 0
 (.loop
 (.seq (.reg [
 oN 39 (.bin .lss (.t 38) (.t 37)) []])
 (.seq (.cond (.t 39)
 .skip
 (.exit 0))
 (.seq (.block 1
 (.seq (.reg [
 oN 40 (.mv (.t 38)) [],
 oN 41 (.ia 14 (.t 36) (.t 38)) [],
 oN 42 (.ld 14 true (.t 41)) [1],
 oN 8 (.box (.c (.agg zP))) [],
 oN 7 (.mv (.t 40)) [0,0,1,2,3],
 eN (.st 14 (.t 8) (.t 42)) [3,2,4,0,1,2,3,4]])
 (.reg [
 oN 43 (.mv (.t 6)) [],
 oN 44 (.mv (.t 7)) [],
 oN 45 (.ld 14 true (.t 8)) [],
 oN 46 (.mv (.t 1)) [],
 oN 47 (.call 51 [(.t 45), (.t 46)]) [2,3],
 oN 48 (.ia 14 (.t 43) (.t 44)) [0,1,0,1,2,3,4],
 eN (.st 14 (.t 48) (.t 47)) [5,4,4,0,1,2,3,4]])))
 (.reg [
 oN 49 (.bin .add (.t 38) (cI 1)) [],
 oN 38 (.mv (.t 49)) [0]])))))))
 (.seq (.reg [
 oN 50 (.mv (.t 6)) [],
 oN 51 (.fa 1 (.t 2)) [0],
 eN (.st 1 (.t 51) (.t 50)) [1,0,0]])
 (.seq (.reg [
 oN 52 (.ld 14 true (.t 2)) [],
 eN (.st 14 (.t 4) (.t 52)) [0,0]])
 .ret))))))))
theorem Trydp51 : (Tryd.f51.body.map (prep Tryd.prog 53)) = some Trydc51 := by kernel_rfl
def Trydc52 : ACode :=
 (.seq (.reg [
 oN 2 (.box (.c (.agg [(vI 0), (vI 0), (.val (.string ⟨#[]⟩))]))) []])
 (.seq (.seq (.reg [
 oN 3 (.mv (.t 0)) []])
 (.cond (.t 3)
 (.seq (.reg [
 oN 4 (.build [(vI 0), (vI 0), (.val (.string ⟨#[]⟩))] [(0, 1, (cI 1)), (1, 1, (cI 1))]) [],
 eN (.st 3 (.t 2) (.t 4)) [0,0]])
 .ret)
 .skip))
 (.seq (.reg [
 oN 5 (.build [(vI 0), (vI 0), (.val (.string ⟨#[]⟩))] [(0, 1, (cI 1))]) [],
 eN (.st 3 (.t 2) (.t 5)) [0,0]])
 .ret)))
theorem Trydp52 : (Tryd.f52.body.map (prep Tryd.prog 6)) = some Trydc52 := by kernel_rfl
def Trydc53 : ACode :=
 (.seq (.reg [
 oN 2 (.box (.t 0)) [],
 oN 4 (.mv (cI 0)) []])
 (.seq (.reg [
 oN 5 (.mv (cI 1)) []])
 (.seq (.seq (.reg [
 oN 6 (.mv (cI 0)) []])
 (.block 0
 (.loop
 (.seq (.seq (.reg [
 oN 7 (.mv (.t 6)) [],
 oN 8 (.fa 1 (.t 2)) [],
 oN 9 (.ld 1 false (.t 8)) [1],
 oN 10 (.len (.t 9)) [2],
 oN 11 (.bin .lss (.t 7) (.t 10)) [0,3],
 oN 12 (.mv (.t 11)) [4],
 oG 13 (.mv (.t 5)) [5] 12 true,
 oG 14 (.mv (.t 1)) [5] 12 true,
 oG 15 (.bin .leq (.t 13) (.t 14)) [6,7,5] 12 true,
 oN 16 (.pick (.t 12) (.t 15) (cB false)) [5,8]])
 (.cond (.t 16)
 .skip
 (.exit 0)))
 (.seq (.block 1
 (.reg [
 oN 19 (.mv (.t 5)) [],
 oN 20 (.fa 1 (.t 2)) [],
 oN 21 (.ld 1 false (.t 20)) [1],
 oN 22 (.mv (.t 6)) [],
 oN 23 (.ia 14 (.t 21) (.t 22)) [2,3],
 oN 24 (.ld 14 true (.t 23)) [4],
 oN 25 (.mv (.t 1)) [],
 oN 26 (.call 53 [(.t 24), (.t 25)]) [5,6],
 oN 27 (.bin .add (.t 19) (.t 26)) [0,7],
 oN 5 (.mv (.t 27)) [8,7,0,1,2,3,4,5,6,7,8]]))
 (.reg [
 oN 17 (.mv (.t 6)) [],
 oN 18 (.bin .add (.t 17) (cI 1)) [0],
 oN 6 (.mv (.t 18)) [1,0,1]]))))))
 (.seq (.reg [
 oN 28 (.mv (.t 5)) [],
 oN 4 (.mv (.t 28)) [0,0]])
 .ret))))
theorem Trydp53 : (Tryd.f53.body.map (prep Tryd.prog 29)) = some Trydc53 := by kernel_rfl
def Trydc54 : ACode :=
 (.seq (.reg [
 oN 1 (.box (.t 0)) [],
 oN 2 (.mv (cI 0)) []])
 (.seq (.reg [
 oN 3 (.mv (cI 0)) []])
 (.seq (.seq (.reg [
 oN 4 (.mv (cI 0)) []])
 (.block 0
 (.loop
 (.seq (.seq (.reg [
 oN 5 (.mv (.t 4)) [],
 oN 6 (.fa 1 (.t 1)) [],
 oN 7 (.ld 1 false (.t 6)) [1],
 oN 8 (.len (.t 7)) [2],
 oN 9 (.bin .lss (.t 5) (.t 8)) [0,3]])
 (.cond (.t 9)
 .skip
 (.exit 0)))
 (.seq (.block 1
 (.reg [
 oN 12 (.mv (.t 3)) [],
 oN 13 (.fa 1 (.t 1)) [],
 oN 14 (.ld 1 false (.t 13)) [1],
 oN 15 (.mv (.t 4)) [],
 oN 16 (.ia 14 (.t 14) (.t 15)) [2,3],
 oN 17 (.ld 14 true (.t 16)) [4],
 oN 18 (.call 54 [(.t 17)]) [5],
 oN 19 (.mx [(.t 12), (.t 18)]) [0,6],
 oN 3 (.mv (.t 19)) [7,6,0,1,2,3,4,5,6,7]]))
 (.reg [
 oN 10 (.mv (.t 4)) [],
 oN 11 (.bin .add (.t 10) (cI 1)) [0],
 oN 4 (.mv (.t 11)) [1,0,1]]))))))
 (.seq (.reg [
 oN 20 (.mv (.t 3)) [],
 oN 21 (.bin .add (.t 20) (cI 1)) [0],
 oN 2 (.mv (.t 21)) [1,0,1]])
 .ret))))
theorem Trydp54 : (Tryd.f54.body.map (prep Tryd.prog 22)) = some Trydc54 := by kernel_rfl
def Trydc55 : ACode :=
 (.seq (.reg [
 oN 1 (.box (.t 0)) [],
 oN 2 (.mv (cI 0)) []])
 (.seq (.reg [
 oN 9 (.fa 0 (.t 1)) [],
 oN 10 (.ld 1 false (.t 9)) [0],
 oN 11 (.call 72 [(.t 10)]) [1],
 oN 3 (.mv (.t 11)) [2,2,0,1,2]])
 (.seq (.seq (.reg [
 oN 12 (.mv (.t 3)) [],
 oN 13 (.bin .lss (.t 12) (cI 0)) [0]])
 (.cond (.t 13)
 (.seq (.reg [
 oN 2 (.mv (cI 1)) []])
 .ret)
 .skip))
 (.seq (.seq (.reg [
 oN 14 (.fa 1 (.t 1)) [],
 oN 15 (.ld 1 false (.t 14)) [0],
 oN 16 (.len (.t 15)) [1],
 oN 17 (.mv (.t 3)) [],
 oN 18 (.bin .neq (.t 16) (.t 17)) [2,3]])
 (.cond (.t 18)
 (.seq (.reg [
 oN 2 (.mv (cI 15)) []])
 .ret)
 .skip))
 (.seq (.reg [
 oN 20 (.fa 0 (.t 1)) [],
 oN 21 (.ld 1 false (.t 20)) [0],
 oN 22 (.call 73 [(.t 21)]) [1],
 oN 19 (.mv (.t 22)) [2],
 oN 23 (.ext (.t 19) 0) [3],
 oN 24 (.ext (.t 19) 1) [3],
 oN 4 (.mv (.t 23)) [4,2,0,1,2,3,4],
 oN 5 (.mv (.t 24)) [5,6,0,1,2,3,4,5,6]])
 (.seq (.seq (.reg [
 oN 25 (.mv (.t 4)) [],
 oN 26 (.mv (.t 25)) [0],
 oG 27 (.fa 2 (.t 1)) [1] 26 true,
 oG 28 (.ld 1 false (.t 27)) [2,1] 26 true,
 oG 29 (.bin .lss (.t 28) (cI 0)) [3,1] 26 true,
 oG 30 (.mv (.t 29)) [4,1,1] 26 true,
 oG 31 (.fa 2 (.t 1)) [5] 30 false,
 oG 32 (.ld 1 false (.t 31)) [6,5] 30 false,
 oG 33 (.bin .geq (.t 32) (cI 16)) [7,5] 30 false,
 oG 34 (.pick (.t 30) (cB true) (.t 33)) [5,8,1] 26 true,
 oN 35 (.pick (.t 26) (.t 34) (cB false)) [1,9],
 oN 36 (.mv (.t 35)) [10,5],
 oG 37 (.mv (.t 5)) [11] 36 false,
 oG 38 (.mv (.t 37)) [12,11,11] 36 false,
 oG 39 (.fa 3 (.t 1)) [13] 38 true,
 oG 40 (.ld 1 false (.t 39)) [14,13] 38 true,
 oG 41 (.bin .lss (.t 40) (cI 0)) [15,13] 38 true,
 oG 42 (.mv (.t 41)) [16,13,13] 38 true,
 oG 43 (.fa 3 (.t 1)) [17] 42 false,
 oG 44 (.ld 1 false (.t 43)) [18,17] 42 false,
 oG 45 (.bin .geq (.t 44) (cI 8)) [19,17] 42 false,
 oG 46 (.pick (.t 42) (cB true) (.t 45)) [17,20,13] 38 true,
 oG 47 (.pick (.t 38) (.t 46) (cB false)) [13,21,11] 36 false,
 oN 48 (.pick (.t 36) (cB true) (.t 47)) [11,22]])
 (.cond (.t 48)
 (.seq (.reg [
 oN 2 (.mv (cI 2)) []])
 .ret)
 .skip))
 (.seq (.reg [
 oN 49 (.fa 0 (.t 1)) [],
 oN 50 (.ld 1 false (.t 49)) [0],
 oN 51 (.bin .eql (.t 50) (cI 4)) [1],
 oN 6 (.mv (.t 51)) [2,0,1,2]])
 (.seq (.seq (.reg [
 oN 52 (.mv (.t 6)) [],
 oN 53 (.mv (.t 52)) [0],
 oG 54 (.fa 4 (.t 1)) [1] 53 true,
 oG 55 (.ld 1 false (.t 54)) [2,1] 53 true,
 oG 56 (.bin .lss (.t 55) (cI 1)) [3,1] 53 true,
 oG 57 (.mv (.t 56)) [4,1,1] 53 true,
 oG 58 (.fa 4 (.t 1)) [5] 57 false,
 oG 59 (.ld 1 false (.t 58)) [6,5] 57 false,
 oG 60 (.bin .gtr (.t 59) (cI 5)) [7,5] 57 false,
 oG 61 (.pick (.t 57) (cB true) (.t 60)) [5,8,1] 53 true,
 oN 62 (.pick (.t 53) (.t 61) (cB false)) [1,9]])
 (.cond (.t 62)
 (.seq (.reg [
 oN 2 (.mv (cI 1)) []])
 .ret)
 .skip))
 (.seq (.reg [
 oN 63 (.mv (.t 6)) [],
 oN 64 (.mv (.t 63)) [0],
 oG 65 (.fa 0 (.t 1)) [1] 64 false,
 oG 66 (.ld 1 false (.t 65)) [2,1] 64 false,
 oG 67 (.bin .eql (.t 66) (cI 0)) [3,1] 64 false,
 oN 68 (.pick (.t 64) (cB true) (.t 67)) [1,4],
 oN 7 (.mv (.t 68)) [5,1,0,1,2,3,4,5]])
 (.seq (.seq (.reg [
 oN 69 (.mv (.t 7)) []])
 (.cond (.t 69)
 (.seq (.reg [
 oN 70 (.fa 5 (.t 1)) [],
 oN 71 (.ld 3 true (.t 70)) [0],
 oN 72 (.call 74 [(.t 71)]) [1],
 oN 8 (.mv (.t 72)) [2,2,0,1,2]])
 (.seq (.reg [
 oN 73 (.mv (.t 8)) [],
 oN 74 (.bin .neq (.t 73) (cI 0)) [0]])
 (.cond (.t 74)
 (.seq (.reg [
 oN 75 (.mv (.t 8)) [],
 oN 2 (.mv (.t 75)) [0,0]])
 .ret)
 .skip)))
 .skip))
 (.seq (.seq (.reg [
 oN 76 (.mv (.t 6)) [],
 oN 77 (.mv (.t 76)) [0],
 oG 78 (.fa 4 (.t 1)) [1] 77 true,
 oG 79 (.ld 1 false (.t 78)) [2,1] 77 true,
 oG 80 (.fa 5 (.t 1)) [1] 77 true,
 oG 81 (.ld 3 true (.t 80)) [4,1] 77 true,
 oG 82 (.call 75 [(.t 79), (.t 81)]) [3,5,1,1] 77 true,
 oG 83 (.un .not (.t 82)) [6,1] 77 true,
 oG 84 (.mv (.t 83)) [7,6,1] 77 true,
 oG 85 (.fa 4 (.t 1)) [8] 84 false,
 oG 86 (.ld 1 false (.t 85)) [9,8] 84 false,
 oG 87 (.bin .eql (.t 86) (cI 1)) [10,8] 84 false,
 oG 88 (.mv (.t 87)) [11,8,8] 84 false,
 oG 89 (.fa 5 (.t 1)) [12] 88 true,
 oG 90 (.ld 3 true (.t 89)) [13,12] 88 true,
 oG 91 (.build [(vI 0), (vI 0), (.val (.string ⟨#[]⟩))] []) [12] 88 true,
 oG 92 (.eqst true [.int, .int, .str] (.t 90) (.t 91)) [14,15,12] 88 true,
 oG 93 (.pick (.t 88) (.t 92) (cB false)) [12,16,8] 84 false,
 oG 94 (.pick (.t 84) (cB true) (.t 93)) [8,17,1] 77 true,
 oN 95 (.pick (.t 77) (.t 94) (cB false)) [1,18]])
 (.cond (.t 95)
 (.seq (.reg [
 oN 2 (.mv (cI 9)) []])
 .ret)
 .skip))
 (.seq (.seq (.reg [
 oN 96 (.mv (.t 4)) [],
 oN 97 (.un .not (.t 96)) [0],
 oN 98 (.mv (.t 97)) [1],
 oG 99 (.fa 2 (.t 1)) [2] 98 true,
 oG 100 (.ld 1 false (.t 99)) [3,2] 98 true,
 oG 101 (.bin .neq (.t 100) (cI 0)) [4,2] 98 true,
 oN 102 (.pick (.t 98) (.t 101) (cB false)) [2,5],
 oN 103 (.mv (.t 102)) [6,2],
 oG 104 (.mv (.t 5)) [7] 103 false,
 oG 105 (.un .not (.t 104)) [8,7] 103 false,
 oG 106 (.mv (.t 105)) [9,7,7] 103 false,
 oG 107 (.fa 3 (.t 1)) [10] 106 true,
 oG 108 (.ld 1 false (.t 107)) [11,10] 106 true,
 oG 109 (.bin .neq (.t 108) (cI 0)) [12,10] 106 true,
 oG 110 (.pick (.t 106) (.t 109) (cB false)) [10,13,7] 103 false,
 oN 111 (.pick (.t 103) (cB true) (.t 110)) [7,14],
 oN 112 (.mv (.t 111)) [15,10],
 oG 113 (.mv (.t 6)) [16] 112 false,
 oG 114 (.un .not (.t 113)) [17,16] 112 false,
 oG 115 (.mv (.t 114)) [18,16,16] 112 false,
 oG 116 (.fa 4 (.t 1)) [19] 115 true,
 oG 117 (.ld 1 false (.t 116)) [20,19] 115 true,
 oG 118 (.bin .neq (.t 117) (cI 0)) [21,19] 115 true,
 oG 119 (.pick (.t 115) (.t 118) (cB false)) [19,22,16] 112 false,
 oN 120 (.pick (.t 112) (cB true) (.t 119)) [16,23],
 oN 121 (.mv (.t 120)) [24,19],
 oG 122 (.mv (.t 7)) [25] 121 false,
 oG 123 (.un .not (.t 122)) [26,25] 121 false,
 oG 124 (.mv (.t 123)) [27,25,25] 121 false,
 oG 125 (.fa 5 (.t 1)) [28] 124 true,
 oG 126 (.ld 3 true (.t 125)) [29,28] 124 true,
 oG 127 (.build [(vI 0), (vI 0), (.val (.string ⟨#[]⟩))] []) [28] 124 true,
 oG 128 (.eqst true [.int, .int, .str] (.t 126) (.t 127)) [30,31,28] 124 true,
 oG 129 (.pick (.t 124) (.t 128) (cB false)) [28,32,25] 121 false,
 oN 130 (.pick (.t 121) (cB true) (.t 129)) [25,33]])
 (.cond (.t 130)
 (.seq (.reg [
 oN 2 (.mv (cI 3)) []])
 .ret)
 .skip))
 (.seq (.reg [
 oN 2 (.mv (cI 0)) []])
 .ret)))))))))))))
theorem Trydp55 : (Tryd.f55.body.map (prep Tryd.prog 131)) = some Trydc55 := by kernel_rfl
def Trydc56 : ACode :=
 (.seq (.reg [
 oN 5 (.box (.t 0)) [],
 oN 6 (.box (.t 1)) [],
 oN 7 (.mv (cB false)) []])
 (.seq (.reg [
 oN 10 (.ld 1 false (.t 2)) [],
 oN 11 (.bin .add (.t 10) (cI 1)) [0],
 eN (.st 1 (.t 2) (.t 11)) [1,0,1]])
 (.seq (.seq (.reg [
 oN 12 (.ld 1 false (.t 3)) [],
 oN 13 (.ld 1 false (.t 2)) [],
 oN 14 (.ld 14 true (.t 5)) [],
 oN 15 (.ld 3 true (.t 6)) [],
 oN 16 (.callv (.t 12) [(.t 13), (.t 14), (.t 15)]) [0,1,2,3],
 oN 17 (.un .not (.t 16)) [4]])
 (.cond (.t 17)
 (.seq (.reg [
 oN 7 (.mv (cB false)) []])
 .ret)
 .skip))
 (.seq (.seq (.reg [
 oN 18 (.fa 1 (.t 5)) [],
 oN 19 (.ld 1 false (.t 18)) [0],
 oN 20 (.len (.t 19)) [1],
 oN 21 (.mv (cI 0)) []])
 (.block 0
 (.loop
 (.seq (.reg [
 oN 22 (.bin .lss (.t 21) (.t 20)) []])
 (.seq (.cond (.t 22)
 .skip
 (.exit 0))
 (.seq (.block 1
 (.seq (.reg [
 oN 23 (.ia 14 (.t 19) (.t 21)) [],
 oN 24 (.ld 14 true (.t 23)) [0],
 oN 9 (.box (.c (.agg zP))) [],
 eN (.st 14 (.t 9) (.t 24)) [2,1,0,1,2]])
 (.seq (.seq (.reg [
 oN 25 (.ld 1 false (.t 4)) [],
 oN 26 (.ld 14 true (.t 9)) [],
 oN 27 (.ld 3 true (.t 6)) [],
 oN 28 (.callv (.t 25) [(.t 26), (.t 27)]) [0,1,2],
 oN 29 (.un .not (.t 28)) [3]])
 (.cond (.t 29)
 (.seq (.reg [
 oN 7 (.mv (cB false)) []])
 .ret)
 .skip))
 (.seq (.reg [
 oN 30 (.fa 0 (.t 5)) [],
 oN 31 (.ld 1 false (.t 30)) [0],
 oN 32 (.bin .eql (.t 31) (cI 1)) [1]])
 (.cond (.t 32)
 (.draw [
 oN 33 (.fa 0 (.t 6)) [],
 oN 34 (.ld 1 false (.t 33)) [0],
 oN 35 (.ld 14 true (.t 9)) [],
 oN 36 (.call 16 [(.t 35)]) [2],
 oN 37 (.call 57 [(.t 34), (.t 36)]) [1,3,3],
 oN 38 (.fa 1 (.t 6)) [],
 oN 39 (.ld 1 false (.t 38)) [5],
 oN 40 (.ld 14 true (.t 9)) [],
 oN 41 (.call 38 [(.t 40)]) [7,4],
 oN 42 (.call 57 [(.t 39), (.t 41)]) [6,8,8],
 oN 43 (.build [vN, vN, (vI 0)] [(0, 1, (.t 37)), (1, 1, (.t 42)), (2, 1, (cI (-1)))]) [4,9],
 eN (.st 3 (.t 6) (.t 43)) [10,9,0,1,2,3,4,5,6,7,8,9,10]])
 .skip)))))
 (.reg [
 oN 44 (.bin .add (.t 21) (cI 1)) [],
 oN 21 (.mv (.t 44)) [0]])))))))
 (.seq (.reg [
 oN 7 (.mv (cB true)) []])
 .ret)))))
theorem Trydp56 : (Tryd.f56.body.map (prep Tryd.prog 45)) = some Trydc56 := by kernel_rfl
def Trydc57 : ACode :=
 (.seq (.reg [
 oN 4 (.mv cN) []])
 (.seq (.reg [
 oN 6 (.mv (.t 0)) [],
 oN 7 (.mv (.t 1)) [],
 oN 8 (.bslice 1 [(.t 6), (.t 7)]) [0,1],
 oN 9 (.call 76 [(.t 8)]) [2],
 oN 5 (.mv (.t 9)) [3,3,0,1,2,3]])
 (.seq (.reg [
 oN 10 (.mv (.t 5)) [],
 oN 11 (.call 44 [(.t 10)]) [0]])
 (.seq (.reg [
 oN 12 (.mv (.t 5)) [],
 oN 13 (.call 45 [(.t 12)]) [0],
 oN 4 (.mv (.t 13)) [1,1,0,1]])
 .ret))))
theorem Trydp57 : (Tryd.f57.body.map (prep Tryd.prog 14)) = some Trydc57 := by kernel_rfl
def Trydc58 : ACode :=
 (.seq (.reg [
 oN 1 (.box (.t 0)) [],
 oN 2 (.mv (cI 0)) [],
 oN 3 (.mv (cI 0)) [1]])
 (.seq (.reg [
 oN 4 (.mv (cI 1)) [],
 oN 5 (.mv (cI 0)) [0,0]])
 (.seq (.seq (.reg [
 oN 10 (.fa 1 (.t 1)) [],
 oN 11 (.ld 1 false (.t 10)) [0],
 oN 12 (.len (.t 11)) [1],
 oN 13 (.mv (cI 0)) []])
 (.block 0
 (.loop
 (.seq (.reg [
 oN 14 (.bin .lss (.t 13) (.t 12)) []])
 (.seq (.cond (.t 14)
 .skip
 (.exit 0))
 (.seq (.block 1
 (.seq (.reg [
 oN 15 (.ia 8 (.t 11) (.t 13)) [],
 oN 16 (.ld 8 true (.t 15)) [0],
 oN 7 (.box (.c (.agg zE))) [],
 eN (.st 8 (.t 7) (.t 16)) [2,1,0,1,2]])
 (.seq (.reg [
 oN 18 (.ld 8 true (.t 7)) [],
 oN 19 (.call 58 [(.t 18)]) [0],
 oN 17 (.mv (.t 19)) [1],
 oN 20 (.ext (.t 17) 0) [2],
 oN 21 (.ext (.t 17) 1) [2],
 oN 8 (.mv (.t 20)) [3,1,0,1,2,3],
 oN 9 (.mv (.t 21)) [4,5,0,1,2,3,4,5]])
 (.reg [
 oN 22 (.mv (.t 4)) [],
 oN 23 (.mv (.t 8)) [],
 oN 24 (.bin .add (.t 22) (.t 23)) [0,1],
 oN 25 (.mv (.t 5)) [],
 oN 26 (.mv (.t 9)) [],
 oN 27 (.mx [(.t 25), (.t 26)]) [3,4],
 oN 4 (.mv (.t 24)) [2,0,1,2],
 oN 5 (.mv (.t 27)) [5,6,0,1,2,3,4,5,6]]))))
 (.reg [
 oN 28 (.bin .add (.t 13) (cI 1)) [],
 oN 13 (.mv (.t 28)) [0]])))))))
 (.seq (.reg [
 oN 29 (.mv (.t 4)) [],
 oN 30 (.mv (.t 5)) [],
 oN 31 (.bin .add (.t 30) (cI 1)) [1],
 oN 2 (.mv (.t 29)) [0,0],
 oN 3 (.mv (.t 31)) [2,3,0,1,2,3]])
 .ret))))
theorem Trydp58 : (Tryd.f58.body.map (prep Tryd.prog 32)) = some Trydc58 := by kernel_rfl
def Trydc59 : ACode :=
 (.seq (.reg [
 oN 2 (.box (.t 0)) [],
 oN 4 (.mv (cI 0)) []])
 (.seq (.seq (.reg [
 oN 9 (.mv (.t 1)) [],
 oN 10 (.ld 8 true (.t 2)) [],
 oN 11 (.callv (.t 9) [(.t 10)]) [0,1],
 oN 5 (.mv (.t 11)) [2,2,0,1,2]])
 (.seq (.reg [
 oN 12 (.mv (.t 5)) [],
 oN 13 (.bin .neq (.t 12) (cI 0)) [0]])
 (.cond (.t 13)
 (.seq (.reg [
 oN 14 (.mv (.t 5)) [],
 oN 4 (.mv (.t 14)) [0,0]])
 .ret)
 .skip)))
 (.seq (.seq (.reg [
 oN 15 (.fa 1 (.t 2)) [],
 oN 16 (.ld 1 false (.t 15)) [0],
 oN 17 (.len (.t 16)) [1],
 oN 18 (.mv (cI 0)) []])
 (.block 0
 (.loop
 (.seq (.reg [
 oN 19 (.bin .lss (.t 18) (.t 17)) []])
 (.seq (.cond (.t 19)
 .skip
 (.exit 0))
 (.seq (.block 1
 (.seq (.reg [
 oN 20 (.ia 8 (.t 16) (.t 18)) [],
 oN 21 (.ld 8 true (.t 20)) [0],
 oN 7 (.box (.c (.agg zE))) [],
 eN (.st 8 (.t 7) (.t 21)) [2,1,0,1,2]])
 (.seq (.reg [
 oN 22 (.ld 8 true (.t 7)) [],
 oN 23 (.mv (.t 1)) [],
 oN 24 (.call 59 [(.t 22), (.t 23)]) [0,1],
 oN 8 (.mv (.t 24)) [2,2,0,1,2]])
 (.seq (.reg [
 oN 25 (.mv (.t 8)) [],
 oN 26 (.bin .neq (.t 25) (cI 0)) [0]])
 (.cond (.t 26)
 (.seq (.reg [
 oN 27 (.mv (.t 8)) [],
 oN 4 (.mv (.t 27)) [0,0]])
 .ret)
 .skip)))))
 (.reg [
 oN 28 (.bin .add (.t 18) (cI 1)) [],
 oN 18 (.mv (.t 28)) [0]])))))))
 (.seq (.reg [
 oN 4 (.mv (cI 0)) []])
 .ret))))
theorem Trydp59 : (Tryd.f59.body.map (prep Tryd.prog 29)) = some Trydc59 := by kernel_rfl
def Trydc60 : ACode :=
 (.seq (.reg [
 oN 1 (.box (.t 0)) [],
 oN 2 (.mv (cI 0)) []])
 (.seq (.reg [
 oN 11 (.fa 0 (.t 1)) [],
 oN 12 (.ld 1 false (.t 11)) [0],
 oN 13 (.call 77 [(.t 12)]) [1],
 oN 10 (.mv (.t 13)) [2],
 oN 14 (.ext (.t 10) 0) [3],
 oN 15 (.ext (.t 10) 1) [3],
 oN 3 (.mv (.t 14)) [4,2,0,1,2,3,4],
 oN 4 (.mv (.t 15)) [5,6,0,1,2,3,4,5,6]])
 (.seq (.seq (.reg [
 oN 16 (.mv (.t 4)) [],
 oN 17 (.un .not (.t 16)) [0]])
 (.cond (.t 17)
 (.seq (.reg [
 oN 2 (.mv (cI 1)) []])
 .ret)
 .skip))
 (.seq (.seq (.reg [
 oN 18 (.fa 1 (.t 1)) [],
 oN 19 (.ld 1 false (.t 18)) [0],
 oN 20 (.len (.t 19)) [1],
 oN 21 (.mv (.t 3)) [],
 oN 22 (.bin .neq (.t 20) (.t 21)) [2,3]])
 (.cond (.t 22)
 (.seq (.reg [
 oN 2 (.mv (cI 15)) []])
 .ret)
 .skip))
 (.seq (.reg [
 oN 24 (.fa 0 (.t 1)) [],
 oN 25 (.ld 1 false (.t 24)) [0],
 oN 26 (.call 69 [(.t 25)]) [1],
 oN 23 (.mv (.t 26)) [2],
 oN 27 (.ext (.t 23) 0) [3],
 oN 28 (.ext (.t 23) 1) [3],
 oN 5 (.mv (.t 27)) [4,2,0,1,2,3,4],
 oN 6 (.mv (.t 28)) [5,6,0,1,2,3,4,5,6]])
 (.seq (.seq (.reg [
 oN 29 (.mv (.t 5)) [],
 oN 30 (.mv (.t 29)) [0],
 oG 31 (.fa 2 (.t 1)) [1] 30 true,
 oG 32 (.ld 1 false (.t 31)) [2,1] 30 true,
 oG 33 (.bin .lss (.t 32) (cI 0)) [3,1] 30 true,
 oG 34 (.mv (.t 33)) [4,1,1] 30 true,
 oG 35 (.fa 2 (.t 1)) [5] 34 false,
 oG 36 (.ld 1 false (.t 35)) [6,5] 34 false,
 oG 37 (.bin .geq (.t 36) (cI 16)) [7,5] 34 false,
 oG 38 (.pick (.t 34) (cB true) (.t 37)) [5,8,1] 30 true,
 oN 39 (.pick (.t 30) (.t 38) (cB false)) [1,9],
 oN 40 (.mv (.t 39)) [10,5],
 oG 41 (.mv (.t 6)) [11] 40 false,
 oG 42 (.mv (.t 41)) [12,11,11] 40 false,
 oG 43 (.fa 3 (.t 1)) [13] 42 true,
 oG 44 (.ld 1 false (.t 43)) [14,13] 42 true,
 oG 45 (.bin .lss (.t 44) (cI 0)) [15,13] 42 true,
 oG 46 (.mv (.t 45)) [16,13,13] 42 true,
 oG 47 (.fa 3 (.t 1)) [17] 46 false,
 oG 48 (.ld 1 false (.t 47)) [18,17] 46 false,
 oG 49 (.bin .geq (.t 48) (cI 8)) [19,17] 46 false,
 oG 50 (.pick (.t 46) (cB true) (.t 49)) [17,20,13] 42 true,
 oG 51 (.pick (.t 42) (.t 50) (cB false)) [13,21,11] 40 false,
 oN 52 (.pick (.t 40) (cB true) (.t 51)) [11,22]])
 (.cond (.t 52)
 (.seq (.reg [
 oN 2 (.mv (cI 2)) []])
 .ret)
 .skip))
 (.seq (.reg [
 oN 53 (.fa 0 (.t 1)) [],
 oN 54 (.ld 1 false (.t 53)) [0],
 oN 55 (.bin .eql (.t 54) (cI 4)) [1],
 oN 7 (.mv (.t 55)) [2,0,1,2]])
 (.seq (.seq (.reg [
 oN 56 (.mv (.t 7)) [],
 oN 57 (.mv (.t 56)) [0],
 oG 58 (.fa 4 (.t 1)) [1] 57 true,
 oG 59 (.ld 1 false (.t 58)) [2,1] 57 true,
 oG 60 (.bin .lss (.t 59) (cI 1)) [3,1] 57 true,
 oG 61 (.mv (.t 60)) [4,1,1] 57 true,
 oG 62 (.fa 4 (.t 1)) [5] 61 false,
 oG 63 (.ld 1 false (.t 62)) [6,5] 61 false,
 oG 64 (.bin .gtr (.t 63) (cI 5)) [7,5] 61 false,
 oG 65 (.pick (.t 61) (cB true) (.t 64)) [5,8,1] 57 true,
 oN 66 (.pick (.t 57) (.t 65) (cB false)) [1,9]])
 (.cond (.t 66)
 (.seq (.reg [
 oN 2 (.mv (cI 1)) []])
 .ret)
 .skip))
 (.seq (.reg [
 oN 67 (.mv (.t 7)) [],
 oN 68 (.mv (.t 67)) [0],
 oG 69 (.fa 0 (.t 1)) [1] 68 false,
 oG 70 (.ld 1 false (.t 69)) [2,1] 68 false,
 oG 71 (.bin .eql (.t 70) (cI 0)) [3,1] 68 false,
 oN 72 (.pick (.t 68) (cB true) (.t 71)) [1,4],
 oN 8 (.mv (.t 72)) [5,1,0,1,2,3,4,5]])
 (.seq (.seq (.reg [
 oN 73 (.mv (.t 8)) []])
 (.cond (.t 73)
 (.seq (.reg [
 oN 74 (.ld 8 true (.t 1)) [],
 oN 75 (.call 78 [(.t 74)]) [0],
 oN 9 (.mv (.t 75)) [1,1,0,1]])
 (.seq (.reg [
 oN 76 (.mv (.t 9)) [],
 oN 77 (.bin .neq (.t 76) (cI 0)) [0]])
 (.cond (.t 77)
 (.seq (.reg [
 oN 78 (.mv (.t 9)) [],
 oN 2 (.mv (.t 78)) [0,0]])
 .ret)
 .skip)))
 .skip))
 (.seq (.seq (.reg [
 oN 79 (.mv (.t 5)) [],
 oN 80 (.un .not (.t 79)) [0],
 oN 81 (.mv (.t 80)) [1],
 oG 82 (.fa 2 (.t 1)) [2] 81 true,
 oG 83 (.ld 1 false (.t 82)) [3,2] 81 true,
 oG 84 (.bin .neq (.t 83) (cI 0)) [4,2] 81 true,
 oN 85 (.pick (.t 81) (.t 84) (cB false)) [2,5],
 oN 86 (.mv (.t 85)) [6,2],
 oG 87 (.mv (.t 6)) [7] 86 false,
 oG 88 (.un .not (.t 87)) [8,7] 86 false,
 oG 89 (.mv (.t 88)) [9,7,7] 86 false,
 oG 90 (.fa 3 (.t 1)) [10] 89 true,
 oG 91 (.ld 1 false (.t 90)) [11,10] 89 true,
 oG 92 (.bin .neq (.t 91) (cI 0)) [12,10] 89 true,
 oG 93 (.pick (.t 89) (.t 92) (cB false)) [10,13,7] 86 false,
 oN 94 (.pick (.t 86) (cB true) (.t 93)) [7,14],
 oN 95 (.mv (.t 94)) [15,10],
 oG 96 (.mv (.t 7)) [16] 95 false,
 oG 97 (.un .not (.t 96)) [17,16] 95 false,
 oG 98 (.mv (.t 97)) [18,16,16] 95 false,
 oG 99 (.fa 4 (.t 1)) [19] 98 true,
 oG 100 (.ld 1 false (.t 99)) [20,19] 98 true,
 oG 101 (.bin .neq (.t 100) (cI 0)) [21,19] 98 true,
 oG 102 (.pick (.t 98) (.t 101) (cB false)) [19,22,16] 95 false,
 oN 103 (.pick (.t 95) (cB true) (.t 102)) [16,23],
 oN 104 (.mv (.t 103)) [24,19],
 oG 105 (.mv (.t 8)) [25] 104 false,
 oG 106 (.un .not (.t 105)) [26,25] 104 false,
 oG 107 (.mv (.t 106)) [27,25,25] 104 false,
 oG 108 (.fa 5 (.t 1)) [28] 107 true,
 oG 109 (.ld 3 true (.t 108)) [29,28] 107 true,
 oG 110 (.build [(vI 0), (vI 0), (.val (.string ⟨#[]⟩))] []) [28] 107 true,
 oG 111 (.eqst true [.int, .int, .str] (.t 109) (.t 110)) [30,31,28] 107 true,
 oG 112 (.pick (.t 107) (.t 111) (cB false)) [28,32,25] 104 false,
 oN 113 (.pick (.t 104) (cB true) (.t 112)) [25,33]])
 (.cond (.t 113)
 (.seq (.reg [
 oN 2 (.mv (cI 3)) []])
 .ret)
 .skip))
 (.seq (.reg [
 oN 2 (.mv (cI 0)) []])
 .ret))))))))))))
theorem Trydp60 : (Tryd.f60.body.map (prep Tryd.prog 114)) = some Trydc60 := by kernel_rfl
def Trydc61 : ACode :=
 (.reg [
 oN 3 (.ld 14 true (.t 1)) [],
 oN 4 (.mv (.t 0)) [],
 oN 5 (.call 62 [(.t 3), (.t 4)]) [0,1]])
theorem Trydp61 : (Tryd.f61.body.map (prep Tryd.prog 6)) = some Trydc61 := by kernel_rfl
def Trydc62 : ACode :=
 (.seq (.reg [
 oN 2 (.box (.t 0)) [],
 oN 4 (.mv (cB false)) []])
 (.seq (.seq (.reg [
 oN 7 (.mv (.t 1)) [],
 oN 8 (.ld 14 true (.t 2)) [],
 oN 9 (.callv (.t 7) [(.t 8)]) [0,1],
 oN 10 (.un .not (.t 9)) [2]])
 (.cond (.t 10)
 (.seq (.reg [
 oN 4 (.mv (cB false)) []])
 .ret)
 .skip))
 (.seq (.seq (.reg [
 oN 11 (.fa 1 (.t 2)) [],
 oN 12 (.ld 1 false (.t 11)) [0],
 oN 13 (.len (.t 12)) [1],
 oN 14 (.mv (cI 0)) []])
 (.block 0
 (.loop
 (.seq (.reg [
 oN 15 (.bin .lss (.t 14) (.t 13)) []])
 (.seq (.cond (.t 15)
 .skip
 (.exit 0))
 (.seq (.block 1
 (.seq (.reg [
 oN 16 (.ia 14 (.t 12) (.t 14)) [],
 oN 17 (.ld 14 true (.t 16)) [0],
 oN 6 (.box (.c (.agg zP))) [],
 eN (.st 14 (.t 6) (.t 17)) [2,1,0,1,2]])
 (.seq (.reg [
 oN 18 (.ld 14 true (.t 6)) [],
 oN 19 (.mv (.t 1)) [],
 oN 20 (.call 62 [(.t 18), (.t 19)]) [0,1],
 oN 21 (.un .not (.t 20)) [2]])
 (.cond (.t 21)
 (.seq (.reg [
 oN 4 (.mv (cB false)) []])
 .ret)
 .skip))))
 (.reg [
 oN 22 (.bin .add (.t 14) (cI 1)) [],
 oN 14 (.mv (.t 22)) [0]])))))))
 (.seq (.reg [
 oN 4 (.mv (cB true)) []])
 .ret))))
theorem Trydp62 : (Tryd.f62.body.map (prep Tryd.prog 23)) = some Trydc62 := by kernel_rfl
def Trydc65 : ACode :=
 (.seq (.reg [
 oN 7 (.box (.t 1)) [],
 oN 8 (.box (.t 2)) [],
 oN 9 (.mv (cB false)) []])
 (.seq (.seq (.reg [
 oN 10 (.mv (.t 0)) [],
 oN 11 (.ld 1 false (.t 3)) [],
 oN 12 (.bin .neq (.t 10) (.t 11)) [0,1]])
 (.cond (.t 12)
 (.seq (.reg [
 oN 9 (.mv (cB true)) []])
 .ret)
 .skip))
 (.seq (.seq (.reg [
 eN (.st 1 (.t 4) (cI 1)) []])
 (.seq (.reg [
 oN 13 (.fa 0 (.t 7)) [],
 oN 14 (.ld 1 false (.t 13)) [0],
 oN 15 (.iaA 2 8 (.g 0) (.t 14)) [1],
 oN 16 (.fa 1 (.t 15)) [2],
 oN 17 (.ld 1 false (.t 16)) [3]])
 (.cond (.t 17)
 (.reg [
 oN 18 (.ld 14 true (.t 7)) [],
 oN 19 (.ld 3 true (.t 8)) [],
 oN 20 (.call 37 [(.t 18), (.t 19)]) [0,1],
 eN (.st 3 (.t 5) (.t 20)) [2,2,0,1,2],
 eN (.st 1 (.t 4) (cI 0)) [3,0,1,2,3]])
 .skip)))
 (.seq (.reg [
 oN 9 (.mv (cB false)) []])
 .ret))))
theorem Trydp65 : (Tryd.f65.body.map (prep Tryd.prog 21)) = some Trydc65 := by kernel_rfl
def Trydc66 : ACode :=
 (.seq (.reg [
 oN 2 (.mv (cB false)) []])
 (.seq (.reg [
 oN 3 (.mv (.t 0)) [],
 oN 4 (.mv (.t 0)) [],
 oN 5 (.bin .neq (.t 3) (.t 4)) [0,1],
 oN 2 (.mv (.t 5)) [2,0,1,2]])
 .ret))
theorem Trydp66 : (Tryd.f66.body.map (prep Tryd.prog 6)) = some Trydc66 := by kernel_rfl
def Trydc67 : ACode :=
 (.seq (.reg [
 oN 1 (.box (.t 0)) [],
 oN 2 (.mv (cI 0)) []])
 (.seq (.seq (.reg [
 oN 5 (.fa 0 (.t 1)) [],
 oN 6 (.ld 1 false (.t 5)) [0],
 oN 7 (.bin .lss (.t 6) (cI 0)) [1],
 oN 8 (.mv (.t 7)) [2],
 oG 9 (.fa 0 (.t 1)) [3] 8 false,
 oG 10 (.ld 1 false (.t 9)) [4,3] 8 false,
 oG 11 (.bin .geq (.t 10) (cI 11)) [5,3] 8 false,
 oN 12 (.pick (.t 8) (cB true) (.t 11)) [3,6]])
 (.cond (.t 12)
 (.seq (.reg [
 oN 2 (.mv (cI 1)) []])
 .ret)
 .skip))
 (.seq (.reg [
 oN 13 (.fa 0 (.t 1)) [],
 oN 14 (.ld 1 false (.t 13)) [0],
 oN 15 (.iaA 6 11 (.g 1) (.t 14)) [1],
 oN 16 (.ld 6 true (.t 15)) [2],
 oN 3 (.box (.c (.agg [(vI 0), (vI 0), (.val (.bool false)), (.val (.bool false)), (.val (.bool false)), (.val (.bool false))]))) [],
 eN (.st 6 (.t 3) (.t 16)) [4,3,0,1,2,3,4]])
 (.seq (.block 0
 (.seq (.reg [
 oN 18 (.fa 1 (.t 1)) [],
 oN 19 (.ld 1 false (.t 18)) [0],
 oN 20 (.len (.t 19)) [1],
 oN 21 (.fa 0 (.t 3)) [],
 oN 22 (.ld 1 false (.t 21)) [3],
 oN 23 (.bin .lss (.t 20) (.t 22)) [2,4],
 oN 24 (.mv (.t 23)) [5],
 oG 25 (.fa 1 (.t 1)) [6] 24 false,
 oG 26 (.ld 1 false (.t 25)) [7,6] 24 false,
 oG 27 (.len (.t 26)) [8,6] 24 false,
 oG 28 (.fa 1 (.t 3)) [6] 24 false,
 oG 29 (.ld 1 false (.t 28)) [10,6] 24 false,
 oG 30 (.bin .gtr (.t 27) (.t 29)) [9,11,6] 24 false,
 oN 31 (.pick (.t 24) (cB true) (.t 30)) [6,12],
 oN 17 (.mv (.t 31)) [13,6]])
 (.cond (.t 17)
 (.seq (.reg [
 oN 2 (.mv (cI 15)) []])
 .ret)
 (.seq (.reg [
 oN 33 (.fa 2 (.t 3)) [],
 oN 34 (.ld 1 false (.t 33)) [0],
 oN 35 (.fa 2 (.t 1)) [],
 oN 36 (.ld 1 false (.t 35)) [2],
 oN 37 (.call 89 [(.t 34), (.t 36), (cI 15)]) [1,3],
 oN 38 (.un .not (.t 37)) [4],
 oN 39 (.mv (.t 38)) [5,4],
 oG 40 (.fa 2 (.t 3)) [6] 39 false,
 oG 41 (.ld 1 false (.t 40)) [7,6] 39 false,
 oG 42 (.fa 3 (.t 1)) [6] 39 false,
 oG 43 (.ld 1 false (.t 42)) [9,6] 39 false,
 oG 44 (.call 89 [(.t 41), (.t 43), (cI 15)]) [8,10,6,6] 39 false,
 oG 45 (.un .not (.t 44)) [11,6] 39 false,
 oN 46 (.pick (.t 39) (cB true) (.t 45)) [6,12],
 oN 47 (.mv (.t 46)) [13,11],
 oG 48 (.fa 4 (.t 3)) [14] 47 false,
 oG 49 (.ld 1 false (.t 48)) [15,14] 47 false,
 oG 50 (.fa 4 (.t 1)) [14] 47 false,
 oG 51 (.ld 1 false (.t 50)) [17,14] 47 false,
 oG 52 (.call 89 [(.t 49), (.t 51), (cI 63)]) [16,18,14,14] 47 false,
 oG 53 (.un .not (.t 52)) [19,14] 47 false,
 oN 54 (.pick (.t 47) (cB true) (.t 53)) [14,20],
 oN 55 (.mv (.t 54)) [21,19],
 oG 56 (.fa 5 (.t 3)) [22] 55 false,
 oG 57 (.ld 1 false (.t 56)) [23,22] 55 false,
 oG 58 (.fa 5 (.t 1)) [22] 55 false,
 oG 59 (.ld 1 false (.t 58)) [25,22] 55 false,
 oG 60 (.call 89 [(.t 57), (.t 59), (cI 1099511627776)]) [24,26,22,22] 55 false,
 oG 61 (.un .not (.t 60)) [27,22] 55 false,
 oN 62 (.pick (.t 55) (cB true) (.t 61)) [22,28],
 oN 32 (.mv (.t 62)) [29,27]])
 (.cond (.t 32)
 (.seq (.reg [
 oN 2 (.mv (cI 2)) []])
 .ret)
 .skip)))))
 (.seq (.seq (.reg [
 oN 63 (.fa 3 (.t 3)) [],
 oN 64 (.ld 1 false (.t 63)) [0]])
 (.cond (.t 64)
 (.seq (.reg [
 oN 65 (.fa 6 (.t 1)) [],
 oN 66 (.ld 8 true (.t 65)) [0],
 oN 67 (.call 39 [(.t 66)]) [1],
 oN 4 (.mv (.t 67)) [2,2,0,1,2]])
 (.seq (.reg [
 oN 68 (.mv (.t 4)) [],
 oN 69 (.bin .neq (.t 68) (cI 0)) [0]])
 (.cond (.t 69)
 (.seq (.reg [
 oN 70 (.mv (.t 4)) [],
 oN 2 (.mv (.t 70)) [0,0]])
 .ret)
 .skip)))
 .skip))
 (.seq (.seq (.reg [
 oN 71 (.fa 3 (.t 3)) [],
 oN 72 (.ld 1 false (.t 71)) [0],
 oN 73 (.un .not (.t 72)) [1],
 oN 74 (.mv (.t 73)) [2],
 oG 75 (.fa 6 (.t 1)) [3] 74 true,
 oG 76 (.ld 8 true (.t 75)) [4,3] 74 true,
 oG 77 (.build zE []) [3] 74 true,
 oG 78 (.call 90 [(.t 76), (.t 77)]) [5,6,3,3] 74 true,
 oG 79 (.un .not (.t 78)) [7,3] 74 true,
 oN 80 (.pick (.t 74) (.t 79) (cB false)) [3,8],
 oN 81 (.mv (.t 80)) [9,7],
 oG 82 (.fa 2 (.t 3)) [10] 81 false,
 oG 83 (.ld 1 false (.t 82)) [11,10] 81 false,
 oG 84 (.fa 2 (.t 1)) [10] 81 false,
 oG 85 (.ld 1 false (.t 84)) [13,10] 81 false,
 oG 86 (.call 91 [(.t 83), (.t 85)]) [12,14,10,10] 81 false,
 oG 87 (.un .not (.t 86)) [15,10] 81 false,
 oN 88 (.pick (.t 81) (cB true) (.t 87)) [10,16],
 oN 89 (.mv (.t 88)) [17,15],
 oG 90 (.fa 2 (.t 3)) [18] 89 false,
 oG 91 (.ld 1 false (.t 90)) [19,18] 89 false,
 oG 92 (.fa 3 (.t 1)) [18] 89 false,
 oG 93 (.ld 1 false (.t 92)) [21,18] 89 false,
 oG 94 (.call 91 [(.t 91), (.t 93)]) [20,22,18,18] 89 false,
 oG 95 (.un .not (.t 94)) [23,18] 89 false,
 oN 96 (.pick (.t 89) (cB true) (.t 95)) [18,24],
 oN 97 (.mv (.t 96)) [25,23],
 oG 98 (.fa 4 (.t 3)) [26] 97 false,
 oG 99 (.ld 1 false (.t 98)) [27,26] 97 false,
 oG 100 (.fa 4 (.t 1)) [26] 97 false,
 oG 101 (.ld 1 false (.t 100)) [29,26] 97 false,
 oG 102 (.call 91 [(.t 99), (.t 101)]) [28,30,26,26] 97 false,
 oG 103 (.un .not (.t 102)) [31,26] 97 false,
 oN 104 (.pick (.t 97) (cB true) (.t 103)) [26,32],
 oN 105 (.mv (.t 104)) [33,31],
 oG 106 (.fa 5 (.t 3)) [34] 105 false,
 oG 107 (.ld 1 false (.t 106)) [35,34] 105 false,
 oG 108 (.fa 5 (.t 1)) [34] 105 false,
 oG 109 (.ld 1 false (.t 108)) [37,34] 105 false,
 oG 110 (.call 91 [(.t 107), (.t 109)]) [36,38,34,34] 105 false,
 oG 111 (.un .not (.t 110)) [39,34] 105 false,
 oN 112 (.pick (.t 105) (cB true) (.t 111)) [34,40]])
 (.cond (.t 112)
 (.seq (.reg [
 oN 2 (.mv (cI 3)) []])
 .ret)
 .skip))
 (.seq (.reg [
 oN 2 (.mv (cI 0)) []])
 .ret)))))))
theorem Trydp67 : (Tryd.f67.body.map (prep Tryd.prog 113)) = some Trydc67 := by kernel_rfl
def Trydc68 : ACode :=
 (.seq (.reg [
 oN 2 (.box (.t 0)) [],
 oN 3 (.mv (cI 0)) []])
 (.seq (.reg [
 oN 7 (.fa 0 (.t 2)) [],
 oN 8 (.ld 1 false (.t 7)) [0],
 oN 9 (.call 69 [(.t 8)]) [1],
 oN 6 (.mv (.t 9)) [2],
 oN 10 (.ext (.t 6) 0) [3],
 oN 11 (.ext (.t 6) 1) [3],
 oN 4 (.mv (.t 10)) [4,2,0,1,2,3,4],
 oN 5 (.mv (.t 11)) [5,6,0,1,2,3,4,5,6]])
 (.seq (.block 0
 (.seq (.reg [
 oN 13 (.mv (.t 4)) [],
 oN 14 (.un .not (.t 13)) [0],
 oN 12 (.mv (.t 14)) [1]])
 (.cond (.t 12)
 (.seq (.reg [
 oN 3 (.mv (cI 0)) []])
 .ret)
 (.seq (.reg [
 oN 16 (.fa 2 (.t 2)) [],
 oN 17 (.ld 1 false (.t 16)) [0],
 oN 18 (.ld 1 false (.t 1)) [],
 oN 19 (.len (.t 18)) [2],
 oN 20 (.bin .geq (.t 17) (.t 19)) [1,3],
 oN 15 (.mv (.t 20)) [4]])
 (.cond (.t 15)
 (.seq (.reg [
 oN 3 (.mv (cI 6)) []])
 .ret)
 (.seq (.reg [
 oN 22 (.ld 1 false (.t 1)) [],
 oN 23 (.fa 2 (.t 2)) [],
 oN 24 (.ld 1 false (.t 23)) [1],
 oN 25 (.ia 1 (.t 22) (.t 24)) [0,2],
 oN 26 (.ld 1 false (.t 25)) [3],
 oN 27 (.bin .lss (.t 26) (cI 0)) [4],
 oN 28 (.mv (.t 27)) [5],
 oG 29 (.ld 1 false (.t 1)) [6] 28 false,
 oG 30 (.fa 2 (.t 2)) [6] 28 false,
 oG 31 (.ld 1 false (.t 30)) [8,6] 28 false,
 oG 32 (.ia 1 (.t 29) (.t 31)) [7,9,6] 28 false,
 oG 33 (.ld 1 false (.t 32)) [10,6] 28 false,
 oG 34 (.bin .geq (.t 33) (cI 16)) [11,6] 28 false,
 oN 35 (.pick (.t 28) (cB true) (.t 34)) [6,12],
 oN 21 (.mv (.t 35)) [13,6]])
 (.cond (.t 21)
 (.seq (.reg [
 oN 3 (.mv (cI 2)) []])
 .ret)
 .skip)))))))
 (.seq (.reg [
 oN 3 (.mv (cI 0)) []])
 .ret))))
theorem Trydp68 : (Tryd.f68.body.map (prep Tryd.prog 36)) = some Trydc68 := by kernel_rfl
def Trydc69 : ACode :=
 (.seq (.reg [
 oN 2 (.mv (cB false)) [],
 oN 3 (.mv (cB false)) [0]])
 (.seq (.seq (.reg [
 oN 4 (.mv (.t 0)) []])
 (.block 0
 (.seq (.seq (.reg [
 oN 6 (.bin .eql (.t 4) (cI 1)) [],
 oN 5 (.mv (.t 6)) [0]])
 (.cond (.t 5)
 .skip
 (.reg [
 oN 7 (.bin .eql (.t 4) (cI 4)) [],
 oN 5 (.mv (.t 7)) [0]])))
 (.cond (.t 5)
 (.seq (.reg [
 oN 2 (.mv (cB true)) [],
 oN 3 (.mv (cB true)) [0,0]])
 .ret)
 (.seq (.seq (.reg [
 oN 9 (.bin .eql (.t 4) (cI 2)) [],
 oN 8 (.mv (.t 9)) [0]])
 (.cond (.t 8)
 .skip
 (.reg [
 oN 10 (.bin .eql (.t 4) (cI 3)) [],
 oN 8 (.mv (.t 10)) [0]])))
 (.cond (.t 8)
 (.seq (.reg [
 oN 2 (.mv (cB true)) [],
 oN 3 (.mv (cB false)) [0,0]])
 .ret)
 .skip))))))
 (.seq (.reg [
 oN 2 (.mv (cB false)) [],
 oN 3 (.mv (cB false)) [0,0]])
 .ret)))
theorem Trydp69 : (Tryd.f69.body.map (prep Tryd.prog 11)) = some Trydc69 := by kernel_rfl
def Trydc70 : ACode :=
 (.seq (.reg [
 oN 2 (.box (.t 0)) [],
 oN 4 (.box (.c (.agg zE))) []])
 (.seq (.reg [
 oN 8 (.ld 8 true (.t 2)) [],
 oN 5 (.box (.c (.agg zE))) [],
 eN (.st 8 (.t 5) (.t 8)) [1,0,0,1]])
 (.seq (.reg [
 oN 9 (.fa 1 (.t 5)) [],
 eN (.st 1 (.t 9) cN) [0]])
 (.seq (.seq (.reg [
 oN 10 (.fa 1 (.t 2)) [],
 oN 11 (.ld 1 false (.t 10)) [0],
 oN 12 (.len (.t 11)) [1],
 oN 13 (.mv (cI 0)) []])
 (.block 0
 (.loop
 (.seq (.reg [
 oN 14 (.bin .lss (.t 13) (.t 12)) []])
 (.seq (.cond (.t 14)
 .skip
 (.exit 0))
 (.seq (.block 1
 (.seq (.reg [
 oN 15 (.ia 8 (.t 11) (.t 13)) [],
 oN 16 (.ld 8 true (.t 15)) [0],
 oN 7 (.box (.c (.agg zE))) [],
 eN (.st 8 (.t 7) (.t 16)) [2,1,0,1,2]])
 (.draw [
 oN 17 (.fa 1 (.t 5)) [],
 oN 18 (.ld 1 false (.t 17)) [0],
 oN 19 (.ld 8 true (.t 7)) [],
 oN 20 (.mv (.t 1)) [],
 oN 21 (.call 70 [(.t 19), (.t 20)]) [2,3],
 oN 22 (.bslice 8 [(.t 21)]) [4],
 oN 23 (.app 8 88 (.t 18) (.t 22)) [1,5,4],
 oN 24 (.fa 1 (.t 5)) [0,1,2,3,4,5,6],
 eN (.st 1 (.t 24) (.t 23)) [7,6,6,0,1,2,3,4,5,6]])))
 (.reg [
 oN 25 (.bin .add (.t 13) (cI 1)) [],
 oN 13 (.mv (.t 25)) [0]])))))))
 (.seq (.reg [
 oN 26 (.mv (.t 1)) [],
 oN 27 (.ld 8 true (.t 5)) [],
 oN 28 (.callv (.t 26) [(.t 27)]) [0,1],
 eN (.st 8 (.t 4) (.t 28)) [2,2,0,1,2]])
 .ret)))))
theorem Trydp70 : (Tryd.f70.body.map (prep Tryd.prog 29)) = some Trydc70 := by kernel_rfl
def Trydc71 : ACode :=
 (.seq (.reg [
 oN 2 (.box (.t 0)) [],
 oN 3 (.box (.c (.agg zE))) []])
 (.seq (.seq (.reg [
 oN 7 (.fa 0 (.t 2)) [],
 oN 8 (.ld 1 false (.t 7)) [0],
 oN 9 (.call 69 [(.t 8)]) [1],
 oN 6 (.mv (.t 9)) [2],
 oN 10 (.ext (.t 6) 0) [3],
 oN 11 (.ext (.t 6) 1) [3],
 oN 4 (.mv (.t 10)) [4,2,0,1,2,3,4],
 oN 5 (.mv (.t 11)) [5,6,0,1,2,3,4,5,6]])
 (.seq (.reg [
 oN 12 (.mv (.t 4)) []])
 (.cond (.t 12)
 (.reg [
 oN 13 (.ld 1 false (.t 1)) [],
 oN 14 (.fa 2 (.t 2)) [],
 oN 15 (.ld 1 false (.t 14)) [1],
 oN 16 (.ia 1 (.t 13) (.t 15)) [0,2],
 oN 17 (.ld 1 false (.t 16)) [3],
 oN 18 (.fa 2 (.t 2)) [0,1,2,3,4],
 eN (.st 1 (.t 18) (.t 17)) [5,4,0,1,2,3,4]])
 .skip)))
 (.seq (.reg [
 oN 19 (.ld 8 true (.t 2)) [],
 eN (.st 8 (.t 3) (.t 19)) [0,0]])
 .ret)))
theorem Trydp71 : (Tryd.f71.body.map (prep Tryd.prog 20)) = some Trydc71 := by kernel_rfl
def Trydc72 : ACode :=
 (.seq (.reg [
 oN 2 (.mv (cI 0)) []])
 (.seq (.seq (.reg [
 oN 3 (.mv (.t 0)) []])
 (.block 0
 (.seq (.seq (.reg [
 oN 5 (.bin .eql (.t 3) (cI 0)) [],
 oN 4 (.mv (.t 5)) [0]])
 (.cond (.t 4)
 .skip
 (.seq (.reg [
 oN 6 (.bin .eql (.t 3) (cI 1)) [],
 oN 4 (.mv (.t 6)) [0]])
 (.cond (.t 4)
 .skip
 (.seq (.reg [
 oN 7 (.bin .eql (.t 3) (cI 2)) [],
 oN 4 (.mv (.t 7)) [0]])
 (.cond (.t 4)
 .skip
 (.seq (.reg [
 oN 8 (.bin .eql (.t 3) (cI 3)) [],
 oN 4 (.mv (.t 8)) [0]])
 (.cond (.t 4)
 .skip
 (.reg [
 oN 9 (.bin .eql (.t 3) (cI 4)) [],
 oN 4 (.mv (.t 9)) [0]])))))))))
 (.cond (.t 4)
 (.seq (.reg [
 oN 2 (.mv (cI 0)) []])
 .ret)
 (.seq (.reg [
 oN 11 (.bin .eql (.t 3) (cI 12)) [],
 oN 10 (.mv (.t 11)) [0]])
 (.cond (.t 10)
 (.seq (.reg [
 oN 2 (.mv (cI 1)) []])
 .ret)
 (.seq (.seq (.reg [
 oN 13 (.bin .eql (.t 3) (cI 5)) [],
 oN 12 (.mv (.t 13)) [0]])
 (.cond (.t 12)
 .skip
 (.seq (.reg [
 oN 14 (.bin .eql (.t 3) (cI 6)) [],
 oN 12 (.mv (.t 14)) [0]])
 (.cond (.t 12)
 .skip
 (.seq (.reg [
 oN 15 (.bin .eql (.t 3) (cI 7)) [],
 oN 12 (.mv (.t 15)) [0]])
 (.cond (.t 12)
 .skip
 (.seq (.reg [
 oN 16 (.bin .eql (.t 3) (cI 8)) [],
 oN 12 (.mv (.t 16)) [0]])
 (.cond (.t 12)
 .skip
 (.seq (.reg [
 oN 17 (.bin .eql (.t 3) (cI 9)) [],
 oN 12 (.mv (.t 17)) [0]])
 (.cond (.t 12)
 .skip
 (.seq (.reg [
 oN 18 (.bin .eql (.t 3) (cI 10)) [],
 oN 12 (.mv (.t 18)) [0]])
 (.cond (.t 12)
 .skip
 (.reg [
 oN 19 (.bin .eql (.t 3) (cI 11)) [],
 oN 12 (.mv (.t 19)) [0]])))))))))))))
 (.cond (.t 12)
 (.seq (.reg [
 oN 2 (.mv (cI 2)) []])
 .ret)
 .skip))))))))
 (.seq (.reg [
 oN 2 (.mv (cI (-1))) []])
 .ret)))
theorem Trydp72 : (Tryd.f72.body.map (prep Tryd.prog 20)) = some Trydc72 := by kernel_rfl
def Trydc73 : ACode :=
 (.seq (.reg [
 oN 2 (.mv (cB false)) [],
 oN 3 (.mv (cB false)) [0]])
 (.seq (.reg [
 oN 5 (.mv (.t 0)) [],
 oN 6 (.bin .eql (.t 5) (cI 1)) [0],
 oN 7 (.mv (.t 6)) [1],
 oG 8 (.mv (.t 0)) [2] 7 false,
 oG 9 (.bin .eql (.t 8) (cI 4)) [3,2] 7 false,
 oN 10 (.pick (.t 7) (cB true) (.t 9)) [2,4],
 oN 4 (.mv (.t 10)) [5,2,0,1,2,3,4,5]])
 (.seq (.reg [
 oN 11 (.mv (.t 4)) [],
 oN 12 (.mv (.t 11)) [0],
 oG 13 (.mv (.t 0)) [1] 12 false,
 oG 14 (.bin .eql (.t 13) (cI 2)) [2,1] 12 false,
 oN 15 (.pick (.t 12) (cB true) (.t 14)) [1,3],
 oN 16 (.mv (.t 15)) [4,1],
 oG 17 (.mv (.t 0)) [5] 16 false,
 oG 18 (.bin .eql (.t 17) (cI 3)) [6,5] 16 false,
 oN 19 (.pick (.t 16) (cB true) (.t 18)) [5,7],
 oN 20 (.mv (.t 4)) [],
 oN 2 (.mv (.t 19)) [8,5,0,1,2,3,4,5,6,7,8],
 oN 3 (.mv (.t 20)) [9,10,0,1,2,3,4,5,6,7,8,9,10]])
 .ret)))
theorem Trydp73 : (Tryd.f73.body.map (prep Tryd.prog 21)) = some Trydc73 := by kernel_rfl
def Trydc74 : ACode :=
 (.seq (.reg [
 oN 1 (.box (.t 0)) [],
 oN 2 (.mv (cI 0)) []])
 (.seq (.seq (.reg [
 oN 3 (.fa 0 (.t 1)) [],
 oN 4 (.ld 1 false (.t 3)) [0],
 oN 5 (.bin .lss (.t 4) (cI 0)) [1],
 oN 6 (.mv (.t 5)) [2],
 oG 7 (.fa 0 (.t 1)) [3] 6 false,
 oG 8 (.ld 1 false (.t 7)) [4,3] 6 false,
 oG 9 (.bin .gtr (.t 8) (cI 2)) [5,3] 6 false,
 oN 10 (.pick (.t 6) (cB true) (.t 9)) [3,6]])
 (.cond (.t 10)
 (.seq (.reg [
 oN 2 (.mv (cI 1)) []])
 .ret)
 .skip))
 (.seq (.seq (.reg [
 oN 11 (.fa 0 (.t 1)) [],
 oN 12 (.ld 1 false (.t 11)) [0],
 oN 13 (.bin .eql (.t 12) (cI 2)) [1]])
 (.cond (.t 13)
 (.seq (.seq (.reg [
 oN 14 (.fa 1 (.t 1)) [],
 oN 15 (.ld 1 false (.t 14)) [0],
 oN 16 (.bin .neq (.t 15) (cI 0)) [1]])
 (.cond (.t 16)
 (.seq (.reg [
 oN 2 (.mv (cI 3)) []])
 .ret)
 .skip))
 (.seq (.seq (.reg [
 oN 17 (.fa 2 (.t 1)) [],
 oN 18 (.ld 1 false (.t 17)) [0],
 oN 19 (.lens (.t 18)) [1],
 oN 20 (.bin .gtr (.t 19) (cI 64)) [2]])
 (.cond (.t 20)
 (.seq (.reg [
 oN 2 (.mv (cI 13)) []])
 .ret)
 .skip))
 (.seq (.reg [
 oN 2 (.mv (cI 0)) []])
 .ret)))
 .skip))
 (.seq (.seq (.reg [
 oN 21 (.fa 2 (.t 1)) [],
 oN 22 (.ld 1 false (.t 21)) [0],
 oN 23 (.bin .neq (.t 22) (.c (.val (.string ⟨#[]⟩)))) [1]])
 (.cond (.t 23)
 (.seq (.reg [
 oN 2 (.mv (cI 3)) []])
 .ret)
 .skip))
 (.seq (.seq (.reg [
 oN 24 (.fa 0 (.t 1)) [],
 oN 25 (.ld 1 false (.t 24)) [0],
 oN 26 (.bin .eql (.t 25) (cI 1)) [1],
 oN 27 (.mv (.t 26)) [2],
 oG 28 (.fa 1 (.t 1)) [3] 27 true,
 oG 29 (.ld 1 false (.t 28)) [4,3] 27 true,
 oG 30 (.bin .lss (.t 29) (cI 0)) [5,3] 27 true,
 oG 31 (.mv (.t 30)) [6,3,3] 27 true,
 oG 32 (.fa 1 (.t 1)) [7] 31 false,
 oG 33 (.ld 1 false (.t 32)) [8,7] 31 false,
 oG 34 (.bin .gtr (.t 33) (cI 1)) [9,7] 31 false,
 oG 35 (.pick (.t 31) (cB true) (.t 34)) [7,10,3] 27 true,
 oN 36 (.pick (.t 27) (.t 35) (cB false)) [3,11],
 oN 37 (.mv (.t 36)) [12,7],
 oG 38 (.fa 1 (.t 1)) [13] 37 false,
 oG 39 (.ld 1 false (.t 38)) [14,13] 37 false,
 oG 40 (.bin .lss (.t 39) (cI (-1099511627776))) [15,13] 37 false,
 oN 41 (.pick (.t 37) (cB true) (.t 40)) [13,16],
 oN 42 (.mv (.t 41)) [17,13],
 oG 43 (.fa 1 (.t 1)) [18] 42 false,
 oG 44 (.ld 1 false (.t 43)) [19,18] 42 false,
 oG 45 (.bin .gtr (.t 44) (cI 1099511627776)) [20,18] 42 false,
 oN 46 (.pick (.t 42) (cB true) (.t 45)) [18,21]])
 (.cond (.t 46)
 (.seq (.reg [
 oN 2 (.mv (cI 2)) []])
 .ret)
 .skip))
 (.seq (.reg [
 oN 2 (.mv (cI 0)) []])
 .ret))))))
theorem Trydp74 : (Tryd.f74.body.map (prep Tryd.prog 47)) = some Trydc74 := by kernel_rfl
def Trydc75 : ACode :=
 (.seq (.reg [
 oN 3 (.box (.t 1)) [],
 oN 4 (.mv (cB false)) []])
 (.seq (.reg [
 oN 5 (.fa 0 (.t 3)) [],
 oN 6 (.ld 1 false (.t 5)) [0],
 oN 7 (.bin .eql (.t 6) (cI 0)) [1],
 oN 8 (.mv (.t 7)) [2],
 oG 9 (.mv (.t 0)) [3] 8 false,
 oG 10 (.bin .eql (.t 9) (cI 0)) [4,3] 8 false,
 oN 11 (.pick (.t 8) (cB true) (.t 10)) [3,5],
 oN 12 (.mv (.t 11)) [6,3],
 oG 13 (.mv (.t 0)) [7] 12 false,
 oG 14 (.bin .eql (.t 13) (cI 4)) [8,7] 12 false,
 oN 15 (.pick (.t 12) (cB true) (.t 14)) [7,9],
 oN 16 (.mv (.t 15)) [10,7],
 oG 17 (.mv (.t 0)) [11] 16 false,
 oG 18 (.bin .eql (.t 17) (cI 5)) [12,11] 16 false,
 oN 19 (.pick (.t 16) (cB true) (.t 18)) [11,13],
 oN 4 (.mv (.t 19)) [14,11,0,1,2,3,4,5,6,7,8,9,10,11,12,13,14]])
 .ret))
theorem Trydp75 : (Tryd.f75.body.map (prep Tryd.prog 20)) = some Trydc75 := by kernel_rfl
def Trydc76 : ACode :=
 (.seq (.reg [
 oN 2 (.mv cN) []])
 (.seq (.reg [
 oN 3 (.mv (cI 0)) []])
 (.seq (.seq (.reg [
 oN 9 (.mv (.t 0)) [],
 oN 10 (.len (.t 9)) [0],
 oN 11 (.mv (cI 0)) []])
 (.block 0
 (.loop
 (.seq (.reg [
 oN 12 (.bin .lss (.t 11) (.t 10)) []])
 (.seq (.cond (.t 12)
 .skip
 (.exit 0))
 (.seq (.block 1
 (.seq (.reg [
 oN 13 (.ia 1 (.t 9) (.t 11)) [],
 oN 14 (.ld 1 false (.t 13)) [0],
 oN 5 (.mv (.t 14)) [1,0,1]])
 (.seq (.reg [
 oN 15 (.mv (.t 3)) [],
 oN 16 (.mv (.t 5)) [],
 oN 17 (.len (.t 16)) [1],
 oN 18 (.bin .add (.t 15) (.t 17)) [0,2],
 oN 3 (.mv (.t 18)) [3,0,1,2,3]])
 (.seq (.reg [
 oN 19 (.mv (.t 3)) [],
 oN 20 (.bin .lss (.t 19) (cI 0)) [0]])
 (.cond (.t 20)
 (.reg [
 oN 21 (.mkif 9 (.c (.val (.string ⟨#[108,101,110,32,111,117,116,32,111,102,32,114,97,110,103,101]⟩)))) [],
 eN (.bad) [0]])
 .skip)))))
 (.reg [
 oN 22 (.bin .add (.t 11) (cI 1)) [],
 oN 11 (.mv (.t 22)) [0]])))))))
 (.seq (.reg [
 oN 23 (.mv (.t 3)) [],
 oN 24 (.call 92 [cN, (.t 23)]) [0],
 oN 6 (.mv (.t 24)) [1,1,0,1]])
 (.seq (.seq (.reg [
 oN 25 (.mv (.t 0)) [],
 oN 26 (.len (.t 25)) [0],
 oN 27 (.mv (cI 0)) []])
 (.block 2
 (.loop
 (.seq (.reg [
 oN 28 (.bin .lss (.t 27) (.t 26)) []])
 (.seq (.cond (.t 28)
 .skip
 (.exit 2))
 (.seq (.block 3
 (.seq (.reg [
 oN 29 (.ia 1 (.t 25) (.t 27)) [],
 oN 30 (.ld 1 false (.t 29)) [0],
 oN 8 (.mv (.t 30)) [1,0,1]])
 (.reg [
 oN 31 (.mv (.t 6)) [],
 oN 32 (.mv (.t 8)) [],
 oN 33 (.app 1 8 (.t 31) (.t 32)) [0,1],
 oN 6 (.mv (.t 33)) [2,2,0,1,2]])))
 (.reg [
 oN 34 (.bin .add (.t 27) (cI 1)) [],
 oN 27 (.mv (.t 34)) [0]])))))))
 (.seq (.reg [
 oN 35 (.mv (.t 6)) [],
 oN 2 (.mv (.t 35)) [0,0]])
 .ret))))))
theorem Trydp76 : (Tryd.f76.body.map (prep Tryd.prog 36)) = some Trydc76 := by kernel_rfl
def Trydc77 : ACode :=
 (.seq (.reg [
 oN 2 (.mv (cI 0)) [],
 oN 3 (.mv (cB false)) [0]])
 (.seq (.block 0
 (.seq (.reg [
 oN 5 (.mv (.t 0)) [],
 oN 6 (.bin .lss (.t 5) (cI 0)) [0],
 oN 7 (.mv (.t 6)) [1],
 oG 8 (.mv (.t 0)) [2] 7 false,
 oG 9 (.bin .gtr (.t 8) (cI 12)) [3,2] 7 false,
 oN 10 (.pick (.t 7) (cB true) (.t 9)) [2,4],
 oN 4 (.mv (.t 10)) [5,2]])
 (.cond (.t 4)
 (.seq (.reg [
 oN 2 (.mv (cI 0)) [],
 oN 3 (.mv (cB false)) [0,0]])
 .ret)
 (.seq (.reg [
 oN 12 (.mv (.t 0)) [],
 oN 13 (.bin .lss (.t 12) (cI 5)) [0],
 oN 11 (.mv (.t 13)) [1]])
 (.cond (.t 11)
 (.seq (.reg [
 oN 2 (.mv (cI 0)) [],
 oN 3 (.mv (cB true)) [0,0]])
 .ret)
 (.seq (.reg [
 oN 15 (.mv (.t 0)) [],
 oN 16 (.bin .eql (.t 15) (cI 12)) [0],
 oN 14 (.mv (.t 16)) [1]])
 (.cond (.t 14)
 (.seq (.reg [
 oN 2 (.mv (cI 1)) [],
 oN 3 (.mv (cB true)) [0,0]])
 .ret)
 .skip)))))))
 (.seq (.reg [
 oN 2 (.mv (cI 2)) [],
 oN 3 (.mv (cB true)) [0,0]])
 .ret)))
theorem Trydp77 : (Tryd.f77.body.map (prep Tryd.prog 17)) = some Trydc77 := by kernel_rfl
def Trydc78 : ACode :=
 (.seq (.reg [
 oN 1 (.box (.t 0)) [],
 oN 2 (.mv (cI 0)) []])
 (.seq (.seq (.reg [
 oN 4 (.fa 5 (.t 1)) [],
 oN 5 (.ld 3 true (.t 4)) [0],
 oN 6 (.call 93 [(.t 5)]) [1],
 oN 3 (.mv (.t 6)) [2,2,0,1,2]])
 (.seq (.reg [
 oN 7 (.mv (.t 3)) [],
 oN 8 (.bin .neq (.t 7) (cI 0)) [0]])
 (.cond (.t 8)
 (.seq (.reg [
 oN 9 (.mv (.t 3)) [],
 oN 2 (.mv (.t 9)) [0,0]])
 .ret)
 .skip)))
 (.seq (.seq (.reg [
 oN 10 (.fa 0 (.t 1)) [],
 oN 11 (.ld 1 false (.t 10)) [0],
 oN 12 (.bin .eql (.t 11) (cI 4)) [1],
 oN 13 (.mv (.t 12)) [2],
 oG 14 (.fa 4 (.t 1)) [3] 13 true,
 oG 15 (.ld 1 false (.t 14)) [4,3] 13 true,
 oG 16 (.fa 5 (.t 1)) [3] 13 true,
 oG 17 (.ld 3 true (.t 16)) [6,3] 13 true,
 oG 18 (.call 94 [(.t 15), (.t 17)]) [5,7,3,3] 13 true,
 oG 19 (.un .not (.t 18)) [8,3] 13 true,
 oG 20 (.mv (.t 19)) [9,8,3] 13 true,
 oG 21 (.fa 4 (.t 1)) [10] 20 false,
 oG 22 (.ld 1 false (.t 21)) [11,10] 20 false,
 oG 23 (.bin .eql (.t 22) (cI 1)) [12,10] 20 false,
 oG 24 (.mv (.t 23)) [13,10,10] 20 false,
 oG 25 (.fa 5 (.t 1)) [14] 24 true,
 oG 26 (.ld 3 true (.t 25)) [15,14] 24 true,
 oG 27 (.build [(vI 0), (vI 0), (.val (.string ⟨#[]⟩))] []) [14] 24 true,
 oG 28 (.eqst true [.int, .int, .str] (.t 26) (.t 27)) [16,17,14] 24 true,
 oG 29 (.pick (.t 24) (.t 28) (cB false)) [14,18,10] 20 false,
 oG 30 (.pick (.t 20) (cB true) (.t 29)) [10,19,3] 13 true,
 oN 31 (.pick (.t 13) (.t 30) (cB false)) [3,20]])
 (.cond (.t 31)
 (.seq (.reg [
 oN 2 (.mv (cI 9)) []])
 .ret)
 .skip))
 (.seq (.reg [
 oN 2 (.mv (cI 0)) []])
 .ret))))
theorem Trydp78 : (Tryd.f78.body.map (prep Tryd.prog 32)) = some Trydc78 := by kernel_rfl
def Trydc89 : ACode :=
 (.seq (.reg [
 oN 6 (.mv (cB false)) []])
 (.seq (.reg [
 oN 7 (.mv (.t 0)) [],
 oN 8 (.un .not (.t 7)) [0],
 oN 9 (.mv (.t 8)) [1],
 oG 10 (.mv (.t 1)) [2] 9 false,
 oG 11 (.bin .geq (.t 10) (cI 0)) [3,2] 9 false,
 oG 12 (.mv (.t 11)) [4,2,2] 9 false,
 oG 13 (.mv (.t 1)) [5] 12 true,
 oG 14 (.mv (.t 2)) [5] 12 true,
 oG 15 (.bin .leq (.t 13) (.t 14)) [6,7,5] 12 true,
 oG 16 (.pick (.t 12) (.t 15) (cB false)) [5,8,2] 9 false,
 oN 17 (.pick (.t 9) (cB true) (.t 16)) [2,9],
 oN 6 (.mv (.t 17)) [10,5,0,1,2,3,4,5,6,7,8,9,10]])
 .ret))
theorem Trydp89 : (Tryd.f89.body.map (prep Tryd.prog 18)) = some Trydc89 := by kernel_rfl
def Trydc90 : ACode :=
 (.seq (.reg [
 oN 2 (.box (.t 0)) [],
 oN 3 (.box (.t 1)) [],
 oN 4 (.mv (cB false)) []])
 (.seq (.seq (.reg [
 oN 6 (.fa 0 (.t 2)) [],
 oN 7 (.ld 1 false (.t 6)) [0],
 oN 8 (.fa 0 (.t 3)) [],
 oN 9 (.ld 1 false (.t 8)) [2],
 oN 10 (.bin .neq (.t 7) (.t 9)) [1,3],
 oN 11 (.mv (.t 10)) [4],
 oG 12 (.fa 2 (.t 2)) [5] 11 false,
 oG 13 (.ld 1 false (.t 12)) [6,5] 11 false,
 oG 14 (.fa 2 (.t 3)) [5] 11 false,
 oG 15 (.ld 1 false (.t 14)) [8,5] 11 false,
 oG 16 (.bin .neq (.t 13) (.t 15)) [7,9,5] 11 false,
 oN 17 (.pick (.t 11) (cB true) (.t 16)) [5,10],
 oN 18 (.mv (.t 17)) [11,5],
 oG 19 (.fa 3 (.t 2)) [12] 18 false,
 oG 20 (.ld 1 false (.t 19)) [13,12] 18 false,
 oG 21 (.fa 3 (.t 3)) [12] 18 false,
 oG 22 (.ld 1 false (.t 21)) [15,12] 18 false,
 oG 23 (.bin .neq (.t 20) (.t 22)) [14,16,12] 18 false,
 oN 24 (.pick (.t 18) (cB true) (.t 23)) [12,17],
 oN 25 (.mv (.t 24)) [18,12],
 oG 26 (.fa 4 (.t 2)) [19] 25 false,
 oG 27 (.ld 1 false (.t 26)) [20,19] 25 false,
 oG 28 (.fa 4 (.t 3)) [19] 25 false,
 oG 29 (.ld 1 false (.t 28)) [22,19] 25 false,
 oG 30 (.bin .neq (.t 27) (.t 29)) [21,23,19] 25 false,
 oN 31 (.pick (.t 25) (cB true) (.t 30)) [19,24],
 oN 32 (.mv (.t 31)) [25,19],
 oG 33 (.fa 5 (.t 2)) [26] 32 false,
 oG 34 (.ld 3 true (.t 33)) [27,26] 32 false,
 oG 35 (.fa 5 (.t 3)) [26] 32 false,
 oG 36 (.ld 3 true (.t 35)) [29,26] 32 false,
 oG 37 (.eqst true [.int, .int, .str] (.t 34) (.t 36)) [28,30,26] 32 false,
 oN 38 (.pick (.t 32) (cB true) (.t 37)) [26,31],
 oN 39 (.mv (.t 38)) [32,26],
 oG 40 (.fa 1 (.t 2)) [33] 39 false,
 oG 41 (.ld 1 false (.t 40)) [34,33] 39 false,
 oG 42 (.len (.t 41)) [35,33] 39 false,
 oG 43 (.fa 1 (.t 3)) [33] 39 false,
 oG 44 (.ld 1 false (.t 43)) [37,33] 39 false,
 oG 45 (.len (.t 44)) [38,33] 39 false,
 oG 46 (.bin .neq (.t 42) (.t 45)) [36,39,33] 39 false,
 oN 47 (.pick (.t 39) (cB true) (.t 46)) [33,40]])
 (.cond (.t 47)
 (.seq (.reg [
 oN 4 (.mv (cB false)) []])
 .ret)
 .skip))
 (.seq (.seq (.reg [
 oN 48 (.fa 1 (.t 2)) [],
 oN 49 (.ld 1 false (.t 48)) [0],
 oN 50 (.len (.t 49)) [1],
 oN 51 (.mv (cI 0)) []])
 (.block 0
 (.loop
 (.seq (.reg [
 oN 52 (.bin .lss (.t 51) (.t 50)) []])
 (.seq (.cond (.t 52)
 .skip
 (.exit 0))
 (.seq (.block 1
 (.seq (.reg [
 oN 53 (.mv (.t 51)) [],
 oN 5 (.mv (.t 53)) [0,0]])
 (.seq (.draw [
 oN 54 (.fa 1 (.t 2)) [],
 oN 55 (.ld 1 false (.t 54)) [0],
 oN 56 (.mv (.t 5)) [],
 oN 57 (.ia 8 (.t 55) (.t 56)) [1,2],
 oN 58 (.ld 8 true (.t 57)) [3],
 oN 59 (.fa 1 (.t 3)) [],
 oN 60 (.ld 1 false (.t 59)) [5],
 oN 61 (.mv (.t 5)) [],
 oN 62 (.ia 8 (.t 60) (.t 61)) [6,7],
 oN 63 (.ld 8 true (.t 62)) [8],
 oN 64 (.call 90 [(.t 58), (.t 63)]) [4,9],
 oN 65 (.un .not (.t 64)) [10]])
 (.cond (.t 65)
 (.seq (.reg [
 oN 4 (.mv (cB false)) []])
 .ret)
 .skip))))
 (.reg [
 oN 66 (.bin .add (.t 51) (cI 1)) [],
 oN 51 (.mv (.t 66)) [0]])))))))
 (.seq (.reg [
 oN 4 (.mv (cB true)) []])
 .ret))))
theorem Trydp90 : (Tryd.f90.body.map (prep Tryd.prog 67)) = some Trydc90 := by kernel_rfl
def Trydc91 : ACode :=
 (.seq (.reg [
 oN 4 (.mv (cB false)) []])
 (.seq (.reg [
 oN 5 (.mv (.t 0)) [],
 oN 6 (.mv (.t 5)) [0],
 oG 7 (.mv (.t 1)) [1] 6 false,
 oG 8 (.bin .eql (.t 7) (cI 0)) [2,1] 6 false,
 oN 9 (.pick (.t 6) (cB true) (.t 8)) [1,3],
 oN 4 (.mv (.t 9)) [4,1,0,1,2,3,4]])
 .ret))
theorem Trydp91 : (Tryd.f91.body.map (prep Tryd.prog 10)) = some Trydc91 := by kernel_rfl
def Trydc92 : ACode :=
 (.seq (.reg [
 oN 4 (.mv cN) []])
 (.seq (.seq (.reg [
 oN 5 (.mv (.t 1)) [],
 oN 6 (.bin .lss (.t 5) (cI 0)) [0]])
 (.cond (.t 6)
 (.reg [
 oN 7 (.mkif 9 (.c (.val (.string ⟨#[99,97,110,110,111,116,32,98,101,32,110,101,103,97,116,105,118,101]⟩)))) [],
 eN (.bad) [0]])
 .skip))
 (.seq (.seq (.reg [
 oN 8 (.mv (.t 1)) [],
 oN 9 (.mv (.t 0)) [],
 oN 10 (.cap (.t 9)) [1],
 oN 11 (.mv (.t 0)) [],
 oN 12 (.len (.t 11)) [3],
 oN 13 (.bin .sub (.t 10) (.t 12)) [2,4],
 oN 14 (.bin .sub (.t 8) (.t 13)) [0,5],
 oN 1 (.mv (.t 14)) [6,0,1,2,3,4,5,6]])
 (.seq (.reg [
 oN 15 (.mv (.t 1)) [],
 oN 16 (.bin .gtr (.t 15) (cI 0)) [0]])
 (.cond (.t 16)
 (.reg [
 oN 17 (.mv (.t 0)) [],
 oN 18 (.mv (.t 0)) [],
 oN 19 (.cap (.t 18)) [1],
 oN 20 (.slc 1 (.t 17) none (some (.t 19))) [0,2],
 oN 21 (.mv (.t 1)) [],
 oN 22 (.appz 1 8 (vI 0) (.t 20) (.t 21)) [3,4],
 oN 23 (.mv (.t 0)) [],
 oN 24 (.len (.t 23)) [6],
 oN 25 (.slc 1 (.t 22) none (some (.t 24))) [5,7],
 oN 0 (.mv (.t 25)) [8,5,0,1,2,3,4,5,6,7,8]])
 .skip)))
 (.seq (.reg [
 oN 26 (.mv (.t 0)) [],
 oN 4 (.mv (.t 26)) [0,0]])
 .ret))))
theorem Trydp92 : (Tryd.f92.body.map (prep Tryd.prog 27)) = some Trydc92 := by kernel_rfl
def Trydc93 : ACode :=
 (.seq (.reg [
 oN 1 (.box (.t 0)) [],
 oN 2 (.mv (cI 0)) []])
 (.seq (.seq (.reg [
 oN 3 (.fa 0 (.t 1)) [],
 oN 4 (.ld 1 false (.t 3)) [0]])
 (.block 0
 (.seq (.seq (.reg [
 oN 6 (.bin .eql (.t 4) (cI 0)) [],
 oN 5 (.mv (.t 6)) [0]])
 (.cond (.t 5)
 .skip
 (.reg [
 oN 7 (.bin .eql (.t 4) (cI 1)) [],
 oN 5 (.mv (.t 7)) [0]])))
 (.cond (.t 5)
 (.seq (.reg [
 oN 8 (.fa 2 (.t 1)) [],
 oN 9 (.ld 1 false (.t 8)) [0],
 oN 10 (.bin .neq (.t 9) (.c (.val (.string ⟨#[]⟩)))) [1]])
 (.cond (.t 10)
 (.seq (.reg [
 oN 2 (.mv (cI 3)) []])
 .ret)
 .skip))
 (.seq (.reg [
 oN 12 (.bin .eql (.t 4) (cI 2)) [],
 oN 11 (.mv (.t 12)) [0]])
 (.cond (.t 11)
 (.seq (.reg [
 oN 13 (.fa 1 (.t 1)) [],
 oN 14 (.ld 1 false (.t 13)) [0],
 oN 15 (.bin .neq (.t 14) (cI 0)) [1]])
 (.cond (.t 15)
 (.seq (.reg [
 oN 2 (.mv (cI 3)) []])
 .ret)
 .skip))
 (.seq (.reg [
 oN 2 (.mv (cI 1)) []])
 .ret)))))))
 (.seq (.reg [
 oN 16 (.ld 3 true (.t 1)) [],
 oN 17 (.call 100 [(.t 16)]) [0],
 oN 2 (.mv (.t 17)) [1,1,0,1]])
 .ret)))
theorem Trydp93 : (Tryd.f93.body.map (prep Tryd.prog 18)) = some Trydc93 := by kernel_rfl
def Trydc94 : ACode :=
 (.seq (.reg [
 oN 3 (.box (.t 1)) [],
 oN 4 (.mv (cB false)) []])
 (.seq (.reg [
 oN 5 (.fa 0 (.t 3)) [],
 oN 6 (.ld 1 false (.t 5)) [0],
 oN 7 (.bin .eql (.t 6) (cI 0)) [1],
 oN 8 (.mv (.t 7)) [2],
 oG 9 (.mv (.t 0)) [3] 8 false,
 oG 10 (.bin .eql (.t 9) (cI 4)) [4,3] 8 false,
 oN 11 (.pick (.t 8) (cB true) (.t 10)) [3,5],
 oN 12 (.mv (.t 11)) [6,3],
 oG 13 (.mv (.t 0)) [7] 12 false,
 oG 14 (.bin .eql (.t 13) (cI 5)) [8,7] 12 false,
 oN 15 (.pick (.t 12) (cB true) (.t 14)) [7,9],
 oN 4 (.mv (.t 15)) [10,7,0,1,2,3,4,5,6,7,8,9,10]])
 .ret))
theorem Trydp94 : (Tryd.f94.body.map (prep Tryd.prog 16)) = some Trydc94 := by kernel_rfl
def Trydc100 : ACode :=
 (.seq (.reg [
 oN 1 (.box (.t 0)) [],
 oN 2 (.mv (cI 0)) []])
 (.seq (.block 0
 (.seq (.reg [
 oN 4 (.fa 0 (.t 1)) [],
 oN 5 (.ld 1 false (.t 4)) [0],
 oN 6 (.bin .eql (.t 5) (cI 0)) [1],
 oN 7 (.mv (.t 6)) [2],
 oG 8 (.fa 1 (.t 1)) [3] 7 true,
 oG 9 (.ld 1 false (.t 8)) [4,3] 7 true,
 oG 10 (.bin .lss (.t 9) (cI (-1099511627776))) [5,3] 7 true,
 oG 11 (.mv (.t 10)) [6,3,3] 7 true,
 oG 12 (.fa 1 (.t 1)) [7] 11 false,
 oG 13 (.ld 1 false (.t 12)) [8,7] 11 false,
 oG 14 (.bin .gtr (.t 13) (cI 1099511627776)) [9,7] 11 false,
 oG 15 (.pick (.t 11) (cB true) (.t 14)) [7,10,3] 7 true,
 oN 16 (.pick (.t 7) (.t 15) (cB false)) [3,11],
 oN 3 (.mv (.t 16)) [12,7]])
 (.cond (.t 3)
 (.seq (.reg [
 oN 2 (.mv (cI 2)) []])
 .ret)
 (.seq (.reg [
 oN 18 (.fa 0 (.t 1)) [],
 oN 19 (.ld 1 false (.t 18)) [0],
 oN 20 (.bin .eql (.t 19) (cI 1)) [1],
 oN 21 (.mv (.t 20)) [2],
 oG 22 (.fa 1 (.t 1)) [3] 21 true,
 oG 23 (.ld 1 false (.t 22)) [4,3] 21 true,
 oG 24 (.bin .neq (.t 23) (cI 0)) [5,3] 21 true,
 oN 25 (.pick (.t 21) (.t 24) (cB false)) [3,6],
 oN 26 (.mv (.t 25)) [7,3],
 oG 27 (.fa 1 (.t 1)) [8] 26 true,
 oG 28 (.ld 1 false (.t 27)) [9,8] 26 true,
 oG 29 (.bin .neq (.t 28) (cI 1)) [10,8] 26 true,
 oN 30 (.pick (.t 26) (.t 29) (cB false)) [8,11],
 oN 17 (.mv (.t 30)) [12,8]])
 (.cond (.t 17)
 (.seq (.reg [
 oN 2 (.mv (cI 2)) []])
 .ret)
 (.seq (.reg [
 oN 32 (.fa 2 (.t 1)) [],
 oN 33 (.ld 1 false (.t 32)) [0],
 oN 34 (.lens (.t 33)) [1],
 oN 35 (.bin .gtr (.t 34) (cI 64)) [2],
 oN 31 (.mv (.t 35)) [3]])
 (.cond (.t 31)
 (.seq (.reg [
 oN 2 (.mv (cI 13)) []])
 .ret)
 .skip)))))))
 (.seq (.reg [
 oN 2 (.mv (cI 0)) []])
 .ret)))
theorem Trydp100 : (Tryd.f100.body.map (prep Tryd.prog 36)) = some Trydc100 := by kernel_rfl
end Go.Am
end
