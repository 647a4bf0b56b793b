/- Contracts of the program's functions, for every argument that meets the conditions that each theorem names. -/
import Derived.Test.YtdbikeconboifaaGreatDoorAm6
import Derived.Test.YtdbikeconboifaaGreatDoorAm4
import Derived.Test.YtdbikeconboifaaGreatDoorProg
section
set_option maxHeartbeats 16000000
set_option maxRecDepth 100000
namespace Go.Am
open Go.Proofs
abbrev oN (d : Nat) (o : AOp) (a : List Nat) : AOper := ⟨some d, o, a, none⟩
abbrev oG (d : Nat) (o : AOp) (a : List Nat) (g : Nat) (b : Bool) : AOper := ⟨some d, o, a, some (g, b)⟩
abbrev eN (o : AOp) (a : List Nat) : AOper := ⟨none, o, a, none⟩
abbrev eG (o : AOp) (a : List Nat) (g : Nat) (b : Bool) : AOper := ⟨none, o, a, some (g, b)⟩
abbrev cI (n : Int) : Opd := .c (.val (.int .i64 n))
abbrev cB (b : Bool) : Opd := .c (.val (.bool b))
abbrev cN : Opd := .c (.val (.slice none 0 0))
abbrev vI (n : Int) : AV := .val (.int .i64 n)
abbrev vN : AV := .val (.slice none 0 0)
abbrev zE : List AV := [vI 0, vN, vI 0, vI 0, vI 0, vI 0, vI 0, .val (.string ⟨#[]⟩)]
abbrev zP : List AV := [vI 0, vN, vI 0, vI 0, vI 0, vI 0, vI 0, vN, vI 0, vI 0, vI 0, vI 0, vI 0, .val (.string ⟨#[]⟩)]
def Tryzc5 : ACode :=
 (.seq (.reg [
 oN 3 (.box (.t 0)) [],
 oN 4 (.box (.t 1)) [],
 oN 6 (.mv (cB false)) []])
 (.seq (.seq (.reg [
 oN 13 (.ld 14 true (.t 3)) [],
 oN 14 (.call 7 [(.t 13)]) [0],
 oN 15 (.un .not (.t 14)) [1],
 oN 16 (.mv (.t 15)) [2,1],
 oG 17 (.ld 14 true (.t 4)) [3] 16 false,
 oG 18 (.call 7 [(.t 17)]) [4,3,3] 16 false,
 oG 19 (.un .not (.t 18)) [5,3] 16 false,
 oN 20 (.pick (.t 16) (cB true) (.t 19)) [3,6]])
 (.cond (.t 20)
 (.seq (.reg [
 oN 21 (.call 8 []) [],
 oN 6 (.mv (.t 21)) [0,0,0]])
 .ret)
 .skip))
 (.seq (.reg [
 oN 23 (.ld 14 true (.t 3)) [],
 oN 24 (.mv (.t 2)) [],
 oN 25 (.call 21 [(.t 23), (.t 24)]) [0,1],
 oN 22 (.mv (.t 25)) [2],
 oN 26 (.ext (.t 22) 0) [3],
 oN 27 (.ext (.t 22) 1) [3],
 oN 28 (.ext (.t 22) 2) [3],
 oN 7 (.mv (.t 26)) [4,2,0,1,2,3,4],
 oN 8 (.mv (.t 27)) [5,7,0,1,2,3,4,5,7],
 oN 9 (.mv (.t 28)) [6,8,0,1,2,3,4,5,6,7,8]])
 (.seq (.reg [
 oN 30 (.ld 14 true (.t 3)) [],
 oN 31 (.mv (.t 2)) [],
 oN 32 (.call 22 [(.t 30), (.t 31)]) [0,1],
 oN 29 (.mv (.t 32)) [2],
 oN 33 (.ext (.t 29) 0) [3],
 oN 34 (.ext (.t 29) 1) [3],
 oN 35 (.ext (.t 29) 2) [3],
 oN 10 (.mv (.t 33)) [4,2,0,1,2,3,4],
 oN 11 (.mv (.t 34)) [5,7,0,1,2,3,4,5,7],
 oN 12 (.mv (.t 35)) [6,8,0,1,2,3,4,5,6,7,8]])
 (.seq (.draw [
 oN 36 (.call 8 []) [],
 oN 37 (.mv (.t 36)) [0,0],
 oG 38 (.mv (.t 7)) [1] 37 true,
 oG 39 (.mv (.t 10)) [1] 37 true,
 oG 40 (.call 23 [(.t 38), (.t 39)]) [2,3,1,1] 37 true,
 oN 41 (.pick (.t 37) (.t 40) (cB false)) [1,4],
 oN 42 (.mv (.t 41)) [5,4],
 oG 43 (.mv (.t 8)) [6] 42 true,
 oG 44 (.mv (.t 11)) [6] 42 true,
 oG 45 (.call 12 [(.t 43), (.t 44)]) [7,8,6,6] 42 true,
 oN 46 (.pick (.t 42) (.t 45) (cB false)) [6,9],
 oN 47 (.mv (.t 46)) [10,9],
 oG 48 (.mv (.t 9)) [11] 47 true,
 oG 49 (.mv (.t 12)) [11] 47 true,
 oG 50 (.bin .eql (.t 48) (.t 49)) [12,13,11] 47 true,
 oN 51 (.pick (.t 47) (.t 50) (cB false)) [11,14],
 oN 52 (.mv (.t 51)) [15,11],
 oG 53 (.ld 14 true (.t 3)) [16] 52 true,
 oG 54 (.call 24 [(.t 53)]) [17,16,16] 52 true,
 oG 55 (.ld 14 true (.t 3)) [16] 52 true,
 oG 56 (.call 25 [(.t 55)]) [19,18,16] 52 true,
 oG 57 (.call 12 [(.t 54), (.t 56)]) [18,20,20,16] 52 true,
 oN 58 (.pick (.t 52) (.t 57) (cB false)) [16,21],
 oN 59 (.mv (.t 58)) [22,21],
 oG 60 (.ld 14 true (.t 3)) [23] 59 true,
 oG 61 (.ld 14 true (.t 4)) [23] 59 true,
 oG 62 (.call 26 [(.t 60), (.t 61)]) [24,25,23,23] 59 true,
 oG 63 (.ld 14 true (.t 3)) [23] 59 true,
 oG 64 (.ld 14 true (.t 4)) [23] 59 true,
 oG 65 (.call 11 [(.t 63), (.t 64)]) [27,28,26,23] 59 true,
 oG 66 (.eqb false (.t 62) (.t 65)) [26,29,23] 59 true,
 oN 67 (.pick (.t 59) (.t 66) (cB false)) [23,30],
 oN 68 (.mv (.t 67)) [31,29],
 oG 69 (.ld 14 true (.t 3)) [32] 68 true,
 oG 70 (.ld 14 true (.t 3)) [32] 68 true,
 oG 71 (.call 26 [(.t 69), (.t 70)]) [33,34,32,32] 68 true,
 oN 72 (.pick (.t 68) (.t 71) (cB false)) [32,35],
 oN 6 (.mv (.t 72)) [36,35,0,1,2,3,4,5,6,7,8,9,10,11,12,13,14,15,16,17,18,19,20,21,22,23,24,25,26,27,28,29,30,31,32,33,34,35,36]])
 .ret)))))
theorem Tryzp5 : (Tryz.f5.body.map (prep Tryz.prog 73)) = some Tryzc5 := by kernel_rfl
def Tryzc7 : ACode :=
 (.seq (.reg [
 oN 1 (.box (.t 0)) [],
 oN 2 (.mv (cB false)) []])
 (.seq (.seq (.reg [
 oN 5 (.ld 14 true (.t 1)) [],
 oN 6 (.call 29 [(.t 5), (cI 150)]) [0],
 oN 7 (.bin .gtr (.t 6) (cI 150)) [1],
 oN 8 (.mv (.t 7)) [2,1],
 oG 9 (.ld 14 true (.t 1)) [3] 8 false,
 oG 10 (.call 30 [(.t 9)]) [4,3,3] 8 false,
 oG 11 (.bin .gtr (.t 10) (cI 60)) [5,3] 8 false,
 oN 12 (.pick (.t 8) (cB true) (.t 11)) [3,6]])
 (.cond (.t 12)
 (.seq (.reg [
 oN 2 (.mv (cB false)) []])
 .ret)
 .skip))
 (.seq (.reg [
 oN 13 (.ld 14 true (.t 1)) [],
 oN 14 (.call 31 [(.t 13)]) [0],
 oN 3 (.mv (.t 14)) [1,1,0,1]])
 (.seq (.seq (.reg [
 oN 4 (.mv (cI 0)) []])
 (.block 0
 (.loop
 (.seq (.seq (.reg [
 oN 15 (.mv (.t 4)) [],
 oN 16 (.mv (.t 3)) [],
 oN 17 (.len (.t 16)) [1],
 oN 18 (.bin .lss (.t 15) (.t 17)) [0,2]])
 (.cond (.t 18)
 .skip
 (.exit 0)))
 (.seq (.block 1
 (.seq (.reg [
 oN 21 (.mv (.t 3)) [],
 oN 22 (.mv (.t 4)) [],
 oN 23 (.ia 14 (.t 21) (.t 22)) [0,1],
 oN 24 (.fa 6 (.t 23)) [2],
 oN 25 (.ld 8 true (.t 24)) [3],
 oN 26 (.call 32 [(.t 25)]) [4],
 oN 27 (.un .not (.t 26)) [5]])
 (.cond (.t 27)
 (.seq (.reg [
 oN 2 (.mv (cB false)) []])
 .ret)
 .skip)))
 (.reg [
 oN 19 (.mv (.t 4)) [],
 oN 20 (.bin .add (.t 19) (cI 1)) [0],
 oN 4 (.mv (.t 20)) [1,0,1]]))))))
 (.seq (.reg [
 oN 2 (.mv (cB true)) []])
 .ret)))))
theorem Tryzp7 : (Tryz.f7.body.map (prep Tryz.prog 28)) = some Tryzc7 := by kernel_rfl
def Tryzc8 : ACode :=
 (.seq (.reg [
 oN 0 (.mv (cB false)) []])
 (.seq (.reg [
 oN 12 (.call 33 [(cI 0), (cI 1)]) [],
 oN 13 (.call 33 [(cI 3), (cI 7)]) [0],
 oN 1 (.box (.c (.agg zP))) [],
 oN 2 (.box (.c (.agg zP))) [],
 eN (.st 14 (.t 1) (.t 12)) [2,0,1,0,2,3],
 eN (.st 14 (.t 2) (.t 13)) [3,1,4,0,1,2,3,4]])
 (.seq (.reg [
 oN 15 (.ld 14 true (.t 1)) [],
 oN 16 (.call 13 [(.t 15)]) [0],
 oN 14 (.mv (.t 16)) [1],
 oN 17 (.ext (.t 14) 0) [2],
 oN 18 (.ext (.t 14) 1) [2],
 oN 3 (.mv (.t 17)) [3,1,0,1,2,3],
 oN 4 (.mv (.t 18)) [4,5,0,1,2,3,4,5]])
 (.seq (.reg [
 oN 20 (.ld 14 true (.t 1)) [],
 oN 21 (.call 21 [(.t 20), (cI 1)]) [0],
 oN 19 (.mv (.t 21)) [1],
 oN 22 (.ext (.t 19) 0) [2],
 oN 23 (.ext (.t 19) 1) [2],
 oN 24 (.ext (.t 19) 2) [2],
 oN 5 (.mv (.t 22)) [3,1,0,1,2,3],
 oN 6 (.mv (.t 23)) [4,6,0,1,2,3,4,6],
 oN 7 (.mv (.t 24)) [5,7,0,1,2,3,4,5,6,7]])
 (.seq (.reg [
 oN 26 (.ld 14 true (.t 2)) [],
 oN 27 (.call 9 [(.t 26)]) [0],
 oN 25 (.mv (.t 27)) [1],
 oN 28 (.ext (.t 25) 0) [2],
 oN 29 (.ext (.t 25) 1) [2],
 oN 30 (.ext (.t 25) 2) [2],
 oN 8 (.box (.c (.agg zP))) [],
 eN (.st 14 (.t 8) (.t 28)) [6,3,1,0,1,2,3,6],
 oN 9 (.mv (.t 29)) [4,7,0,1,2,3,4,6,7],
 oN 10 (.mv (.t 30)) [5,8,0,1,2,3,4,5,6,7,8]])
 (.seq (.seq (.reg [
 oN 31 (.mv (.t 7)) [],
 oN 32 (.bin .neq (.t 31) (cI 0)) [0],
 oN 33 (.mv (.t 32)) [1],
 oG 34 (.mv (.t 10)) [2] 33 false,
 oG 35 (.bin .neq (.t 34) (cI 0)) [3,2] 33 false,
 oN 36 (.pick (.t 33) (cB true) (.t 35)) [2,4],
 oN 37 (.mv (.t 36)) [5,2],
 oG 38 (.mv (.t 3)) [6] 37 false,
 oG 39 (.bin .neq (.t 38) (cI 5)) [7,6] 37 false,
 oN 40 (.pick (.t 37) (cB true) (.t 39)) [6,8],
 oN 41 (.mv (.t 40)) [9,6],
 oG 42 (.mv (.t 4)) [10] 41 false,
 oG 43 (.bin .neq (.t 42) (cI 4)) [11,10] 41 false,
 oN 44 (.pick (.t 41) (cB true) (.t 43)) [10,12],
 oN 45 (.mv (.t 44)) [13,10],
 oG 46 (.mv (.t 5)) [14] 45 false,
 oG 47 (.build [(vI 0), (vI 0)] [(1, 1, (cI 5))]) [14] 45 false,
 oG 48 (.bslice 2 [(.t 47)]) [16,14] 45 false,
 oG 49 (.call 23 [(.t 46), (.t 48)]) [15,17,14,14] 45 false,
 oG 50 (.un .not (.t 49)) [18,14] 45 false,
 oN 51 (.pick (.t 45) (cB true) (.t 50)) [14,19],
 oN 52 (.mv (.t 51)) [20,18],
 oG 53 (.mv (.t 6)) [21] 52 false,
 oG 54 (.len (.t 53)) [22,21] 52 false,
 oG 55 (.bin .neq (.t 54) (cI 0)) [23,21] 52 false,
 oN 56 (.pick (.t 52) (cB true) (.t 55)) [21,24],
 oN 57 (.mv (.t 56)) [25,21],
 oG 58 (.ld 14 true (.t 1)) [26] 57 false,
 oG 59 (.call 17 [(.t 58)]) [27,26,26] 57 false,
 oG 60 (.bin .neq (.t 59) (cI 0)) [28,26] 57 false,
 oN 61 (.pick (.t 57) (cB true) (.t 60)) [26,29],
 oN 62 (.mv (.t 61)) [30,28],
 oG 63 (.ld 14 true (.t 2)) [31] 62 false,
 oG 64 (.call 17 [(.t 63)]) [32,31,31] 62 false,
 oG 65 (.bin .neq (.t 64) (cI 14)) [33,31] 62 false,
 oN 66 (.pick (.t 62) (cB true) (.t 65)) [31,34],
 oN 67 (.mv (.t 66)) [35,33],
 oG 68 (.ld 14 true (.t 8)) [36] 67 false,
 oG 69 (.ld 14 true (.t 1)) [36] 67 false,
 oG 70 (.call 11 [(.t 68), (.t 69)]) [37,38,36,36] 67 false,
 oG 71 (.un .not (.t 70)) [39,36] 67 false,
 oN 72 (.pick (.t 67) (cB true) (.t 71)) [36,40],
 oN 73 (.mv (.t 72)) [41,39],
 oG 74 (.mv (.t 9)) [42] 73 false,
 oG 75 (.bslice 1 [(cI 3), (cI 7)]) [42] 73 false,
 oG 76 (.call 12 [(.t 74), (.t 75)]) [43,44,42,42] 73 false,
 oG 77 (.un .not (.t 76)) [45,42] 73 false,
 oN 78 (.pick (.t 73) (cB true) (.t 77)) [42,46]])
 (.cond (.t 78)
 (.seq (.reg [
 oN 0 (.mv (cB false)) []])
 .ret)
 .skip))
 (.seq (.reg [
 oN 79 (.call 34 [(cI 0), (cI 1)]) [],
 oN 80 (.bslice 14 [(.t 79)]) [0],
 oN 81 (.call 35 []) [0],
 oN 82 (.build zP [(0, 1, (cI 5)), (1, 1, (.t 80)), (2, 1, (cI 1)), (6, 8, (.t 81))]) [1,2],
 oN 11 (.box (.c (.agg zP))) [],
 eN (.st 14 (.t 11) (.t 82)) [4,3,2,0,1,2,3,4]])
 (.seq (.reg [
 oN 83 (.ld 14 true (.t 11)) [],
 oN 84 (.call 17 [(.t 83)]) [0],
 oN 85 (.bin .eql (.t 84) (cI 0)) [1],
 oN 86 (.mv (.t 85)) [2,1],
 oG 87 (.ld 14 true (.t 11)) [3] 86 true,
 oG 88 (.call 24 [(.t 87)]) [4,3,3] 86 true,
 oG 89 (.bslice 1 [(cI 1)]) [3] 86 true,
 oG 90 (.call 12 [(.t 88), (.t 89)]) [5,6,5,3] 86 true,
 oN 91 (.pick (.t 86) (.t 90) (cB false)) [3,7],
 oN 0 (.mv (.t 91)) [8,7,0,1,2,3,4,5,6,7,8]])
 .ret))))))))
theorem Tryzp8 : (Tryz.f8.body.map (prep Tryz.prog 92)) = some Tryzc8 := by kernel_rfl
def Tryzc9 : ACode :=
 (.seq (.reg [
 oN 1 (.box (.t 0)) [],
 oN 2 (.box (.c (.agg zP))) [],
 oN 3 (.box cN) [],
 oN 4 (.box (cI 0)) []])
 (.seq (.seq (.reg [
 oN 12 (.ld 14 true (.t 1)) [],
 oN 13 (.call 36 [(.t 12)]) [0],
 oN 5 (.mv (.t 13)) [1,1,0,1]])
 (.seq (.reg [
 oN 14 (.mv (.t 5)) [],
 oN 15 (.bin .neq (.t 14) (cI 0)) [0]])
 (.cond (.t 15)
 (.seq (.reg [
 oN 16 (.build zP []) [],
 oN 17 (.mv (.t 5)) [],
 eN (.st 14 (.t 2) (.t 16)) [0,0],
 eN (.st 1 (.t 3) cN) [2,0,2],
 eN (.st 1 (.t 4) (.t 17)) [1,3,0,1,2,3]])
 .ret)
 .skip)))
 (.seq (.reg [
 oN 18 (.bslice 1 [(cI (-1))]) [],
 oN 19 (.call 37 [(.t 18), (cI 16)]) [0],
 oN 6 (.box cN) [],
 eN (.st 1 (.t 6) (.t 19)) [2,1,1,0,1,2]])
 (.seq (.reg [
 oN 7 (.box cN) []])
 (.seq (.seq (.reg [
 oN 20 (.ld 14 true (.t 1)) [],
 oN 21 (.call 38 [(.t 20)]) [0]])
 (.block 0
 (.rfun (.t 21) [22]
 (.reg [
 oN 8 (.box (.c (.agg zP))) [],
 eN (.st 14 (.t 8) (.t 22)) [0,0]])
 (.block 1
 (.seq (.reg [
 oN 23 (.fa 0 (.t 8)) [],
 oN 24 (.ld 1 false (.t 23)) [0],
 oN 25 (.iaA 6 11 (.g 0) (.t 24)) [1],
 oN 26 (.fa 2 (.t 25)) [2],
 oN 27 (.ld 1 false (.t 26)) [3]])
 (.cond (.t 27)
 (.seq (.seq (.reg [
 oN 28 (.ld 1 false (.t 7)) [],
 oN 29 (.fa 3 (.t 8)) [],
 oN 30 (.ld 1 false (.t 29)) [1],
 oN 31 (.call 39 [(.t 28), (.t 30)]) [0,2]])
 (.cond (.t 31)
 (.seq (.reg [
 oN 32 (.build zP []) [],
 eN (.st 14 (.t 2) (.t 32)) [0,0],
 eN (.st 1 (.t 3) cN) [1,0,1],
 eN (.st 1 (.t 4) (cI 7)) [2,0,1,2]])
 .ret)
 .skip))
 (.seq (.reg [
 oN 33 (.ld 1 false (.t 6)) [],
 oN 34 (.fa 3 (.t 8)) [],
 oN 35 (.ld 1 false (.t 34)) [1],
 oN 36 (.ld 1 false (.t 7)) [],
 oN 37 (.len (.t 36)) [3],
 oN 38 (.ia 1 (.t 33) (.t 35)) [0,2,0,1,2,3,4],
 eN (.st 1 (.t 38) (.t 37)) [5,4,0,1,2,3,4]])
 (.reg [
 oN 39 (.ld 1 false (.t 7)) [],
 oN 40 (.fa 3 (.t 8)) [],
 oN 41 (.ld 1 false (.t 40)) [1],
 oN 42 (.bslice 1 [(.t 41)]) [2],
 oN 43 (.app 1 8 (.t 39) (.t 42)) [0,3],
 eN (.st 1 (.t 7) (.t 43)) [4,4,0,1,2,3,4]])))
 .skip))))))
 (.seq (.seq (.reg [
 oN 44 (.ld 14 true (.t 1)) [],
 oN 45 (.call 38 [(.t 44)]) [0]])
 (.block 2
 (.rfun (.t 45) [46]
 (.reg [
 oN 9 (.box (.c (.agg zP))) [],
 eN (.st 14 (.t 9) (.t 46)) [0,0]])
 (.block 3
 (.seq (.reg [
 oN 47 (.fa 0 (.t 9)) [],
 oN 48 (.ld 1 false (.t 47)) [0],
 oN 49 (.iaA 6 11 (.g 0) (.t 48)) [1],
 oN 50 (.fa 3 (.t 49)) [2],
 oN 51 (.ld 1 false (.t 50)) [3],
 oN 52 (.mv (.t 51)) [4],
 oG 53 (.fa 6 (.t 9)) [5] 52 true,
 oG 54 (.ld 8 true (.t 53)) [6,5] 52 true,
 oG 55 (.call 41 [(.t 54)]) [7,5,5] 52 true,
 oG 56 (.mkfn 42 [(.t 6)]) [5] 52 true,
 oG 57 (.call 40 [(.t 55), (.t 56)]) [8,9,8,5] 52 true,
 oN 58 (.pick (.t 52) (.t 57) (cB false)) [5,10]])
 (.cond (.t 58)
 (.seq (.reg [
 oN 59 (.build zP []) [],
 eN (.st 14 (.t 2) (.t 59)) [0,0],
 eN (.st 1 (.t 3) cN) [1,0,1],
 eN (.st 1 (.t 4) (cI 6)) [2,0,1,2]])
 .ret)
 .skip))))))
 (.seq (.reg [
 oN 61 (.ld 14 true (.t 1)) [],
 oN 62 (.ld 1 false (.t 6)) [],
 oN 63 (.call 44 [(.t 61), (.t 62)]) [0,1],
 oN 64 (.call 43 [(.t 63), (cI 0)]) [2,2],
 oN 60 (.mv (.t 64)) [3],
 oN 65 (.ext (.t 60) 0) [4],
 oN 66 (.ext (.t 60) 1) [4],
 oN 10 (.box (.c (.agg zP))) [],
 eN (.st 14 (.t 10) (.t 65)) [7,5,3,0,1,2,3,4,5,7],
 oN 11 (.mv (.t 66)) [6,8,0,1,2,3,4,5,6,7,8]])
 (.seq (.draw [
 oN 67 (.ld 14 true (.t 10)) [],
 oN 68 (.ld 1 false (.t 7)) [],
 eN (.st 14 (.t 2) (.t 67)) [0,0],
 eN (.st 1 (.t 3) (.t 68)) [1,2,0,1,2],
 eN (.st 1 (.t 4) (cI 0)) [3,0,1,2,3]])
 .ret))))))))
theorem Tryzp9 : (Tryz.f9.body.map (prep Tryz.prog 69)) = some Tryzc9 := by kernel_rfl
def Tryzc11 : ACode :=
 (.seq (.reg [
 oN 2 (.box (.t 0)) [],
 oN 3 (.box (.t 1)) [],
 oN 4 (.mv (cB false)) []])
 (.seq (.seq (.reg [
 oN 6 (.fa 0 (.t 2)) [],
 oN 7 (.ld 1 false (.t 6)) [0],
 oN 8 (.fa 0 (.t 3)) [],
 oN 9 (.ld 1 false (.t 8)) [2],
 oN 10 (.bin .neq (.t 7) (.t 9)) [1,3],
 oN 11 (.mv (.t 10)) [4],
 oG 12 (.fa 2 (.t 2)) [5] 11 false,
 oG 13 (.ld 1 false (.t 12)) [6,5] 11 false,
 oG 14 (.fa 2 (.t 3)) [5] 11 false,
 oG 15 (.ld 1 false (.t 14)) [8,5] 11 false,
 oG 16 (.bin .neq (.t 13) (.t 15)) [7,9,5] 11 false,
 oN 17 (.pick (.t 11) (cB true) (.t 16)) [5,10],
 oN 18 (.mv (.t 17)) [11,5],
 oG 19 (.fa 3 (.t 2)) [12] 18 false,
 oG 20 (.ld 1 false (.t 19)) [13,12] 18 false,
 oG 21 (.fa 3 (.t 3)) [12] 18 false,
 oG 22 (.ld 1 false (.t 21)) [15,12] 18 false,
 oG 23 (.bin .neq (.t 20) (.t 22)) [14,16,12] 18 false,
 oN 24 (.pick (.t 18) (cB true) (.t 23)) [12,17],
 oN 25 (.mv (.t 24)) [18,12],
 oG 26 (.fa 4 (.t 2)) [19] 25 false,
 oG 27 (.ld 1 false (.t 26)) [20,19] 25 false,
 oG 28 (.fa 4 (.t 3)) [19] 25 false,
 oG 29 (.ld 1 false (.t 28)) [22,19] 25 false,
 oG 30 (.bin .neq (.t 27) (.t 29)) [21,23,19] 25 false,
 oN 31 (.pick (.t 25) (cB true) (.t 30)) [19,24],
 oN 32 (.mv (.t 31)) [25,19],
 oG 33 (.fa 5 (.t 2)) [26] 32 false,
 oG 34 (.ld 1 false (.t 33)) [27,26] 32 false,
 oG 35 (.fa 5 (.t 3)) [26] 32 false,
 oG 36 (.ld 1 false (.t 35)) [29,26] 32 false,
 oG 37 (.bin .neq (.t 34) (.t 36)) [28,30,26] 32 false,
 oN 38 (.pick (.t 32) (cB true) (.t 37)) [26,31],
 oN 39 (.mv (.t 38)) [32,26],
 oG 40 (.fa 6 (.t 2)) [33] 39 false,
 oG 41 (.ld 8 true (.t 40)) [34,33] 39 false,
 oG 42 (.fa 6 (.t 3)) [33] 39 false,
 oG 43 (.ld 8 true (.t 42)) [36,33] 39 false,
 oG 44 (.call 49 [(.t 41), (.t 43)]) [35,37,33,33] 39 false,
 oG 45 (.un .not (.t 44)) [38,33] 39 false,
 oN 46 (.pick (.t 39) (cB true) (.t 45)) [33,39],
 oN 47 (.mv (.t 46)) [40,38],
 oG 48 (.fa 1 (.t 2)) [41] 47 false,
 oG 49 (.ld 1 false (.t 48)) [42,41] 47 false,
 oG 50 (.len (.t 49)) [43,41] 47 false,
 oG 51 (.fa 1 (.t 3)) [41] 47 false,
 oG 52 (.ld 1 false (.t 51)) [45,41] 47 false,
 oG 53 (.len (.t 52)) [46,41] 47 false,
 oG 54 (.bin .neq (.t 50) (.t 53)) [44,47,41] 47 false,
 oN 55 (.pick (.t 47) (cB true) (.t 54)) [41,48]])
 (.cond (.t 55)
 (.seq (.reg [
 oN 4 (.mv (cB false)) []])
 .ret)
 .skip))
 (.seq (.seq (.reg [
 oN 5 (.mv (cI 0)) []])
 (.block 0
 (.loop
 (.seq (.seq (.reg [
 oN 56 (.mv (.t 5)) [],
 oN 57 (.fa 1 (.t 2)) [],
 oN 58 (.ld 1 false (.t 57)) [1],
 oN 59 (.len (.t 58)) [2],
 oN 60 (.bin .lss (.t 56) (.t 59)) [0,3]])
 (.cond (.t 60)
 .skip
 (.exit 0)))
 (.seq (.block 1
 (.seq (.draw [
 oN 63 (.fa 1 (.t 2)) [],
 oN 64 (.ld 1 false (.t 63)) [0],
 oN 65 (.mv (.t 5)) [],
 oN 66 (.ia 14 (.t 64) (.t 65)) [1,2],
 oN 67 (.ld 14 true (.t 66)) [3],
 oN 68 (.fa 1 (.t 3)) [],
 oN 69 (.ld 1 false (.t 68)) [5],
 oN 70 (.mv (.t 5)) [],
 oN 71 (.ia 14 (.t 69) (.t 70)) [6,7],
 oN 72 (.ld 14 true (.t 71)) [8],
 oN 73 (.call 11 [(.t 67), (.t 72)]) [4,9],
 oN 74 (.un .not (.t 73)) [10]])
 (.cond (.t 74)
 (.seq (.reg [
 oN 4 (.mv (cB false)) []])
 .ret)
 .skip)))
 (.reg [
 oN 61 (.mv (.t 5)) [],
 oN 62 (.bin .add (.t 61) (cI 1)) [0],
 oN 5 (.mv (.t 62)) [1,0,1]]))))))
 (.seq (.reg [
 oN 4 (.mv (cB true)) []])
 .ret))))
theorem Tryzp11 : (Tryz.f11.body.map (prep Tryz.prog 75)) = some Tryzc11 := by kernel_rfl
def Tryzc12 : ACode :=
 (.seq (.reg [
 oN 4 (.mv (cB false)) []])
 (.seq (.seq (.reg [
 oN 6 (.mv (.t 0)) [],
 oN 7 (.len (.t 6)) [0],
 oN 8 (.mv (.t 1)) [],
 oN 9 (.len (.t 8)) [2],
 oN 10 (.bin .neq (.t 7) (.t 9)) [1,3]])
 (.cond (.t 10)
 (.seq (.reg [
 oN 4 (.mv (cB false)) []])
 .ret)
 .skip))
 (.seq (.seq (.reg [
 oN 5 (.mv (cI 0)) []])
 (.block 0
 (.loop
 (.seq (.seq (.reg [
 oN 11 (.mv (.t 5)) [],
 oN 12 (.mv (.t 0)) [],
 oN 13 (.len (.t 12)) [1],
 oN 14 (.bin .lss (.t 11) (.t 13)) [0,2]])
 (.cond (.t 14)
 .skip
 (.exit 0)))
 (.seq (.block 1
 (.seq (.draw [
 oN 17 (.mv (.t 0)) [],
 oN 18 (.mv (.t 5)) [],
 oN 19 (.ia 1 (.t 17) (.t 18)) [0,1],
 oN 20 (.ld 1 false (.t 19)) [2],
 oN 21 (.mv (.t 1)) [],
 oN 22 (.mv (.t 5)) [],
 oN 23 (.ia 1 (.t 21) (.t 22)) [4,5],
 oN 24 (.ld 1 false (.t 23)) [6],
 oN 25 (.bin .neq (.t 20) (.t 24)) [3,7]])
 (.cond (.t 25)
 (.seq (.reg [
 oN 4 (.mv (cB false)) []])
 .ret)
 .skip)))
 (.reg [
 oN 15 (.mv (.t 5)) [],
 oN 16 (.bin .add (.t 15) (cI 1)) [0],
 oN 5 (.mv (.t 16)) [1,0,1]]))))))
 (.seq (.reg [
 oN 4 (.mv (cB true)) []])
 .ret))))
theorem Tryzp12 : (Tryz.f12.body.map (prep Tryz.prog 26)) = some Tryzc12 := by kernel_rfl
def Tryzc13 : ACode :=
 (.seq (.reg [
 oN 1 (.box (.t 0)) [],
 oN 2 (.mv (cI 0)) [],
 oN 3 (.mv (cI 0)) [1]])
 (.seq (.reg [
 oN 4 (.mv (cI 1)) [],
 oN 5 (.mv (cI 0)) [0,0]])
 (.seq (.seq (.reg [
 oN 10 (.fa 1 (.t 1)) [],
 oN 11 (.ld 1 false (.t 10)) [0],
 oN 12 (.len (.t 11)) [1],
 oN 13 (.mv (cI 0)) []])
 (.block 0
 (.loop
 (.seq (.reg [
 oN 14 (.bin .lss (.t 13) (.t 12)) []])
 (.seq (.cond (.t 14)
 .skip
 (.exit 0))
 (.seq (.block 1
 (.seq (.reg [
 oN 15 (.ia 14 (.t 11) (.t 13)) [],
 oN 16 (.ld 14 true (.t 15)) [0],
 oN 7 (.box (.c (.agg zP))) [],
 eN (.st 14 (.t 7) (.t 16)) [2,1,0,1,2]])
 (.seq (.reg [
 oN 18 (.ld 14 true (.t 7)) [],
 oN 19 (.call 13 [(.t 18)]) [0],
 oN 17 (.mv (.t 19)) [1],
 oN 20 (.ext (.t 17) 0) [2],
 oN 21 (.ext (.t 17) 1) [2],
 oN 8 (.mv (.t 20)) [3,1,0,1,2,3],
 oN 9 (.mv (.t 21)) [4,5,0,1,2,3,4,5]])
 (.reg [
 oN 22 (.mv (.t 4)) [],
 oN 23 (.mv (.t 8)) [],
 oN 24 (.bin .add (.t 22) (.t 23)) [0,1],
 oN 25 (.mv (.t 5)) [],
 oN 26 (.mv (.t 9)) [],
 oN 27 (.mx [(.t 25), (.t 26)]) [3,4],
 oN 4 (.mv (.t 24)) [2,0,1,2],
 oN 5 (.mv (.t 27)) [5,6,0,1,2,3,4,5,6]]))))
 (.reg [
 oN 28 (.bin .add (.t 13) (cI 1)) [],
 oN 13 (.mv (.t 28)) [0]])))))))
 (.seq (.reg [
 oN 29 (.mv (.t 4)) [],
 oN 30 (.mv (.t 5)) [],
 oN 31 (.bin .add (.t 30) (cI 1)) [1],
 oN 2 (.mv (.t 29)) [0,0],
 oN 3 (.mv (.t 31)) [2,3,0,1,2,3]])
 .ret))))
theorem Tryzp13 : (Tryz.f13.body.map (prep Tryz.prog 32)) = some Tryzc13 := by kernel_rfl
def Tryzc17 : ACode :=
 (.seq (.reg [
 oN 1 (.box (.t 0)) [],
 oN 2 (.mv (cI 0)) []])
 (.seq (.seq (.reg [
 oN 7 (.ld 14 true (.t 1)) [],
 oN 8 (.call 36 [(.t 7)]) [0],
 oN 3 (.mv (.t 8)) [1,1,0,1]])
 (.seq (.reg [
 oN 9 (.mv (.t 3)) [],
 oN 10 (.bin .neq (.t 9) (cI 0)) [0]])
 (.cond (.t 10)
 (.seq (.reg [
 oN 11 (.mv (.t 3)) [],
 oN 2 (.mv (.t 11)) [0,0]])
 .ret)
 .skip)))
 (.seq (.seq (.reg [
 oN 13 (.ld 14 true (.t 1)) [],
 oN 14 (.call 50 [(.t 13)]) [0],
 oN 12 (.mv (.t 14)) [1],
 oN 15 (.ext (.t 12) 0) [2],
 oN 16 (.ext (.t 12) 1) [2],
 oN 17 (.ext (.t 12) 2) [2],
 oN 4 (.mv (.t 15)) [3,1,0,1,2,3],
 oN 5 (.mv (.t 16)) [4,6,0,1,2,3,4,6],
 oN 6 (.mv (.t 17)) [5,7,0,1,2,3,4,5,6,7]])
 (.seq (.reg [
 oN 18 (.mv (.t 6)) [],
 oN 19 (.un .not (.t 18)) [0]])
 (.cond (.t 19)
 (.seq (.reg [
 oN 2 (.mv (cI 14)) []])
 .ret)
 .skip)))
 (.seq (.reg [
 oN 2 (.mv (cI 0)) []])
 .ret))))
theorem Tryzp17 : (Tryz.f17.body.map (prep Tryz.prog 20)) = some Tryzc17 := by kernel_rfl
def Tryzc19 : ACode :=
 (.seq (.reg [
 oN 1 (.box (.t 0)) [],
 oN 2 (.box (cI 0)) []])
 (.seq (.reg [
 oN 8 (.ld 14 true (.t 1)) [],
 oN 9 (.call 13 [(.t 8)]) [0],
 oN 7 (.mv (.t 9)) [1],
 oN 10 (.ext (.t 7) 0) [2],
 oN 11 (.ext (.t 7) 1) [2],
 oN 3 (.mv (.t 10)) [3,1,0,1,2,3],
 oN 4 (.mv (.t 11)) [4,5,0,1,2,3,4,5]])
 (.seq (.seq (.reg [
 oN 12 (.mv (.t 3)) [],
 oN 13 (.bin .gtr (.t 12) (cI 64)) [0]])
 (.cond (.t 13)
 (.seq (.reg [
 eN (.st 1 (.t 2) (cI 5)) []])
 .ret)
 .skip))
 (.seq (.seq (.reg [
 oN 14 (.mv (.t 4)) [],
 oN 15 (.bin .gtr (.t 14) (cI 12)) [0]])
 (.cond (.t 15)
 (.seq (.reg [
 eN (.st 1 (.t 2) (cI 12)) []])
 .ret)
 .skip))
 (.seq (.seq (.reg [
 oN 16 (.ld 14 true (.t 1)) [],
 oN 17 (.call 38 [(.t 16)]) [0]])
 (.block 0
 (.rfun (.t 17) [18]
 (.reg [
 oN 5 (.box (.c (.agg zP))) [],
 eN (.st 14 (.t 5) (.t 18)) [0,0]])
 (.block 1
 (.seq (.reg [
 oN 19 (.ld 14 true (.t 5)) [],
 oN 20 (.call 54 [(.t 19)]) [0],
 oN 6 (.mv (.t 20)) [1,1,0,1]])
 (.seq (.reg [
 oN 21 (.mv (.t 6)) [],
 oN 22 (.bin .neq (.t 21) (cI 0)) [0]])
 (.cond (.t 22)
 (.seq (.reg [
 oN 23 (.mv (.t 6)) [],
 eN (.st 1 (.t 2) (.t 23)) [0,0]])
 .ret)
 .skip)))))))
 (.seq (.reg [
 eN (.st 1 (.t 2) (cI 0)) []])
 .ret))))))
theorem Tryzp19 : (Tryz.f19.body.map (prep Tryz.prog 24)) = some Tryzc19 := by kernel_rfl
def Tryzc20 : ACode :=
 (.seq (.reg [
 oN 1 (.box (.t 0)) [],
 oN 2 (.mv (cI 0)) []])
 (.seq (.seq (.reg [
 oN 6 (.ld 14 true (.t 1)) [],
 oN 7 (.call 29 [(.t 6), (cI 64)]) [0],
 oN 8 (.bin .gtr (.t 7) (cI 64)) [1]])
 (.cond (.t 8)
 (.seq (.reg [
 oN 2 (.mv (cI 5)) []])
 .ret)
 .skip))
 (.seq (.seq (.reg [
 oN 9 (.ld 14 true (.t 1)) [],
 oN 10 (.call 30 [(.t 9)]) [0],
 oN 11 (.bin .gtr (.t 10) (cI 12)) [1]])
 (.cond (.t 11)
 (.seq (.reg [
 oN 2 (.mv (cI 12)) []])
 .ret)
 .skip))
 (.seq (.reg [
 oN 12 (.ld 14 true (.t 1)) [],
 oN 13 (.call 31 [(.t 12)]) [0],
 oN 3 (.mv (.t 13)) [1,1,0,1]])
 (.seq (.seq (.reg [
 oN 4 (.mv (cI 0)) []])
 (.block 0
 (.loop
 (.seq (.seq (.reg [
 oN 14 (.mv (.t 4)) [],
 oN 15 (.mv (.t 3)) [],
 oN 16 (.len (.t 15)) [1],
 oN 17 (.bin .lss (.t 14) (.t 16)) [0,2]])
 (.cond (.t 17)
 .skip
 (.exit 0)))
 (.seq (.block 1
 (.seq (.reg [
 oN 20 (.mv (.t 3)) [],
 oN 21 (.mv (.t 4)) [],
 oN 22 (.ia 14 (.t 20) (.t 21)) [0,1],
 oN 23 (.ld 14 true (.t 22)) [2],
 oN 24 (.call 55 [(.t 23)]) [3],
 oN 5 (.mv (.t 24)) [4,4,0,1,2,3,4]])
 (.seq (.reg [
 oN 25 (.mv (.t 5)) [],
 oN 26 (.bin .neq (.t 25) (cI 0)) [0]])
 (.cond (.t 26)
 (.seq (.reg [
 oN 27 (.mv (.t 5)) [],
 oN 2 (.mv (.t 27)) [0,0]])
 .ret)
 .skip))))
 (.reg [
 oN 18 (.mv (.t 4)) [],
 oN 19 (.bin .add (.t 18) (cI 1)) [0],
 oN 4 (.mv (.t 19)) [1,0,1]]))))))
 (.seq (.reg [
 oN 2 (.mv (cI 0)) []])
 .ret))))))
theorem Tryzp20 : (Tryz.f20.body.map (prep Tryz.prog 28)) = some Tryzc20 := by kernel_rfl
def Tryzc21 : ACode :=
 (.seq (.reg [
 oN 2 (.box (.t 0)) [],
 oN 4 (.mv cN) [],
 oN 5 (.mv cN) [1],
 oN 6 (.mv (cI 0)) [2]])
 (.seq (.seq (.reg [
 oN 13 (.ld 14 true (.t 2)) [],
 oN 14 (.call 19 [(.t 13)]) [0],
 oN 7 (.mv (.t 14)) [1,1,0,1]])
 (.seq (.reg [
 oN 15 (.mv (.t 7)) [],
 oN 16 (.bin .neq (.t 15) (cI 0)) [0]])
 (.cond (.t 16)
 (.seq (.reg [
 oN 17 (.mv (.t 7)) [],
 oN 4 (.mv cN) [],
 oN 5 (.mv cN) [1,1],
 oN 6 (.mv (.t 17)) [0,2,0,1,2]])
 .ret)
 .skip)))
 (.seq (.reg [
 oN 18 (.ld 14 true (.t 2)) [],
 oN 19 (.mv (.t 1)) [],
 oN 20 (.call 56 [(.t 18), (.t 19)]) [0,1],
 oN 8 (.mv (.t 20)) [2,2,0,1,2]])
 (.seq (.seq (.reg [
 oN 21 (.mv (.t 8)) [],
 oN 22 (.len (.t 21)) [0],
 oN 23 (.bin .eql (.t 22) (cI 0)) [1]])
 (.cond (.t 23)
 (.seq (.reg [
 oN 4 (.mv cN) [],
 oN 5 (.mv cN) [0,0],
 oN 6 (.mv (cI 6)) [1,0,1]])
 .ret)
 .skip))
 (.seq (.reg [
 oN 9 (.mv cN) []])
 (.seq (.reg [
 oN 10 (.mv cN) []])
 (.seq (.seq (.reg [
 oN 24 (.mv (.t 8)) [],
 oN 25 (.len (.t 24)) [0],
 oN 26 (.mv (cI 0)) []])
 (.block 0
 (.loop
 (.seq (.reg [
 oN 27 (.bin .lss (.t 26) (.t 25)) []])
 (.seq (.cond (.t 27)
 .skip
 (.exit 0))
 (.seq (.block 1
 (.seq (.reg [
 oN 28 (.ia 14 (.t 24) (.t 26)) [],
 oN 29 (.ld 14 true (.t 28)) [0],
 oN 12 (.box (.c (.agg zP))) [],
 eN (.st 14 (.t 12) (.t 29)) [2,1,0,1,2]])
 (.seq (.reg [
 oN 30 (.fa 0 (.t 12)) [],
 oN 31 (.ld 1 false (.t 30)) [0]])
 (.block 2
 (.seq (.seq (.reg [
 oN 33 (.bin .eql (.t 31) (cI 6)) [],
 oN 32 (.mv (.t 33)) [0]])
 (.cond (.t 32)
 .skip
 (.reg [
 oN 34 (.bin .eql (.t 31) (cI 10)) [],
 oN 32 (.mv (.t 34)) [0]])))
 (.cond (.t 32)
 (.reg [
 oN 35 (.mv (.t 9)) [],
 oN 36 (.fa 4 (.t 12)) [],
 oN 37 (.ld 1 false (.t 36)) [1],
 oN 38 (.fa 5 (.t 12)) [],
 oN 39 (.ld 1 false (.t 38)) [3],
 oN 40 (.build [(vI 0), (vI 0)] [(0, 1, (.t 37)), (1, 1, (.t 39))]) [2,4],
 oN 41 (.bslice 2 [(.t 40)]) [5],
 oN 42 (.app 2 16 (.t 35) (.t 41)) [0,6],
 oN 9 (.mv (.t 42)) [7,7,0,1,2,3,4,5,6,7]])
 (.seq (.seq (.reg [
 oN 44 (.bin .eql (.t 31) (cI 5)) [],
 oN 43 (.mv (.t 44)) [0]])
 (.cond (.t 43)
 .skip
 (.reg [
 oN 45 (.bin .eql (.t 31) (cI 9)) [],
 oN 43 (.mv (.t 45)) [0]])))
 (.cond (.t 43)
 (.reg [
 oN 46 (.mv (.t 10)) [],
 oN 47 (.fa 4 (.t 12)) [],
 oN 48 (.ld 1 false (.t 47)) [1],
 oN 49 (.bslice 1 [(.t 48)]) [2],
 oN 50 (.app 1 8 (.t 46) (.t 49)) [0,3],
 oN 10 (.mv (.t 50)) [4,4,0,1,2,3,4]])
 .skip))))))))
 (.reg [
 oN 51 (.bin .add (.t 26) (cI 1)) [],
 oN 26 (.mv (.t 51)) [0]])))))))
 (.seq (.reg [
 oN 52 (.mv (.t 9)) [],
 oN 53 (.mv (.t 10)) [],
 oN 4 (.mv (.t 52)) [0,0],
 oN 5 (.mv (.t 53)) [1,2,0,1,2],
 oN 6 (.mv (cI 0)) [3,0,1,2,3]])
 .ret))))))))
theorem Tryzp21 : (Tryz.f21.body.map (prep Tryz.prog 54)) = some Tryzc21 := by kernel_rfl
def Tryzc22 : ACode :=
 (.seq (.reg [
 oN 2 (.box (.t 0)) [],
 oN 4 (.mv cN) [],
 oN 5 (.mv cN) [1],
 oN 6 (.mv (cI 0)) [2]])
 (.seq (.seq (.reg [
 oN 11 (.ld 14 true (.t 2)) [],
 oN 12 (.call 20 [(.t 11)]) [0],
 oN 7 (.mv (.t 12)) [1,1,0,1]])
 (.seq (.reg [
 oN 13 (.mv (.t 7)) [],
 oN 14 (.bin .neq (.t 13) (cI 0)) [0]])
 (.cond (.t 14)
 (.seq (.reg [
 oN 15 (.mv (.t 7)) [],
 oN 4 (.mv cN) [],
 oN 5 (.mv cN) [1,1],
 oN 6 (.mv (.t 15)) [0,2,0,1,2]])
 .ret)
 .skip)))
 (.seq (.reg [
 oN 17 (.ld 14 true (.t 2)) [],
 oN 18 (.mv (.t 1)) [],
 oN 19 (.call 57 [(.t 17), (.t 18)]) [0,1],
 oN 16 (.mv (.t 19)) [2],
 oN 20 (.ext (.t 16) 0) [3],
 oN 21 (.ext (.t 16) 1) [3],
 oN 22 (.ext (.t 16) 2) [3],
 oN 8 (.mv (.t 20)) [4,2,0,1,2,3,4],
 oN 9 (.mv (.t 21)) [5,7,0,1,2,3,4,5,7],
 oN 10 (.mv (.t 22)) [6,8,0,1,2,3,4,5,6,7,8]])
 (.seq (.seq (.reg [
 oN 23 (.mv (.t 10)) [],
 oN 24 (.un .not (.t 23)) [0]])
 (.cond (.t 24)
 (.seq (.reg [
 oN 4 (.mv cN) [],
 oN 5 (.mv cN) [0,0],
 oN 6 (.mv (cI 6)) [1,0,1]])
 .ret)
 .skip))
 (.seq (.reg [
 oN 25 (.mv (.t 8)) [],
 oN 26 (.mv (.t 9)) [],
 oN 4 (.mv (.t 25)) [0,0],
 oN 5 (.mv (.t 26)) [1,2,0,1,2],
 oN 6 (.mv (cI 0)) [3,0,1,2,3]])
 .ret)))))
theorem Tryzp22 : (Tryz.f22.body.map (prep Tryz.prog 27)) = some Tryzc22 := by kernel_rfl
def Tryzc23 : ACode :=
 (.seq (.reg [
 oN 4 (.mv (cB false)) []])
 (.seq (.seq (.reg [
 oN 6 (.mv (.t 0)) [],
 oN 7 (.len (.t 6)) [0],
 oN 8 (.mv (.t 1)) [],
 oN 9 (.len (.t 8)) [2],
 oN 10 (.bin .neq (.t 7) (.t 9)) [1,3]])
 (.cond (.t 10)
 (.seq (.reg [
 oN 4 (.mv (cB false)) []])
 .ret)
 .skip))
 (.seq (.seq (.reg [
 oN 5 (.mv (cI 0)) []])
 (.block 0
 (.loop
 (.seq (.seq (.reg [
 oN 11 (.mv (.t 5)) [],
 oN 12 (.mv (.t 0)) [],
 oN 13 (.len (.t 12)) [1],
 oN 14 (.bin .lss (.t 11) (.t 13)) [0,2]])
 (.cond (.t 14)
 .skip
 (.exit 0)))
 (.seq (.block 1
 (.seq (.draw [
 oN 17 (.mv (.t 0)) [],
 oN 18 (.mv (.t 5)) [],
 oN 19 (.ia 2 (.t 17) (.t 18)) [0,1],
 oN 20 (.ld 2 true (.t 19)) [2],
 oN 21 (.mv (.t 1)) [],
 oN 22 (.mv (.t 5)) [],
 oN 23 (.ia 2 (.t 21) (.t 22)) [4,5],
 oN 24 (.ld 2 true (.t 23)) [6],
 oN 25 (.eqst true [.int, .int] (.t 20) (.t 24)) [3,7]])
 (.cond (.t 25)
 (.seq (.reg [
 oN 4 (.mv (cB false)) []])
 .ret)
 .skip)))
 (.reg [
 oN 15 (.mv (.t 5)) [],
 oN 16 (.bin .add (.t 15) (cI 1)) [0],
 oN 5 (.mv (.t 16)) [1,0,1]]))))))
 (.seq (.reg [
 oN 4 (.mv (cB true)) []])
 .ret))))
theorem Tryzp23 : (Tryz.f23.body.map (prep Tryz.prog 26)) = some Tryzc23 := by kernel_rfl
def Tryzc24 : ACode :=
 (.seq (.reg [
 oN 1 (.box (.t 0)) [],
 oN 2 (.mv cN) []])
 (.seq (.reg [
 oN 3 (.box cN) []])
 (.seq (.seq (.reg [
 oN 5 (.ld 14 true (.t 1)) [],
 oN 6 (.call 38 [(.t 5)]) [0]])
 (.block 0
 (.rfun (.t 6) [7]
 (.reg [
 oN 4 (.box (.c (.agg zP))) [],
 eN (.st 14 (.t 4) (.t 7)) [0,0]])
 (.block 1
 (.seq (.reg [
 oN 8 (.fa 0 (.t 4)) [],
 oN 9 (.ld 1 false (.t 8)) [0],
 oN 10 (.bin .eql (.t 9) (cI 0)) [1]])
 (.cond (.t 10)
 (.reg [
 oN 11 (.ld 1 false (.t 3)) [],
 oN 12 (.fa 3 (.t 4)) [],
 oN 13 (.ld 1 false (.t 12)) [1],
 oN 14 (.bslice 1 [(.t 13)]) [2],
 oN 15 (.app 1 8 (.t 11) (.t 14)) [0,3],
 eN (.st 1 (.t 3) (.t 15)) [4,4,0,1,2,3,4]])
 .skip))))))
 (.seq (.reg [
 oN 16 (.ld 1 false (.t 3)) [],
 oN 17 (.call 58 [(.t 16)]) [0]])
 (.seq (.reg [
 oN 18 (.ld 1 false (.t 3)) [],
 oN 19 (.call 59 [(.t 18)]) [0],
 oN 2 (.mv (.t 19)) [1,1,0,1]])
 .ret)))))
theorem Tryzp24 : (Tryz.f24.body.map (prep Tryz.prog 20)) = some Tryzc24 := by kernel_rfl
def Tryzc25 : ACode :=
 (.seq (.reg [
 oN 1 (.box (.t 0)) [],
 oN 2 (.mv cN) []])
 (.seq (.reg [
 oN 3 (.mv cN) []])
 (.seq (.reg [
 oN 8 (.ld 14 true (.t 1)) [],
 oN 9 (.call 31 [(.t 8)]) [0],
 oN 4 (.mv (.t 9)) [1,1,0,1]])
 (.seq (.seq (.reg [
 oN 5 (.mv (cI 0)) []])
 (.block 0
 (.loop
 (.seq (.seq (.reg [
 oN 10 (.mv (.t 5)) [],
 oN 11 (.mv (.t 4)) [],
 oN 12 (.len (.t 11)) [1],
 oN 13 (.bin .lss (.t 10) (.t 12)) [0,2]])
 (.cond (.t 13)
 .skip
 (.exit 0)))
 (.seq (.block 1
 (.seq (.seq (.reg [
 oN 16 (.mv (.t 4)) [],
 oN 17 (.mv (.t 5)) [],
 oN 18 (.ia 14 (.t 16) (.t 17)) [0,1],
 oN 19 (.fa 0 (.t 18)) [2],
 oN 20 (.ld 1 false (.t 19)) [3],
 oN 21 (.bin .neq (.t 20) (cI 0)) [4]])
 (.cond (.t 21)
 (.exit 1)
 .skip))
 (.seq (.reg [
 oN 6 (.mv (cI 0)) [],
 oN 7 (.mv (cB false)) [0,0]])
 (.seq (.block 2
 (.loop
 (.seq (.seq (.draw [
 oN 22 (.mv (.t 6)) [],
 oN 23 (.mv (.t 3)) [],
 oN 24 (.len (.t 23)) [1],
 oN 25 (.bin .lss (.t 22) (.t 24)) [0,2],
 oN 26 (.mv (.t 25)) [3],
 oG 27 (.mv (.t 3)) [4] 26 true,
 oG 28 (.mv (.t 6)) [4] 26 true,
 oG 29 (.ia 1 (.t 27) (.t 28)) [5,6,4] 26 true,
 oG 30 (.ld 1 false (.t 29)) [7,4] 26 true,
 oG 31 (.mv (.t 4)) [4] 26 true,
 oG 32 (.mv (.t 5)) [4] 26 true,
 oG 33 (.ia 14 (.t 31) (.t 32)) [9,10,4] 26 true,
 oG 34 (.fa 3 (.t 33)) [11,4] 26 true,
 oG 35 (.ld 1 false (.t 34)) [12,4] 26 true,
 oG 36 (.bin .leq (.t 30) (.t 35)) [8,13,4] 26 true,
 oN 37 (.pick (.t 26) (.t 36) (cB false)) [4,14]])
 (.cond (.t 37)
 .skip
 (.exit 2)))
 (.block 3
 (.seq (.draw [
 oN 38 (.mv (.t 7)) [],
 oN 39 (.mv (.t 38)) [0],
 oG 40 (.mv (.t 3)) [1] 39 false,
 oG 41 (.mv (.t 6)) [1] 39 false,
 oG 42 (.ia 1 (.t 40) (.t 41)) [2,3,1] 39 false,
 oG 43 (.ld 1 false (.t 42)) [4,1] 39 false,
 oG 44 (.mv (.t 4)) [1] 39 false,
 oG 45 (.mv (.t 5)) [1] 39 false,
 oG 46 (.ia 14 (.t 44) (.t 45)) [6,7,1] 39 false,
 oG 47 (.fa 3 (.t 46)) [8,1] 39 false,
 oG 48 (.ld 1 false (.t 47)) [9,1] 39 false,
 oG 49 (.bin .eql (.t 43) (.t 48)) [5,10,1] 39 false,
 oN 50 (.pick (.t 39) (cB true) (.t 49)) [1,11],
 oN 7 (.mv (.t 50)) [12,1,0,1,2,3,4,5,6,7,8,9,10,11,12]])
 (.reg [
 oN 51 (.mv (.t 6)) [],
 oN 52 (.bin .add (.t 51) (cI 1)) [0],
 oN 6 (.mv (.t 52)) [1,0,1]]))))))
 (.seq (.reg [
 oN 53 (.mv (.t 7)) [],
 oN 54 (.un .not (.t 53)) [0]])
 (.cond (.t 54)
 (.draw [
 oN 55 (.mv (.t 3)) [],
 oN 56 (.mv (.t 6)) [],
 oN 57 (.mv (.t 6)) [],
 oN 58 (.slc3 1 (.t 55) none (.t 56) (.t 57)) [0,1,2],
 oN 59 (.mv (.t 4)) [],
 oN 60 (.mv (.t 5)) [],
 oN 61 (.ia 14 (.t 59) (.t 60)) [4,5],
 oN 62 (.fa 3 (.t 61)) [6],
 oN 63 (.ld 1 false (.t 62)) [7],
 oN 64 (.bslice 1 [(.t 63)]) [8],
 oN 65 (.mv (.t 3)) [],
 oN 66 (.mv (.t 6)) [],
 oN 67 (.slc 1 (.t 65) (some (.t 66)) none) [10,11],
 oN 68 (.app 1 8 (.t 64) (.t 67)) [9,12],
 oN 69 (.app 1 8 (.t 58) (.t 68)) [3,13,13],
 oN 3 (.mv (.t 69)) [14,14,0,1,2,3,4,5,6,7,8,9,10,11,12,13,14]])
 .skip))))))
 (.reg [
 oN 14 (.mv (.t 5)) [],
 oN 15 (.bin .add (.t 14) (cI 1)) [0],
 oN 5 (.mv (.t 15)) [1,0,1]]))))))
 (.seq (.reg [
 oN 70 (.mv (.t 3)) [],
 oN 2 (.mv (.t 70)) [0,0]])
 .ret)))))
theorem Tryzp25 : (Tryz.f25.body.map (prep Tryz.prog 71)) = some Tryzc25 := by kernel_rfl
def Tryzc26 : ACode :=
 (.seq (.reg [
 oN 2 (.box (.t 0)) [],
 oN 3 (.box (.t 1)) [],
 oN 4 (.mv (cB false)) []])
 (.seq (.seq (.reg [
 oN 5 (.fa 0 (.t 2)) [],
 oN 6 (.ld 1 false (.t 5)) [0],
 oN 7 (.fa 0 (.t 3)) [],
 oN 8 (.ld 1 false (.t 7)) [2],
 oN 9 (.bin .neq (.t 6) (.t 8)) [1,3],
 oN 10 (.mv (.t 9)) [4],
 oG 11 (.fa 2 (.t 2)) [5] 10 false,
 oG 12 (.ld 1 false (.t 11)) [6,5] 10 false,
 oG 13 (.fa 2 (.t 3)) [5] 10 false,
 oG 14 (.ld 1 false (.t 13)) [8,5] 10 false,
 oG 15 (.bin .neq (.t 12) (.t 14)) [7,9,5] 10 false,
 oN 16 (.pick (.t 10) (cB true) (.t 15)) [5,10],
 oN 17 (.mv (.t 16)) [11,5],
 oG 18 (.fa 3 (.t 2)) [12] 17 false,
 oG 19 (.ld 1 false (.t 18)) [13,12] 17 false,
 oG 20 (.fa 3 (.t 3)) [12] 17 false,
 oG 21 (.ld 1 false (.t 20)) [15,12] 17 false,
 oG 22 (.bin .neq (.t 19) (.t 21)) [14,16,12] 17 false,
 oN 23 (.pick (.t 17) (cB true) (.t 22)) [12,17],
 oN 24 (.mv (.t 23)) [18,12],
 oG 25 (.fa 4 (.t 2)) [19] 24 false,
 oG 26 (.ld 1 false (.t 25)) [20,19] 24 false,
 oG 27 (.fa 4 (.t 3)) [19] 24 false,
 oG 28 (.ld 1 false (.t 27)) [22,19] 24 false,
 oG 29 (.bin .neq (.t 26) (.t 28)) [21,23,19] 24 false,
 oN 30 (.pick (.t 24) (cB true) (.t 29)) [19,24],
 oN 31 (.mv (.t 30)) [25,19],
 oG 32 (.fa 5 (.t 2)) [26] 31 false,
 oG 33 (.ld 1 false (.t 32)) [27,26] 31 false,
 oG 34 (.fa 5 (.t 3)) [26] 31 false,
 oG 35 (.ld 1 false (.t 34)) [29,26] 31 false,
 oG 36 (.bin .neq (.t 33) (.t 35)) [28,30,26] 31 false,
 oN 37 (.pick (.t 31) (cB true) (.t 36)) [26,31],
 oN 38 (.mv (.t 37)) [32,26],
 oG 39 (.fa 6 (.t 2)) [33] 38 false,
 oG 40 (.ld 8 true (.t 39)) [34,33] 38 false,
 oG 41 (.fa 6 (.t 3)) [33] 38 false,
 oG 42 (.ld 8 true (.t 41)) [36,33] 38 false,
 oG 43 (.call 60 [(.t 40), (.t 42)]) [35,37,33,33] 38 false,
 oG 44 (.un .not (.t 43)) [38,33] 38 false,
 oN 45 (.pick (.t 38) (cB true) (.t 44)) [33,39]])
 (.cond (.t 45)
 (.seq (.reg [
 oN 4 (.mv (cB false)) []])
 .ret)
 .skip))
 (.seq (.reg [
 oN 46 (.fa 1 (.t 2)) [],
 oN 47 (.ld 1 false (.t 46)) [0],
 oN 48 (.fa 1 (.t 3)) [],
 oN 49 (.ld 1 false (.t 48)) [2],
 oN 50 (.call 61 [(.t 47), (.t 49), (.c (.fn 26 []))]) [1,3],
 oN 4 (.mv (.t 50)) [4,4,0,1,2,3,4]])
 .ret)))
theorem Tryzp26 : (Tryz.f26.body.map (prep Tryz.prog 51)) = some Tryzc26 := by kernel_rfl
def Tryzc29 : ACode :=
 (.seq (.reg [
 oN 2 (.box (.t 0)) [],
 oN 4 (.mv (cI 0)) []])
 (.seq (.reg [
 oN 5 (.mv (cI 1)) []])
 (.seq (.seq (.reg [
 oN 6 (.mv (cI 0)) []])
 (.block 0
 (.loop
 (.seq (.seq (.reg [
 oN 7 (.mv (.t 6)) [],
 oN 8 (.fa 1 (.t 2)) [],
 oN 9 (.ld 1 false (.t 8)) [1],
 oN 10 (.len (.t 9)) [2],
 oN 11 (.bin .lss (.t 7) (.t 10)) [0,3],
 oN 12 (.mv (.t 11)) [4],
 oG 13 (.mv (.t 5)) [5] 12 true,
 oG 14 (.mv (.t 1)) [5] 12 true,
 oG 15 (.bin .leq (.t 13) (.t 14)) [6,7,5] 12 true,
 oN 16 (.pick (.t 12) (.t 15) (cB false)) [5,8]])
 (.cond (.t 16)
 .skip
 (.exit 0)))
 (.seq (.block 1
 (.reg [
 oN 19 (.mv (.t 5)) [],
 oN 20 (.fa 1 (.t 2)) [],
 oN 21 (.ld 1 false (.t 20)) [1],
 oN 22 (.mv (.t 6)) [],
 oN 23 (.ia 14 (.t 21) (.t 22)) [2,3],
 oN 24 (.ld 14 true (.t 23)) [4],
 oN 25 (.mv (.t 1)) [],
 oN 26 (.call 29 [(.t 24), (.t 25)]) [5,6],
 oN 27 (.bin .add (.t 19) (.t 26)) [0,7],
 oN 5 (.mv (.t 27)) [8,7,0,1,2,3,4,5,6,7,8]]))
 (.reg [
 oN 17 (.mv (.t 6)) [],
 oN 18 (.bin .add (.t 17) (cI 1)) [0],
 oN 6 (.mv (.t 18)) [1,0,1]]))))))
 (.seq (.reg [
 oN 28 (.mv (.t 5)) [],
 oN 4 (.mv (.t 28)) [0,0]])
 .ret))))
theorem Tryzp29 : (Tryz.f29.body.map (prep Tryz.prog 29)) = some Tryzc29 := by kernel_rfl
def Tryzc30 : ACode :=
 (.seq (.reg [
 oN 1 (.box (.t 0)) [],
 oN 2 (.mv (cI 0)) []])
 (.seq (.reg [
 oN 3 (.mv (cI 0)) []])
 (.seq (.seq (.reg [
 oN 4 (.mv (cI 0)) []])
 (.block 0
 (.loop
 (.seq (.seq (.reg [
 oN 5 (.mv (.t 4)) [],
 oN 6 (.fa 1 (.t 1)) [],
 oN 7 (.ld 1 false (.t 6)) [1],
 oN 8 (.len (.t 7)) [2],
 oN 9 (.bin .lss (.t 5) (.t 8)) [0,3]])
 (.cond (.t 9)
 .skip
 (.exit 0)))
 (.seq (.block 1
 (.reg [
 oN 12 (.mv (.t 3)) [],
 oN 13 (.fa 1 (.t 1)) [],
 oN 14 (.ld 1 false (.t 13)) [1],
 oN 15 (.mv (.t 4)) [],
 oN 16 (.ia 14 (.t 14) (.t 15)) [2,3],
 oN 17 (.ld 14 true (.t 16)) [4],
 oN 18 (.call 30 [(.t 17)]) [5],
 oN 19 (.mx [(.t 12), (.t 18)]) [0,6],
 oN 3 (.mv (.t 19)) [7,6,0,1,2,3,4,5,6,7]]))
 (.reg [
 oN 10 (.mv (.t 4)) [],
 oN 11 (.bin .add (.t 10) (cI 1)) [0],
 oN 4 (.mv (.t 11)) [1,0,1]]))))))
 (.seq (.reg [
 oN 20 (.mv (.t 3)) [],
 oN 21 (.bin .add (.t 20) (cI 1)) [0],
 oN 2 (.mv (.t 21)) [1,0,1]])
 .ret))))
theorem Tryzp30 : (Tryz.f30.body.map (prep Tryz.prog 22)) = some Tryzc30 := by kernel_rfl
def Tryzc31 : ACode :=
 (.seq (.reg [
 oN 1 (.box (.t 0)) [],
 oN 2 (.mv cN) []])
 (.seq (.reg [
 oN 5 (.ld 14 true (.t 1)) [],
 oN 6 (.bslice 14 [(.t 5)]) [0],
 oN 3 (.mv (.t 6)) [1,0,1]])
 (.seq (.seq (.reg [
 oN 4 (.mv (cI 0)) []])
 (.block 0
 (.loop
 (.seq (.seq (.reg [
 oN 7 (.mv (.t 4)) [],
 oN 8 (.fa 1 (.t 1)) [],
 oN 9 (.ld 1 false (.t 8)) [1],
 oN 10 (.len (.t 9)) [2],
 oN 11 (.bin .lss (.t 7) (.t 10)) [0,3]])
 (.cond (.t 11)
 .skip
 (.exit 0)))
 (.seq (.block 1
 (.reg [
 oN 14 (.mv (.t 3)) [],
 oN 15 (.fa 1 (.t 1)) [],
 oN 16 (.ld 1 false (.t 15)) [1],
 oN 17 (.mv (.t 4)) [],
 oN 18 (.ia 14 (.t 16) (.t 17)) [2,3],
 oN 19 (.ld 14 true (.t 18)) [4],
 oN 20 (.call 31 [(.t 19)]) [5],
 oN 21 (.app 14 152 (.t 14) (.t 20)) [0,6,6],
 oN 3 (.mv (.t 21)) [7,7,0,1,2,3,4,5,6,7]]))
 (.reg [
 oN 12 (.mv (.t 4)) [],
 oN 13 (.bin .add (.t 12) (cI 1)) [0],
 oN 4 (.mv (.t 13)) [1,0,1]]))))))
 (.seq (.reg [
 oN 22 (.mv (.t 3)) [],
 oN 2 (.mv (.t 22)) [0,0]])
 .ret))))
theorem Tryzp31 : (Tryz.f31.body.map (prep Tryz.prog 23)) = some Tryzc31 := by kernel_rfl
def Tryzc32 : ACode :=
 (.seq (.reg [
 oN 1 (.box (.t 0)) [],
 oN 2 (.mv (cB false)) []])
 (.seq (.reg [
 oN 3 (.ld 8 true (.t 1)) [],
 oN 4 (.call 63 [(.t 3), (cI 200)]) [0],
 oN 5 (.bin .leq (.t 4) (cI 200)) [1],
 oN 6 (.mv (.t 5)) [2,1],
 oG 7 (.ld 8 true (.t 1)) [3] 6 true,
 oG 8 (.call 64 [(.t 7)]) [4,3,3] 6 true,
 oG 9 (.bin .leq (.t 8) (cI 100)) [5,3] 6 true,
 oN 10 (.pick (.t 6) (.t 9) (cB false)) [3,6],
 oN 2 (.mv (.t 10)) [7,5,0,1,2,3,4,5,6,7]])
 .ret))
theorem Tryzp32 : (Tryz.f32.body.map (prep Tryz.prog 11)) = some Tryzc32 := by kernel_rfl
def Tryzc33 : ACode :=
 (.seq (.reg [
 oN 4 (.box (.c (.agg zP))) []])
 (.seq (.reg [
 oN 6 (.mv (.t 1)) [],
 oN 7 (.call 34 [(cI 1), (.t 6)]) [0],
 oN 8 (.bslice 14 [(.t 7)]) [1],
 oN 9 (.build zP [(0, 1, (cI 4)), (1, 1, (.t 8))]) [2],
 oN 5 (.box (.c (.agg zP))) [],
 eN (.st 14 (.t 5) (.t 9)) [4,3,1,0,1,2,3,4]])
 (.seq (.draw [
 oN 10 (.mv (.t 0)) [],
 oN 11 (.call 34 [(cI 0), (.t 10)]) [0],
 oN 12 (.ld 14 true (.t 5)) [],
 oN 13 (.bslice 14 [(.t 12)]) [2],
 oN 14 (.build zP [(0, 1, (cI 6)), (1, 1, (.t 13)), (5, 1, (cI 5))]) [3],
 oN 15 (.bslice 14 [(.t 11), (.t 14)]) [1,4],
 oN 16 (.build zP [(0, 1, (cI 1)), (1, 1, (.t 15))]) [5],
 eN (.st 14 (.t 4) (.t 16)) [6,1,0,1,2,3,4,5,6]])
 .ret)))
theorem Tryzp33 : (Tryz.f33.body.map (prep Tryz.prog 17)) = some Tryzc33 := by kernel_rfl
def Tryzc34 : ACode :=
 (.seq (.reg [
 oN 4 (.box (.c (.agg zP))) []])
 (.seq (.reg [
 oN 5 (.mv (.t 0)) [],
 oN 6 (.mv (.t 1)) [],
 oN 7 (.call 35 []) [],
 oN 8 (.build zP [(2, 1, (.t 5)), (3, 1, (.t 6)), (6, 8, (.t 7))]) [0,1,2],
 eN (.st 14 (.t 4) (.t 8)) [3,2,0,1,2,3]])
 .ret))
theorem Tryzp34 : (Tryz.f34.body.map (prep Tryz.prog 9)) = some Tryzc34 := by kernel_rfl
def Tryzc35 : ACode :=
 (.seq (.reg [
 oN 0 (.box (.c (.agg zE))) []])
 (.seq (.reg [
 oN 1 (.call 65 [(cB true)]) [],
 oN 2 (.build zE [(0, 1, (cI 0)), (5, 3, (.t 1))]) [0],
 eN (.st 8 (.t 0) (.t 2)) [1,0,0,1]])
 .ret))
theorem Tryzp35 : (Tryz.f35.body.map (prep Tryz.prog 3)) = some Tryzc35 := by kernel_rfl
def Tryzc36 : ACode :=
 (.seq (.reg [
 oN 1 (.box (.t 0)) [],
 oN 2 (.box (cI 0)) []])
 (.seq (.seq (.reg [
 oN 5 (.ld 14 true (.t 1)) [],
 oN 6 (.call 19 [(.t 5)]) [0],
 oN 3 (.mv (.t 6)) [1,1,0,1]])
 (.seq (.reg [
 oN 7 (.mv (.t 3)) [],
 oN 8 (.bin .neq (.t 7) (cI 0)) [0]])
 (.cond (.t 8)
 (.seq (.reg [
 oN 9 (.mv (.t 3)) [],
 eN (.st 1 (.t 2) (.t 9)) [0,0]])
 .ret)
 .skip)))
 (.seq (.seq (.reg [
 oN 10 (.ld 14 true (.t 1)) [],
 oN 11 (.call 38 [(.t 10)]) [0]])
 (.block 0
 (.rfun (.t 11) [12]
 (.reg [
 oN 4 (.box (.c (.agg zP))) [],
 eN (.st 14 (.t 4) (.t 12)) [0,0]])
 (.block 1
 (.seq (.reg [
 oN 13 (.fa 0 (.t 4)) [],
 oN 14 (.ld 1 false (.t 13)) [0],
 oN 15 (.bin .geq (.t 14) (cI 8)) [1]])
 (.cond (.t 15)
 (.seq (.reg [
 eN (.st 1 (.t 2) (cI 1)) []])
 .ret)
 .skip))))))
 (.seq (.reg [
 eN (.st 1 (.t 2) (cI 0)) []])
 .ret))))
theorem Tryzp36 : (Tryz.f36.body.map (prep Tryz.prog 16)) = some Tryzc36 := by kernel_rfl
def Tryzc37 : ACode :=
 (.seq (.reg [
 oN 4 (.mv cN) []])
 (.seq (.seq (.reg [
 oN 9 (.mv (.t 1)) [],
 oN 10 (.bin .lss (.t 9) (cI 0)) [0]])
 (.cond (.t 10)
 (.reg [
 oN 11 (.mkif 9 (.c (.val (.string ⟨#[99,97,110,110,111,116,32,98,101,32,110,101,103,97,116,105,118,101]⟩)))) [],
 eN (.bad) [0]])
 .skip))
 (.seq (.reg [
 oN 13 (.mv (.t 0)) [],
 oN 14 (.len (.t 13)) [0],
 oN 15 (.cvi .u64 (.t 14)) [1],
 oN 16 (.mv (.t 1)) [],
 oN 17 (.cvi .u64 (.t 16)) [3],
 oN 18 (.call 66 [(.t 15), (.t 17)]) [2,4],
 oN 12 (.mv (.t 18)) [5],
 oN 19 (.ext (.t 12) 0) [6],
 oN 20 (.ext (.t 12) 1) [6],
 oN 5 (.mv (.t 19)) [7,5,0,1,2,3,4,5,6,7],
 oN 6 (.mv (.t 20)) [8,9,0,1,2,3,4,5,6,7,8,9]])
 (.seq (.seq (.reg [
 oN 21 (.mv (.t 5)) [],
 oN 22 (.bin .gtr (.t 21) (.c (.val (.int .u64 0)))) [0],
 oN 23 (.mv (.t 22)) [1],
 oG 24 (.mv (.t 6)) [2] 23 false,
 oG 25 (.bin .gtr (.t 24) (.c (.val (.int .u64 9223372036854775807)))) [3,2] 23 false,
 oN 26 (.pick (.t 23) (cB true) (.t 25)) [2,4]])
 (.cond (.t 26)
 (.reg [
 oN 27 (.mkif 9 (.c (.val (.string ⟨#[116,104,101,32,114,101,115,117,108,116,32,111,102,32,40,108,101,110,40,120,41,32,42,32,99,111,117,110,116,41,32,111,118,101,114,102,108,111,119,115]⟩)))) [],
 eN (.bad) [0]])
 .skip))
 (.seq (.reg [
 oN 28 (.mv (.t 6)) [],
 oN 29 (.cvi .i64 (.t 28)) [0],
 oN 30 (.mkslice 1 8 (vI 0) (.t 29) (.t 29)) [1,1],
 oN 7 (.mv (.t 30)) [2,0,1,2]])
 (.seq (.reg [
 oN 31 (.mv (.t 7)) [],
 oN 32 (.mv (.t 0)) [],
 oN 33 (.copy 1 (.t 31) (.t 32)) [0,1],
 oN 8 (.mv (.t 33)) [2,2,0,1,2]])
 (.seq (.block 0
 (.loop
 (.seq (.seq (.reg [
 oN 34 (.mv (.t 8)) [],
 oN 35 (.mv (.t 7)) [],
 oN 36 (.len (.t 35)) [1],
 oN 37 (.bin .lss (.t 34) (.t 36)) [0,2]])
 (.cond (.t 37)
 .skip
 (.exit 0)))
 (.block 1
 (.draw [
 oN 38 (.mv (.t 8)) [],
 oN 39 (.mv (.t 7)) [],
 oN 40 (.mv (.t 8)) [],
 oN 41 (.slc 1 (.t 39) (some (.t 40)) none) [1,2],
 oN 42 (.mv (.t 7)) [],
 oN 43 (.mv (.t 8)) [],
 oN 44 (.slc 1 (.t 42) none (some (.t 43))) [4,5],
 oN 45 (.copy 1 (.t 41) (.t 44)) [3,6],
 oN 46 (.bin .add (.t 38) (.t 45)) [0,7],
 oN 8 (.mv (.t 46)) [8,7,0,1,2,3,4,5,6,7,8]])))))
 (.seq (.reg [
 oN 47 (.mv (.t 7)) [],
 oN 4 (.mv (.t 47)) [0,0]])
 .ret))))))))
theorem Tryzp37 : (Tryz.f37.body.map (prep Tryz.prog 48)) = some Tryzc37 := by kernel_rfl
def Tryzc38 : ACode :=
 (.seq (.reg [
 oN 1 (.box (.t 0)) [],
 oN 2 (.mv (.c (.val .nilFunc))) []])
 (.seq (.reg [
 oN 3 (.mkfn 67 [(.t 1)]) [],
 oN 2 (.mv (.t 3)) [0,0]])
 .ret))
theorem Tryzp38 : (Tryz.f38.body.map (prep Tryz.prog 4)) = some Tryzc38 := by kernel_rfl
def Tryzc39 : ACode :=
 (.seq (.reg [
 oN 4 (.mv (cB false)) []])
 (.seq (.reg [
 oN 5 (.mv (.t 0)) [],
 oN 6 (.mv (.t 1)) [],
 oN 7 (.call 69 [(.t 5), (.t 6)]) [0,1],
 oN 8 (.bin .geq (.t 7) (cI 0)) [2],
 oN 4 (.mv (.t 8)) [3,2,0,1,2,3]])
 .ret))
theorem Tryzp39 : (Tryz.f39.body.map (prep Tryz.prog 9)) = some Tryzc39 := by kernel_rfl
def Tryzc40 : ACode :=
 (.seq (.reg [
 oN 4 (.mv (cB false)) []])
 (.seq (.reg [
 oN 5 (.mv (.t 0)) [],
 oN 6 (.mv (.t 1)) [],
 oN 7 (.call 70 [(.t 5), (.t 6)]) [0,1],
 oN 8 (.bin .geq (.t 7) (cI 0)) [2],
 oN 4 (.mv (.t 8)) [3,2,0,1,2,3]])
 .ret))
theorem Tryzp40 : (Tryz.f40.body.map (prep Tryz.prog 9)) = some Tryzc40 := by kernel_rfl
def Tryzc41 : ACode :=
 (.seq (.reg [
 oN 1 (.box (.t 0)) [],
 oN 2 (.mv cN) []])
 (.seq (.reg [
 oN 3 (.box (.c (.agg [(.val (.bool false)), (.val (.bool false)), (.val (.bool false)), (.val (.bool false)), (.val (.bool false)), (.val (.bool false)), (.val (.bool false)), (.val (.bool false)), (.val (.bool false)), (.val (.bool false)), (.val (.bool false)), (.val (.bool false)), (.val (.bool false)), (.val (.bool false)), (.val (.bool false)), (.val (.bool false))]))) []])
 (.seq (.reg [
 oN 7 (.ld 8 true (.t 1)) [],
 oN 8 (.mkfn 72 [(.t 3)]) [],
 oN 9 (.call 71 [(.t 7), (.t 8)]) [0,1]])
 (.seq (.reg [
 oN 4 (.mv cN) []])
 (.seq (.seq (.reg [
 oN 10 (.ld 16 true (.t 3)) [],
 oN 11 (.mv (cI 0)) []])
 (.block 0
 (.loop
 (.seq (.reg [
 oN 12 (.bin .lss (.t 11) (cI 16)) []])
 (.seq (.cond (.t 12)
 .skip
 (.exit 0))
 (.seq (.block 1
 (.seq (.reg [
 oN 13 (.mv (.t 11)) [],
 oN 14 (.ixA 1 16 false (.t 10) (.t 11)) [],
 oN 5 (.mv (.t 13)) [0,0,1],
 oN 6 (.mv (.t 14)) [1,2,0,1,2]])
 (.seq (.reg [
 oN 15 (.mv (.t 6)) []])
 (.cond (.t 15)
 (.reg [
 oN 16 (.mv (.t 4)) [],
 oN 17 (.mv (.t 5)) [],
 oN 18 (.bslice 1 [(.t 17)]) [1],
 oN 19 (.app 1 8 (.t 16) (.t 18)) [0,2],
 oN 4 (.mv (.t 19)) [3,3,0,1,2,3]])
 .skip))))
 (.reg [
 oN 20 (.bin .add (.t 11) (cI 1)) [],
 oN 11 (.mv (.t 20)) [0]])))))))
 (.seq (.reg [
 oN 21 (.mv (.t 4)) [],
 oN 2 (.mv (.t 21)) [0,0]])
 .ret))))))
theorem Tryzp41 : (Tryz.f41.body.map (prep Tryz.prog 22)) = some Tryzc41 := by kernel_rfl
def Tryzc42 : ACode :=
 (.seq (.reg [
 oN 3 (.mv (cB false)) []])
 (.seq (.reg [
 oN 4 (.ld 1 false (.t 1)) [],
 oN 5 (.mv (.t 0)) [],
 oN 6 (.ia 1 (.t 4) (.t 5)) [0,1],
 oN 7 (.ld 1 false (.t 6)) [2],
 oN 8 (.bin .lss (.t 7) (cI 0)) [3],
 oN 3 (.mv (.t 8)) [4,0,1,2,3,4]])
 .ret))
theorem Tryzp42 : (Tryz.f42.body.map (prep Tryz.prog 9)) = some Tryzc42 := by kernel_rfl
def Tryzc43 : ACode :=
 (.seq (.reg [
 oN 2 (.box (.t 0)) [],
 oN 4 (.box (.c (.agg zP))) [],
 oN 5 (.mv (cI 0)) []])
 (.seq (.seq (.reg [
 oN 9 (.fa 0 (.t 2)) [],
 oN 10 (.ld 1 false (.t 9)) [0],
 oN 11 (.iaA 6 11 (.g 0) (.t 10)) [1],
 oN 12 (.fa 4 (.t 11)) [2],
 oN 13 (.ld 1 false (.t 12)) [3]])
 (.cond (.t 13)
 (.seq (.reg [
 oN 14 (.mv (.t 1)) [],
 oN 15 (.fa 4 (.t 2)) [0],
 eN (.st 1 (.t 15) (.t 14)) [1,0,0]])
 (.reg [
 oN 16 (.mv (.t 1)) [],
 oN 17 (.bin .add (.t 16) (cI 1)) [0],
 oN 1 (.mv (.t 17)) [1,0,1]]))
 .skip))
 (.seq (.reg [
 oN 18 (.fa 1 (.t 2)) [],
 oN 19 (.ld 1 false (.t 18)) [0],
 oN 20 (.len (.t 19)) [1],
 oN 21 (.mkslice 14 152 (.agg zP) (.t 20) (.t 20)) [2,2],
 oN 6 (.mv (.t 21)) [3,0,1,2,3]])
 (.seq (.seq (.reg [
 oN 22 (.fa 1 (.t 2)) [],
 oN 23 (.ld 1 false (.t 22)) [0],
 oN 24 (.len (.t 23)) [1],
 oN 25 (.mv (cI 0)) []])
 (.block 0
 (.loop
 (.seq (.reg [
 oN 26 (.bin .lss (.t 25) (.t 24)) []])
 (.seq (.cond (.t 26)
 .skip
 (.exit 0))
 (.seq (.block 1
 (.seq (.reg [
 oN 27 (.mv (.t 25)) [],
 oN 28 (.ia 14 (.t 23) (.t 25)) [],
 oN 29 (.ld 14 true (.t 28)) [1],
 oN 8 (.box (.c (.agg zP))) [],
 oN 7 (.mv (.t 27)) [0,0,1,2,3],
 eN (.st 14 (.t 8) (.t 29)) [3,2,4,0,1,2,3,4]])
 (.reg [
 oN 31 (.mv (.t 6)) [],
 oN 32 (.mv (.t 7)) [],
 oN 33 (.ld 14 true (.t 8)) [],
 oN 34 (.mv (.t 1)) [],
 oN 35 (.call 43 [(.t 33), (.t 34)]) [2,3],
 oN 30 (.mv (.t 35)) [4],
 oN 36 (.ext (.t 30) 0) [5],
 oN 37 (.ext (.t 30) 1) [5],
 oN 38 (.ia 14 (.t 31) (.t 32)) [0,1,0,1,2,3,4,5,6],
 eN (.st 14 (.t 38) (.t 36)) [8,6,4,0,1,2,3,4,5,6],
 oN 1 (.mv (.t 37)) [7,9,0,1,2,3,4,5,6,7,8,9]])))
 (.reg [
 oN 39 (.bin .add (.t 25) (cI 1)) [],
 oN 25 (.mv (.t 39)) [0]])))))))
 (.seq (.reg [
 oN 40 (.mv (.t 6)) [],
 oN 41 (.fa 1 (.t 2)) [0],
 eN (.st 1 (.t 41) (.t 40)) [1,0,0]])
 (.seq (.reg [
 oN 42 (.ld 14 true (.t 2)) [],
 oN 43 (.mv (.t 1)) [],
 eN (.st 14 (.t 4) (.t 42)) [0,0],
 oN 5 (.mv (.t 43)) [1,2,0,1,2]])
 .ret))))))
theorem Tryzp43 : (Tryz.f43.body.map (prep Tryz.prog 44)) = some Tryzc43 := by kernel_rfl
def Tryzc44 : ACode :=
 (.seq (.reg [
 oN 2 (.box (.t 0)) [],
 oN 4 (.box (.c (.agg zP))) []])
 (.seq (.reg [
 oN 9 (.fa 0 (.t 2)) [],
 oN 10 (.ld 1 false (.t 9)) [0],
 oN 11 (.iaA 6 11 (.g 0) (.t 10)) [1],
 oN 12 (.ld 6 true (.t 11)) [2],
 oN 5 (.box (.c (.agg [(vI 0), (vI 0), (.val (.bool false)), (.val (.bool false)), (.val (.bool false)), (.val (.bool false))]))) [],
 eN (.st 6 (.t 5) (.t 12)) [4,3,0,1,2,3,4]])
 (.seq (.seq (.reg [
 oN 13 (.fa 2 (.t 5)) [],
 oN 14 (.ld 1 false (.t 13)) [0]])
 (.cond (.t 14)
 (.reg [
 oN 15 (.mv (.t 1)) [],
 oN 16 (.fa 3 (.t 2)) [],
 oN 17 (.ld 1 false (.t 16)) [1],
 oN 18 (.ia 1 (.t 15) (.t 17)) [0,2],
 oN 19 (.ld 1 false (.t 18)) [3],
 oN 20 (.fa 3 (.t 2)) [0,1,2,3,4],
 eN (.st 1 (.t 20) (.t 19)) [5,4,0,1,2,3,4]])
 .skip))
 (.seq (.seq (.reg [
 oN 21 (.fa 3 (.t 5)) [],
 oN 22 (.ld 1 false (.t 21)) [0]])
 (.cond (.t 22)
 (.reg [
 oN 24 (.fa 6 (.t 2)) [],
 oN 25 (.ld 8 true (.t 24)) [0],
 oN 26 (.mv (.t 1)) [],
 oN 27 (.call 62 [(.t 25), (.t 26)]) [1,2],
 oN 23 (.mv (.t 27)) [3],
 oN 28 (.ext (.t 23) 0) [4],
 oN 29 (.ext (.t 23) 1) [4],
 oN 30 (.fa 6 (.t 2)) [0,1,2,3,4,5],
 eN (.st 8 (.t 30) (.t 28)) [7,5,3,0,1,2,3,4,5]])
 .skip))
 (.seq (.reg [
 oN 31 (.fa 1 (.t 2)) [],
 oN 32 (.ld 1 false (.t 31)) [0],
 oN 33 (.len (.t 32)) [1],
 oN 34 (.mkslice 14 152 (.agg zP) (.t 33) (.t 33)) [2,2],
 oN 6 (.mv (.t 34)) [3,0,1,2,3]])
 (.seq (.seq (.reg [
 oN 35 (.fa 1 (.t 2)) [],
 oN 36 (.ld 1 false (.t 35)) [0],
 oN 37 (.len (.t 36)) [1],
 oN 38 (.mv (cI 0)) []])
 (.block 0
 (.loop
 (.seq (.reg [
 oN 39 (.bin .lss (.t 38) (.t 37)) []])
 (.seq (.cond (.t 39)
 .skip
 (.exit 0))
 (.seq (.block 1
 (.seq (.reg [
 oN 40 (.mv (.t 38)) [],
 oN 41 (.ia 14 (.t 36) (.t 38)) [],
 oN 42 (.ld 14 true (.t 41)) [1],
 oN 8 (.box (.c (.agg zP))) [],
 oN 7 (.mv (.t 40)) [0,0,1,2,3],
 eN (.st 14 (.t 8) (.t 42)) [3,2,4,0,1,2,3,4]])
 (.reg [
 oN 43 (.mv (.t 6)) [],
 oN 44 (.mv (.t 7)) [],
 oN 45 (.ld 14 true (.t 8)) [],
 oN 46 (.mv (.t 1)) [],
 oN 47 (.call 44 [(.t 45), (.t 46)]) [2,3],
 oN 48 (.ia 14 (.t 43) (.t 44)) [0,1,0,1,2,3,4],
 eN (.st 14 (.t 48) (.t 47)) [5,4,4,0,1,2,3,4]])))
 (.reg [
 oN 49 (.bin .add (.t 38) (cI 1)) [],
 oN 38 (.mv (.t 49)) [0]])))))))
 (.seq (.reg [
 oN 50 (.mv (.t 6)) [],
 oN 51 (.fa 1 (.t 2)) [0],
 eN (.st 1 (.t 51) (.t 50)) [1,0,0]])
 (.seq (.reg [
 oN 52 (.ld 14 true (.t 2)) [],
 eN (.st 14 (.t 4) (.t 52)) [0,0]])
 .ret))))))))
theorem Tryzp44 : (Tryz.f44.body.map (prep Tryz.prog 53)) = some Tryzc44 := by kernel_rfl
def Tryzc49 : ACode :=
 (.seq (.reg [
 oN 2 (.box (.t 0)) [],
 oN 3 (.box (.t 1)) [],
 oN 4 (.mv (cB false)) []])
 (.seq (.seq (.reg [
 oN 6 (.fa 0 (.t 2)) [],
 oN 7 (.ld 1 false (.t 6)) [0],
 oN 8 (.fa 0 (.t 3)) [],
 oN 9 (.ld 1 false (.t 8)) [2],
 oN 10 (.bin .neq (.t 7) (.t 9)) [1,3],
 oN 11 (.mv (.t 10)) [4],
 oG 12 (.fa 2 (.t 2)) [5] 11 false,
 oG 13 (.ld 1 false (.t 12)) [6,5] 11 false,
 oG 14 (.fa 2 (.t 3)) [5] 11 false,
 oG 15 (.ld 1 false (.t 14)) [8,5] 11 false,
 oG 16 (.bin .neq (.t 13) (.t 15)) [7,9,5] 11 false,
 oN 17 (.pick (.t 11) (cB true) (.t 16)) [5,10],
 oN 18 (.mv (.t 17)) [11,5],
 oG 19 (.fa 3 (.t 2)) [12] 18 false,
 oG 20 (.ld 1 false (.t 19)) [13,12] 18 false,
 oG 21 (.fa 3 (.t 3)) [12] 18 false,
 oG 22 (.ld 1 false (.t 21)) [15,12] 18 false,
 oG 23 (.bin .neq (.t 20) (.t 22)) [14,16,12] 18 false,
 oN 24 (.pick (.t 18) (cB true) (.t 23)) [12,17],
 oN 25 (.mv (.t 24)) [18,12],
 oG 26 (.fa 4 (.t 2)) [19] 25 false,
 oG 27 (.ld 1 false (.t 26)) [20,19] 25 false,
 oG 28 (.fa 4 (.t 3)) [19] 25 false,
 oG 29 (.ld 1 false (.t 28)) [22,19] 25 false,
 oG 30 (.bin .neq (.t 27) (.t 29)) [21,23,19] 25 false,
 oN 31 (.pick (.t 25) (cB true) (.t 30)) [19,24],
 oN 32 (.mv (.t 31)) [25,19],
 oG 33 (.fa 5 (.t 2)) [26] 32 false,
 oG 34 (.ld 3 true (.t 33)) [27,26] 32 false,
 oG 35 (.fa 5 (.t 3)) [26] 32 false,
 oG 36 (.ld 3 true (.t 35)) [29,26] 32 false,
 oG 37 (.eqst true [.int, .int, .str] (.t 34) (.t 36)) [28,30,26] 32 false,
 oN 38 (.pick (.t 32) (cB true) (.t 37)) [26,31],
 oN 39 (.mv (.t 38)) [32,26],
 oG 40 (.fa 1 (.t 2)) [33] 39 false,
 oG 41 (.ld 1 false (.t 40)) [34,33] 39 false,
 oG 42 (.len (.t 41)) [35,33] 39 false,
 oG 43 (.fa 1 (.t 3)) [33] 39 false,
 oG 44 (.ld 1 false (.t 43)) [37,33] 39 false,
 oG 45 (.len (.t 44)) [38,33] 39 false,
 oG 46 (.bin .neq (.t 42) (.t 45)) [36,39,33] 39 false,
 oN 47 (.pick (.t 39) (cB true) (.t 46)) [33,40]])
 (.cond (.t 47)
 (.seq (.reg [
 oN 4 (.mv (cB false)) []])
 .ret)
 .skip))
 (.seq (.seq (.reg [
 oN 5 (.mv (cI 0)) []])
 (.block 0
 (.loop
 (.seq (.seq (.reg [
 oN 48 (.mv (.t 5)) [],
 oN 49 (.fa 1 (.t 2)) [],
 oN 50 (.ld 1 false (.t 49)) [1],
 oN 51 (.len (.t 50)) [2],
 oN 52 (.bin .lss (.t 48) (.t 51)) [0,3]])
 (.cond (.t 52)
 .skip
 (.exit 0)))
 (.seq (.block 1
 (.seq (.draw [
 oN 55 (.fa 1 (.t 2)) [],
 oN 56 (.ld 1 false (.t 55)) [0],
 oN 57 (.mv (.t 5)) [],
 oN 58 (.ia 8 (.t 56) (.t 57)) [1,2],
 oN 59 (.ld 8 true (.t 58)) [3],
 oN 60 (.fa 1 (.t 3)) [],
 oN 61 (.ld 1 false (.t 60)) [5],
 oN 62 (.mv (.t 5)) [],
 oN 63 (.ia 8 (.t 61) (.t 62)) [6,7],
 oN 64 (.ld 8 true (.t 63)) [8],
 oN 65 (.call 49 [(.t 59), (.t 64)]) [4,9],
 oN 66 (.un .not (.t 65)) [10]])
 (.cond (.t 66)
 (.seq (.reg [
 oN 4 (.mv (cB false)) []])
 .ret)
 .skip)))
 (.reg [
 oN 53 (.mv (.t 5)) [],
 oN 54 (.bin .add (.t 53) (cI 1)) [0],
 oN 5 (.mv (.t 54)) [1,0,1]]))))))
 (.seq (.reg [
 oN 4 (.mv (cB true)) []])
 .ret))))
theorem Tryzp49 : (Tryz.f49.body.map (prep Tryz.prog 67)) = some Tryzc49 := by kernel_rfl
def Tryzc50 : ACode :=
 (.seq (.reg [
 oN 1 (.box (.t 0)) [],
 oN 2 (.mv (cI 0)) [],
 oN 3 (.mv (cI 0)) [1],
 oN 4 (.mv (cB false)) [2]])
 (.seq (.reg [
 oN 5 (.box (cI 0)) [],
 oN 6 (.box (cI 0)) [],
 oN 7 (.box (cB false)) [],
 eN (.st 1 (.t 5) (cI 0)) [0,0,1,2],
 eN (.st 1 (.t 6) (cI 0)) [1,3,0,1,2,3],
 eN (.st 1 (.t 7) (cB true)) [2,4,0,1,2,3,4]])
 (.seq (.seq (.reg [
 oN 10 (.ld 14 true (.t 1)) [],
 oN 11 (.call 38 [(.t 10)]) [0]])
 (.block 0
 (.rfun (.t 11) [12]
 (.reg [
 oN 8 (.box (.c (.agg zP))) [],
 eN (.st 14 (.t 8) (.t 12)) [0,0]])
 (.block 1
 (.seq (.reg [
 oN 13 (.fa 0 (.t 8)) [],
 oN 14 (.ld 1 false (.t 13)) [0],
 oN 15 (.iaA 6 11 (.g 0) (.t 14)) [1],
 oN 16 (.ld 6 true (.t 15)) [2],
 oN 9 (.box (.c (.agg [(vI 0), (vI 0), (.val (.bool false)), (.val (.bool false)), (.val (.bool false)), (.val (.bool false))]))) [],
 eN (.st 6 (.t 9) (.t 16)) [4,3,0,1,2,3,4]])
 (.seq (.seq (.reg [
 oN 17 (.fa 2 (.t 9)) [],
 oN 18 (.ld 1 false (.t 17)) [0]])
 (.cond (.t 18)
 (.seq (.reg [
 oN 19 (.ld 1 false (.t 7)) [],
 oN 20 (.mv (.t 19)) [0],
 oG 21 (.fa 3 (.t 8)) [1] 20 true,
 oG 22 (.ld 1 false (.t 21)) [2,1] 20 true,
 oG 23 (.ld 1 false (.t 5)) [1] 20 true,
 oG 24 (.bin .eql (.t 22) (.t 23)) [3,4,1] 20 true,
 oN 25 (.pick (.t 20) (.t 24) (cB false)) [1,5],
 eN (.st 1 (.t 7) (.t 25)) [6,1,0,1,2,3,4,5,6]])
 (.reg [
 oN 26 (.ld 1 false (.t 5)) [],
 oN 27 (.bin .add (.t 26) (cI 1)) [0],
 eN (.st 1 (.t 5) (.t 27)) [1,0,1]]))
 .skip))
 (.seq (.reg [
 oN 28 (.fa 4 (.t 9)) [],
 oN 29 (.ld 1 false (.t 28)) [0]])
 (.cond (.t 29)
 (.seq (.reg [
 oN 30 (.ld 1 false (.t 7)) [],
 oN 31 (.mv (.t 30)) [0],
 oG 32 (.fa 4 (.t 8)) [1] 31 true,
 oG 33 (.ld 1 false (.t 32)) [2,1] 31 true,
 oG 34 (.ld 1 false (.t 6)) [1] 31 true,
 oG 35 (.bin .eql (.t 33) (.t 34)) [3,4,1] 31 true,
 oN 36 (.pick (.t 31) (.t 35) (cB false)) [1,5],
 eN (.st 1 (.t 7) (.t 36)) [6,1,0,1,2,3,4,5,6]])
 (.reg [
 oN 37 (.ld 1 false (.t 6)) [],
 oN 38 (.bin .add (.t 37) (cI 1)) [0],
 eN (.st 1 (.t 6) (.t 38)) [1,0,1]]))
 .skip))))))))
 (.seq (.draw [
 oN 39 (.ld 1 false (.t 5)) [],
 oN 40 (.ld 1 false (.t 6)) [],
 oN 41 (.ld 1 false (.t 7)) [],
 oN 2 (.mv (.t 39)) [0,0],
 oN 3 (.mv (.t 40)) [1,3,0,1,3],
 oN 4 (.mv (.t 41)) [2,4,0,1,2,3,4]])
 .ret))))
theorem Tryzp50 : (Tryz.f50.body.map (prep Tryz.prog 42)) = some Tryzc50 := by kernel_rfl
def Tryzc51 : ACode :=
 (.seq (.reg [
 oN 1 (.box (.t 0)) [],
 oN 2 (.mv (cB false)) []])
 (.seq (.reg [
 oN 3 (.fa 0 (.t 1)) [],
 oN 4 (.ld 1 false (.t 3)) [0],
 oN 5 (.bin .eql (.t 4) (cI 0)) [1],
 oN 6 (.mv (.t 5)) [2],
 oG 7 (.ld 14 true (.t 1)) [3] 6 false,
 oG 8 (.call 52 [(.t 7)]) [4,3,3] 6 false,
 oN 9 (.pick (.t 6) (cB true) (.t 8)) [3,5],
 oN 2 (.mv (.t 9)) [6,5,0,1,2,3,4,5,6]])
 .ret))
theorem Tryzp51 : (Tryz.f51.body.map (prep Tryz.prog 10)) = some Tryzc51 := by kernel_rfl
def Tryzc52 : ACode :=
 (.seq (.reg [
 oN 1 (.box (.t 0)) [],
 oN 2 (.mv (cB false)) []])
 (.seq (.reg [
 oN 3 (.fa 0 (.t 1)) [],
 oN 4 (.ld 1 false (.t 3)) [0],
 oN 5 (.bin .eql (.t 4) (cI 5)) [1],
 oN 6 (.mv (.t 5)) [2],
 oG 7 (.fa 0 (.t 1)) [3] 6 false,
 oG 8 (.ld 1 false (.t 7)) [4,3] 6 false,
 oG 9 (.bin .eql (.t 8) (cI 9)) [5,3] 6 false,
 oN 10 (.pick (.t 6) (cB true) (.t 9)) [3,6],
 oN 2 (.mv (.t 10)) [7,3,0,1,2,3,4,5,6,7]])
 .ret))
theorem Tryzp52 : (Tryz.f52.body.map (prep Tryz.prog 11)) = some Tryzc52 := by kernel_rfl
def Tryzc53 : ACode :=
 (.seq (.reg [
 oN 1 (.box (.t 0)) [],
 oN 2 (.mv (cB false)) []])
 (.seq (.reg [
 oN 3 (.fa 0 (.t 1)) [],
 oN 4 (.ld 1 false (.t 3)) [0],
 oN 5 (.bin .eql (.t 4) (cI 6)) [1],
 oN 6 (.mv (.t 5)) [2],
 oG 7 (.fa 0 (.t 1)) [3] 6 false,
 oG 8 (.ld 1 false (.t 7)) [4,3] 6 false,
 oG 9 (.bin .eql (.t 8) (cI 10)) [5,3] 6 false,
 oN 10 (.pick (.t 6) (cB true) (.t 9)) [3,6],
 oN 2 (.mv (.t 10)) [7,3,0,1,2,3,4,5,6,7]])
 .ret))
theorem Tryzp53 : (Tryz.f53.body.map (prep Tryz.prog 11)) = some Tryzc53 := by kernel_rfl
def Tryzc54 : ACode :=
 (.seq (.reg [
 oN 1 (.box (.t 0)) [],
 oN 2 (.mv (cI 0)) []])
 (.seq (.seq (.reg [
 oN 5 (.fa 0 (.t 1)) [],
 oN 6 (.ld 1 false (.t 5)) [0],
 oN 7 (.bin .lss (.t 6) (cI 0)) [1],
 oN 8 (.mv (.t 7)) [2],
 oG 9 (.fa 0 (.t 1)) [3] 8 false,
 oG 10 (.ld 1 false (.t 9)) [4,3] 8 false,
 oG 11 (.bin .geq (.t 10) (cI 11)) [5,3] 8 false,
 oN 12 (.pick (.t 8) (cB true) (.t 11)) [3,6]])
 (.cond (.t 12)
 (.seq (.reg [
 oN 2 (.mv (cI 1)) []])
 .ret)
 .skip))
 (.seq (.reg [
 oN 13 (.fa 0 (.t 1)) [],
 oN 14 (.ld 1 false (.t 13)) [0],
 oN 15 (.iaA 6 11 (.g 0) (.t 14)) [1],
 oN 16 (.ld 6 true (.t 15)) [2],
 oN 3 (.box (.c (.agg [(vI 0), (vI 0), (.val (.bool false)), (.val (.bool false)), (.val (.bool false)), (.val (.bool false))]))) [],
 eN (.st 6 (.t 3) (.t 16)) [4,3,0,1,2,3,4]])
 (.seq (.block 0
 (.seq (.reg [
 oN 18 (.fa 1 (.t 1)) [],
 oN 19 (.ld 1 false (.t 18)) [0],
 oN 20 (.len (.t 19)) [1],
 oN 21 (.fa 0 (.t 3)) [],
 oN 22 (.ld 1 false (.t 21)) [3],
 oN 23 (.bin .lss (.t 20) (.t 22)) [2,4],
 oN 24 (.mv (.t 23)) [5],
 oG 25 (.fa 1 (.t 1)) [6] 24 false,
 oG 26 (.ld 1 false (.t 25)) [7,6] 24 false,
 oG 27 (.len (.t 26)) [8,6] 24 false,
 oG 28 (.fa 1 (.t 3)) [6] 24 false,
 oG 29 (.ld 1 false (.t 28)) [10,6] 24 false,
 oG 30 (.bin .gtr (.t 27) (.t 29)) [9,11,6] 24 false,
 oN 31 (.pick (.t 24) (cB true) (.t 30)) [6,12],
 oN 17 (.mv (.t 31)) [13,6]])
 (.cond (.t 17)
 (.seq (.reg [
 oN 2 (.mv (cI 15)) []])
 .ret)
 (.seq (.reg [
 oN 33 (.fa 2 (.t 3)) [],
 oN 34 (.ld 1 false (.t 33)) [0],
 oN 35 (.fa 2 (.t 1)) [],
 oN 36 (.ld 1 false (.t 35)) [2],
 oN 37 (.call 76 [(.t 34), (.t 36), (cI 15)]) [1,3],
 oN 38 (.un .not (.t 37)) [4],
 oN 39 (.mv (.t 38)) [5,4],
 oG 40 (.fa 2 (.t 3)) [6] 39 false,
 oG 41 (.ld 1 false (.t 40)) [7,6] 39 false,
 oG 42 (.fa 3 (.t 1)) [6] 39 false,
 oG 43 (.ld 1 false (.t 42)) [9,6] 39 false,
 oG 44 (.call 76 [(.t 41), (.t 43), (cI 15)]) [8,10,6,6] 39 false,
 oG 45 (.un .not (.t 44)) [11,6] 39 false,
 oN 46 (.pick (.t 39) (cB true) (.t 45)) [6,12],
 oN 47 (.mv (.t 46)) [13,11],
 oG 48 (.fa 4 (.t 3)) [14] 47 false,
 oG 49 (.ld 1 false (.t 48)) [15,14] 47 false,
 oG 50 (.fa 4 (.t 1)) [14] 47 false,
 oG 51 (.ld 1 false (.t 50)) [17,14] 47 false,
 oG 52 (.call 76 [(.t 49), (.t 51), (cI 63)]) [16,18,14,14] 47 false,
 oG 53 (.un .not (.t 52)) [19,14] 47 false,
 oN 54 (.pick (.t 47) (cB true) (.t 53)) [14,20],
 oN 55 (.mv (.t 54)) [21,19],
 oG 56 (.fa 5 (.t 3)) [22] 55 false,
 oG 57 (.ld 1 false (.t 56)) [23,22] 55 false,
 oG 58 (.fa 5 (.t 1)) [22] 55 false,
 oG 59 (.ld 1 false (.t 58)) [25,22] 55 false,
 oG 60 (.call 76 [(.t 57), (.t 59), (cI 1099511627776)]) [24,26,22,22] 55 false,
 oG 61 (.un .not (.t 60)) [27,22] 55 false,
 oN 62 (.pick (.t 55) (cB true) (.t 61)) [22,28],
 oN 32 (.mv (.t 62)) [29,27]])
 (.cond (.t 32)
 (.seq (.reg [
 oN 2 (.mv (cI 2)) []])
 .ret)
 .skip)))))
 (.seq (.seq (.reg [
 oN 63 (.fa 3 (.t 3)) [],
 oN 64 (.ld 1 false (.t 63)) [0]])
 (.cond (.t 64)
 (.seq (.reg [
 oN 65 (.fa 6 (.t 1)) [],
 oN 66 (.ld 8 true (.t 65)) [0],
 oN 67 (.call 77 [(.t 66)]) [1],
 oN 4 (.mv (.t 67)) [2,2,0,1,2]])
 (.seq (.reg [
 oN 68 (.mv (.t 4)) [],
 oN 69 (.bin .neq (.t 68) (cI 0)) [0]])
 (.cond (.t 69)
 (.seq (.reg [
 oN 70 (.mv (.t 4)) [],
 oN 2 (.mv (.t 70)) [0,0]])
 .ret)
 .skip)))
 .skip))
 (.seq (.seq (.reg [
 oN 71 (.fa 3 (.t 3)) [],
 oN 72 (.ld 1 false (.t 71)) [0],
 oN 73 (.un .not (.t 72)) [1],
 oN 74 (.mv (.t 73)) [2],
 oG 75 (.fa 6 (.t 1)) [3] 74 true,
 oG 76 (.ld 8 true (.t 75)) [4,3] 74 true,
 oG 77 (.build zE []) [3] 74 true,
 oG 78 (.call 60 [(.t 76), (.t 77)]) [5,6,3,3] 74 true,
 oG 79 (.un .not (.t 78)) [7,3] 74 true,
 oN 80 (.pick (.t 74) (.t 79) (cB false)) [3,8],
 oN 81 (.mv (.t 80)) [9,7],
 oG 82 (.fa 2 (.t 3)) [10] 81 false,
 oG 83 (.ld 1 false (.t 82)) [11,10] 81 false,
 oG 84 (.fa 2 (.t 1)) [10] 81 false,
 oG 85 (.ld 1 false (.t 84)) [13,10] 81 false,
 oG 86 (.call 78 [(.t 83), (.t 85)]) [12,14,10,10] 81 false,
 oG 87 (.un .not (.t 86)) [15,10] 81 false,
 oN 88 (.pick (.t 81) (cB true) (.t 87)) [10,16],
 oN 89 (.mv (.t 88)) [17,15],
 oG 90 (.fa 2 (.t 3)) [18] 89 false,
 oG 91 (.ld 1 false (.t 90)) [19,18] 89 false,
 oG 92 (.fa 3 (.t 1)) [18] 89 false,
 oG 93 (.ld 1 false (.t 92)) [21,18] 89 false,
 oG 94 (.call 78 [(.t 91), (.t 93)]) [20,22,18,18] 89 false,
 oG 95 (.un .not (.t 94)) [23,18] 89 false,
 oN 96 (.pick (.t 89) (cB true) (.t 95)) [18,24],
 oN 97 (.mv (.t 96)) [25,23],
 oG 98 (.fa 4 (.t 3)) [26] 97 false,
 oG 99 (.ld 1 false (.t 98)) [27,26] 97 false,
 oG 100 (.fa 4 (.t 1)) [26] 97 false,
 oG 101 (.ld 1 false (.t 100)) [29,26] 97 false,
 oG 102 (.call 78 [(.t 99), (.t 101)]) [28,30,26,26] 97 false,
 oG 103 (.un .not (.t 102)) [31,26] 97 false,
 oN 104 (.pick (.t 97) (cB true) (.t 103)) [26,32],
 oN 105 (.mv (.t 104)) [33,31],
 oG 106 (.fa 5 (.t 3)) [34] 105 false,
 oG 107 (.ld 1 false (.t 106)) [35,34] 105 false,
 oG 108 (.fa 5 (.t 1)) [34] 105 false,
 oG 109 (.ld 1 false (.t 108)) [37,34] 105 false,
 oG 110 (.call 78 [(.t 107), (.t 109)]) [36,38,34,34] 105 false,
 oG 111 (.un .not (.t 110)) [39,34] 105 false,
 oN 112 (.pick (.t 105) (cB true) (.t 111)) [34,40]])
 (.cond (.t 112)
 (.seq (.reg [
 oN 2 (.mv (cI 3)) []])
 .ret)
 .skip))
 (.seq (.reg [
 oN 2 (.mv (cI 0)) []])
 .ret)))))))
theorem Tryzp54 : (Tryz.f54.body.map (prep Tryz.prog 113)) = some Tryzc54 := by kernel_rfl
def Tryzc55 : ACode :=
 (.seq (.reg [
 oN 1 (.box (.t 0)) [],
 oN 2 (.mv (cI 0)) []])
 (.seq (.seq (.reg [
 oN 7 (.fa 0 (.t 1)) [],
 oN 8 (.ld 1 false (.t 7)) [0],
 oN 9 (.bin .lss (.t 8) (cI 0)) [1],
 oN 10 (.mv (.t 9)) [2],
 oG 11 (.fa 0 (.t 1)) [3] 10 false,
 oG 12 (.ld 1 false (.t 11)) [4,3] 10 false,
 oG 13 (.bin .gtr (.t 12) (cI 10)) [5,3] 10 false,
 oN 14 (.pick (.t 10) (cB true) (.t 13)) [3,6]])
 (.cond (.t 14)
 (.seq (.reg [
 oN 2 (.mv (cI 1)) []])
 .ret)
 .skip))
 (.seq (.seq (.reg [
 oN 15 (.ld 14 true (.t 1)) [],
 oN 16 (.call 79 [(.t 15)]) [0],
 oN 17 (.un .not (.t 16)) [1]])
 (.cond (.t 17)
 (.seq (.reg [
 oN 2 (.mv (cI 15)) []])
 .ret)
 .skip))
 (.seq (.draw [
 oN 18 (.ld 14 true (.t 1)) [],
 oN 19 (.call 51 [(.t 18)]) [0],
 oN 20 (.ld 14 true (.t 1)) [],
 oN 21 (.call 52 [(.t 20)]) [2,1],
 oN 22 (.mv (.t 21)) [3,3],
 oG 23 (.ld 14 true (.t 1)) [4] 22 false,
 oG 24 (.call 53 [(.t 23)]) [5,4,4] 22 false,
 oN 25 (.pick (.t 22) (cB true) (.t 24)) [4,6],
 oN 26 (.ld 14 true (.t 1)) [],
 oN 27 (.call 74 [(.t 26)]) [8,6],
 oN 3 (.mv (.t 19)) [1,9,0,1],
 oN 4 (.mv (.t 25)) [7,10,0,1,2,3,4,5,6,7,10],
 oN 5 (.mv (.t 27)) [9,11,0,1,2,3,4,5,6,7,8,9,10,11]])
 (.seq (.seq (.draw [
 oN 28 (.mv (.t 3)) [],
 oN 29 (.fa 2 (.t 1)) [],
 oN 30 (.ld 1 false (.t 29)) [1],
 oN 31 (.call 80 [(.t 28), (.t 30), (cI 15)]) [0,2],
 oN 32 (.mv (.t 31)) [3,3],
 oG 33 (.mv (.t 3)) [4] 32 false,
 oG 34 (.fa 3 (.t 1)) [4] 32 false,
 oG 35 (.ld 1 false (.t 34)) [6,4] 32 false,
 oG 36 (.call 80 [(.t 33), (.t 35), (cI 15)]) [5,7,4,4] 32 false,
 oN 37 (.pick (.t 32) (cB true) (.t 36)) [4,8],
 oN 38 (.mv (.t 37)) [9,8],
 oG 39 (.mv (.t 4)) [10] 38 false,
 oG 40 (.fa 4 (.t 1)) [10] 38 false,
 oG 41 (.ld 1 false (.t 40)) [12,10] 38 false,
 oG 42 (.call 80 [(.t 39), (.t 41), (cI 63)]) [11,13,10,10] 38 false,
 oN 43 (.pick (.t 38) (cB true) (.t 42)) [10,14],
 oN 44 (.mv (.t 43)) [15,14],
 oG 45 (.ld 14 true (.t 1)) [16] 44 false,
 oG 46 (.call 53 [(.t 45)]) [17,16,16] 44 false,
 oG 47 (.fa 5 (.t 1)) [16] 44 false,
 oG 48 (.ld 1 false (.t 47)) [19,16] 44 false,
 oG 49 (.call 80 [(.t 46), (.t 48), (cI 1099511627776)]) [18,20,18,16] 44 false,
 oN 50 (.pick (.t 44) (cB true) (.t 49)) [16,21]])
 (.cond (.t 50)
 (.seq (.reg [
 oN 2 (.mv (cI 2)) []])
 .ret)
 .skip))
 (.seq (.seq (.reg [
 oN 51 (.mv (.t 5)) []])
 (.cond (.t 51)
 (.seq (.reg [
 oN 52 (.fa 6 (.t 1)) [],
 oN 53 (.ld 8 true (.t 52)) [0],
 oN 54 (.call 81 [(.t 53)]) [1],
 oN 6 (.mv (.t 54)) [2,2,0,1,2]])
 (.seq (.reg [
 oN 55 (.mv (.t 6)) [],
 oN 56 (.bin .neq (.t 55) (cI 0)) [0]])
 (.cond (.t 56)
 (.seq (.reg [
 oN 57 (.mv (.t 6)) [],
 oN 2 (.mv (.t 57)) [0,0]])
 .ret)
 .skip)))
 .skip))
 (.seq (.seq (.reg [
 oN 58 (.mv (.t 3)) [],
 oN 59 (.un .not (.t 58)) [0],
 oN 60 (.mv (.t 59)) [1],
 oG 61 (.fa 2 (.t 1)) [2] 60 true,
 oG 62 (.ld 1 false (.t 61)) [3,2] 60 true,
 oG 63 (.bin .neq (.t 62) (cI 0)) [4,2] 60 true,
 oG 64 (.mv (.t 63)) [5,2,2] 60 true,
 oG 65 (.fa 3 (.t 1)) [6] 64 false,
 oG 66 (.ld 1 false (.t 65)) [7,6] 64 false,
 oG 67 (.bin .neq (.t 66) (cI 0)) [8,6] 64 false,
 oG 68 (.pick (.t 64) (cB true) (.t 67)) [6,9,2] 60 true,
 oN 69 (.pick (.t 60) (.t 68) (cB false)) [2,10],
 oN 70 (.mv (.t 69)) [11,6],
 oG 71 (.mv (.t 4)) [12] 70 false,
 oG 72 (.un .not (.t 71)) [13,12] 70 false,
 oG 73 (.mv (.t 72)) [14,12,12] 70 false,
 oG 74 (.fa 4 (.t 1)) [15] 73 true,
 oG 75 (.ld 1 false (.t 74)) [16,15] 73 true,
 oG 76 (.bin .neq (.t 75) (cI 0)) [17,15] 73 true,
 oG 77 (.pick (.t 73) (.t 76) (cB false)) [15,18,12] 70 false,
 oN 78 (.pick (.t 70) (cB true) (.t 77)) [12,19],
 oN 79 (.mv (.t 78)) [20,15],
 oG 80 (.ld 14 true (.t 1)) [21] 79 false,
 oG 81 (.call 53 [(.t 80)]) [22,21,21] 79 false,
 oG 82 (.un .not (.t 81)) [23,21] 79 false,
 oG 83 (.mv (.t 82)) [24,23,21] 79 false,
 oG 84 (.fa 5 (.t 1)) [25] 83 true,
 oG 85 (.ld 1 false (.t 84)) [26,25] 83 true,
 oG 86 (.bin .neq (.t 85) (cI 0)) [27,25] 83 true,
 oG 87 (.pick (.t 83) (.t 86) (cB false)) [25,28,21] 79 false,
 oN 88 (.pick (.t 79) (cB true) (.t 87)) [21,29],
 oN 89 (.mv (.t 88)) [30,25],
 oG 90 (.mv (.t 5)) [31] 89 false,
 oG 91 (.un .not (.t 90)) [32,31] 89 false,
 oG 92 (.mv (.t 91)) [33,31,31] 89 false,
 oG 93 (.fa 6 (.t 1)) [34] 92 true,
 oG 94 (.ld 8 true (.t 93)) [35,34] 92 true,
 oG 95 (.build zE []) [34] 92 true,
 oG 96 (.call 49 [(.t 94), (.t 95)]) [36,37,34,34] 92 true,
 oG 97 (.un .not (.t 96)) [38,34] 92 true,
 oG 98 (.pick (.t 92) (.t 97) (cB false)) [34,39,31] 89 false,
 oN 99 (.pick (.t 89) (cB true) (.t 98)) [31,40]])
 (.cond (.t 99)
 (.seq (.reg [
 oN 2 (.mv (cI 3)) []])
 .ret)
 .skip))
 (.seq (.reg [
 oN 2 (.mv (cI 0)) []])
 .ret))))))))
theorem Tryzp55 : (Tryz.f55.body.map (prep Tryz.prog 100)) = some Tryzc55 := by kernel_rfl
def Tryzc56 : ACode :=
 (.seq (.reg [
 oN 2 (.box (.t 0)) [],
 oN 4 (.mv cN) []])
 (.seq (.seq (.reg [
 oN 8 (.fa 0 (.t 2)) [],
 oN 9 (.ld 1 false (.t 8)) [0],
 oN 10 (.bin .eql (.t 9) (cI 0)) [1],
 oN 11 (.mv (.t 10)) [2],
 oG 12 (.fa 3 (.t 2)) [3] 11 true,
 oG 13 (.ld 1 false (.t 12)) [4,3] 11 true,
 oG 14 (.mv (.t 1)) [3] 11 true,
 oG 15 (.bin .eql (.t 13) (.t 14)) [5,6,3] 11 true,
 oN 16 (.pick (.t 11) (.t 15) (cB false)) [3,7]])
 (.cond (.t 16)
 (.seq (.reg [
 oN 17 (.ld 14 true (.t 2)) [],
 oN 18 (.bslice 14 [(.t 17)]) [0],
 oN 4 (.mv (.t 18)) [1,0,1]])
 .ret)
 .skip))
 (.seq (.seq (.reg [
 oN 19 (.fa 1 (.t 2)) [],
 oN 20 (.ld 1 false (.t 19)) [0],
 oN 21 (.len (.t 20)) [1],
 oN 22 (.mv (cI 0)) []])
 (.block 0
 (.loop
 (.seq (.reg [
 oN 23 (.bin .lss (.t 22) (.t 21)) []])
 (.seq (.cond (.t 23)
 .skip
 (.exit 0))
 (.seq (.block 1
 (.seq (.reg [
 oN 24 (.ia 14 (.t 20) (.t 22)) [],
 oN 25 (.ld 14 true (.t 24)) [0],
 oN 6 (.box (.c (.agg zP))) [],
 eN (.st 14 (.t 6) (.t 25)) [2,1,0,1,2]])
 (.seq (.reg [
 oN 26 (.ld 14 true (.t 6)) [],
 oN 27 (.mv (.t 1)) [],
 oN 28 (.call 56 [(.t 26), (.t 27)]) [0,1],
 oN 7 (.mv (.t 28)) [2,2,0,1,2]])
 (.seq (.reg [
 oN 29 (.mv (.t 7)) [],
 oN 30 (.len (.t 29)) [0],
 oN 31 (.bin .gtr (.t 30) (cI 0)) [1]])
 (.cond (.t 31)
 (.seq (.reg [
 oN 32 (.ld 14 true (.t 2)) [],
 oN 33 (.bslice 14 [(.t 32)]) [0],
 oN 34 (.mv (.t 7)) [],
 oN 35 (.app 14 152 (.t 33) (.t 34)) [1,2],
 oN 4 (.mv (.t 35)) [3,3,0,1,2,3]])
 .ret)
 .skip)))))
 (.reg [
 oN 36 (.bin .add (.t 22) (cI 1)) [],
 oN 22 (.mv (.t 36)) [0]])))))))
 (.seq (.reg [
 oN 4 (.mv cN) []])
 .ret))))
theorem Tryzp56 : (Tryz.f56.body.map (prep Tryz.prog 37)) = some Tryzc56 := by kernel_rfl
def Tryzc57 : ACode :=
 (.seq (.reg [
 oN 2 (.box (.t 0)) [],
 oN 4 (.mv cN) [],
 oN 5 (.mv cN) [1],
 oN 6 (.mv (cB false)) [2]])
 (.seq (.seq (.reg [
 oN 11 (.fa 0 (.t 2)) [],
 oN 12 (.ld 1 false (.t 11)) [0],
 oN 13 (.bin .eql (.t 12) (cI 0)) [1]])
 (.cond (.t 13)
 (.seq (.draw [
 oN 14 (.fa 3 (.t 2)) [],
 oN 15 (.ld 1 false (.t 14)) [0],
 oN 16 (.mv (.t 1)) [],
 oN 17 (.bin .eql (.t 15) (.t 16)) [1,2],
 oN 4 (.mv cN) [],
 oN 5 (.mv cN) [4,4],
 oN 6 (.mv (.t 17)) [3,5,0,1,2,3,4,5]])
 .ret)
 .skip))
 (.seq (.seq (.reg [
 oN 7 (.mv (cI 0)) []])
 (.block 0
 (.loop
 (.seq (.seq (.reg [
 oN 18 (.mv (.t 7)) [],
 oN 19 (.fa 1 (.t 2)) [],
 oN 20 (.ld 1 false (.t 19)) [1],
 oN 21 (.len (.t 20)) [2],
 oN 22 (.bin .lss (.t 18) (.t 21)) [0,3]])
 (.cond (.t 22)
 .skip
 (.exit 0)))
 (.seq (.block 1
 (.seq (.reg [
 oN 26 (.fa 1 (.t 2)) [],
 oN 27 (.ld 1 false (.t 26)) [0],
 oN 28 (.mv (.t 7)) [],
 oN 29 (.ia 14 (.t 27) (.t 28)) [1,2],
 oN 30 (.ld 14 true (.t 29)) [3],
 oN 31 (.mv (.t 1)) [],
 oN 32 (.call 57 [(.t 30), (.t 31)]) [4,5],
 oN 25 (.mv (.t 32)) [6],
 oN 33 (.ext (.t 25) 0) [7],
 oN 34 (.ext (.t 25) 1) [7],
 oN 35 (.ext (.t 25) 2) [7],
 oN 8 (.mv (.t 33)) [8,6,0,1,2,3,4,5,6,7,8],
 oN 9 (.mv (.t 34)) [9,11,0,1,2,3,4,5,6,7,8,9,11],
 oN 10 (.mv (.t 35)) [10,12,0,1,2,3,4,5,6,7,8,9,10,11,12]])
 (.seq (.seq (.reg [
 oN 36 (.mv (.t 10)) [],
 oN 37 (.un .not (.t 36)) [0]])
 (.cond (.t 37)
 (.exit 1)
 .skip))
 (.seq (.seq (.reg [
 oN 38 (.ld 14 true (.t 2)) [],
 oN 39 (.call 53 [(.t 38)]) [0]])
 (.cond (.t 39)
 (.reg [
 oN 40 (.fa 4 (.t 2)) [],
 oN 41 (.ld 1 false (.t 40)) [0],
 oN 42 (.fa 5 (.t 2)) [],
 oN 43 (.ld 1 false (.t 42)) [2],
 oN 44 (.build [(vI 0), (vI 0)] [(0, 1, (.t 41)), (1, 1, (.t 43))]) [1,3],
 oN 45 (.bslice 2 [(.t 44)]) [4],
 oN 46 (.mv (.t 8)) [],
 oN 47 (.app 2 16 (.t 45) (.t 46)) [5,6],
 oN 8 (.mv (.t 47)) [7,7,0,1,2,3,4,5,6,7]])
 .skip))
 (.seq (.seq (.reg [
 oN 48 (.ld 14 true (.t 2)) [],
 oN 49 (.call 52 [(.t 48)]) [0]])
 (.cond (.t 49)
 (.reg [
 oN 50 (.fa 4 (.t 2)) [],
 oN 51 (.ld 1 false (.t 50)) [0],
 oN 52 (.bslice 1 [(.t 51)]) [1],
 oN 53 (.mv (.t 9)) [],
 oN 54 (.app 1 8 (.t 52) (.t 53)) [2,3],
 oN 9 (.mv (.t 54)) [4,4,0,1,2,3,4]])
 .skip))
 (.seq (.reg [
 oN 55 (.mv (.t 8)) [],
 oN 56 (.mv (.t 9)) [],
 oN 4 (.mv (.t 55)) [0,0],
 oN 5 (.mv (.t 56)) [1,2,0,1,2],
 oN 6 (.mv (cB true)) [3,0,1,2,3]])
 .ret))))))
 (.reg [
 oN 23 (.mv (.t 7)) [],
 oN 24 (.bin .add (.t 23) (cI 1)) [0],
 oN 7 (.mv (.t 24)) [1,0,1]]))))))
 (.seq (.reg [
 oN 4 (.mv cN) [],
 oN 5 (.mv cN) [0,0],
 oN 6 (.mv (cB false)) [1,0,1]])
 .ret))))
theorem Tryzp57 : (Tryz.f57.body.map (prep Tryz.prog 57)) = some Tryzc57 := by kernel_rfl
def Tryzc58 : ACode :=
 (.seq (.reg [
 oN 3 (.mv (.t 0)) [],
 oN 4 (.len (.t 3)) [0],
 oN 2 (.mv (.t 4)) [1,0,1]])
 (.reg [
 oN 5 (.mv (.t 0)) [],
 oN 6 (.mv (.t 2)) [],
 oN 7 (.mv (.t 2)) [],
 oN 8 (.cvi .u64 (.t 7)) [2],
 oN 9 (.call 83 [(.t 8)]) [3],
 oN 10 (.call 82 [(.t 5), (cI 0), (.t 6), (.t 9)]) [0,1,4,4]]))
theorem Tryzp58 : (Tryz.f58.body.map (prep Tryz.prog 11)) = some Tryzc58 := by kernel_rfl
def Tryzc59 : ACode :=
 (.seq (.reg [
 oN 2 (.mv cN) []])
 (.seq (.seq (.reg [
 oN 6 (.mv (.t 0)) [],
 oN 7 (.len (.t 6)) [0],
 oN 8 (.bin .lss (.t 7) (cI 2)) [1]])
 (.cond (.t 8)
 (.seq (.reg [
 oN 9 (.mv (.t 0)) [],
 oN 2 (.mv (.t 9)) [0,0]])
 .ret)
 .skip))
 (.seq (.seq (.reg [
 oN 3 (.mv (cI 1)) []])
 (.block 0
 (.loop
 (.seq (.seq (.reg [
 oN 10 (.mv (.t 3)) [],
 oN 11 (.mv (.t 0)) [],
 oN 12 (.len (.t 11)) [1],
 oN 13 (.bin .lss (.t 10) (.t 12)) [0,2]])
 (.cond (.t 13)
 .skip
 (.exit 0)))
 (.seq (.block 1
 (.seq (.draw [
 oN 16 (.mv (.t 0)) [],
 oN 17 (.mv (.t 3)) [],
 oN 18 (.ia 1 (.t 16) (.t 17)) [0,1],
 oN 19 (.ld 1 false (.t 18)) [2],
 oN 20 (.mv (.t 0)) [],
 oN 21 (.mv (.t 3)) [],
 oN 22 (.bin .sub (.t 21) (cI 1)) [5],
 oN 23 (.ia 1 (.t 20) (.t 22)) [4,6],
 oN 24 (.ld 1 false (.t 23)) [7],
 oN 25 (.bin .eql (.t 19) (.t 24)) [3,8]])
 (.cond (.t 25)
 (.seq (.reg [
 oN 26 (.mv (.t 0)) [],
 oN 27 (.mv (.t 3)) [],
 oN 28 (.slc 1 (.t 26) (some (.t 27)) none) [0,1],
 oN 4 (.mv (.t 28)) [2,0,1,2]])
 (.seq (.seq (.reg [
 oN 5 (.mv (cI 1)) []])
 (.block 2
 (.loop
 (.seq (.seq (.reg [
 oN 29 (.mv (.t 5)) [],
 oN 30 (.mv (.t 4)) [],
 oN 31 (.len (.t 30)) [1],
 oN 32 (.bin .lss (.t 29) (.t 31)) [0,2]])
 (.cond (.t 32)
 .skip
 (.exit 2)))
 (.seq (.block 3
 (.seq (.draw [
 oN 35 (.mv (.t 4)) [],
 oN 36 (.mv (.t 5)) [],
 oN 37 (.ia 1 (.t 35) (.t 36)) [0,1],
 oN 38 (.ld 1 false (.t 37)) [2],
 oN 39 (.mv (.t 4)) [],
 oN 40 (.mv (.t 5)) [],
 oN 41 (.bin .sub (.t 40) (cI 1)) [5],
 oN 42 (.ia 1 (.t 39) (.t 41)) [4,6],
 oN 43 (.ld 1 false (.t 42)) [7],
 oN 44 (.bin .neq (.t 38) (.t 43)) [3,8]])
 (.cond (.t 44)
 (.seq (.reg [
 oN 45 (.mv (.t 0)) [],
 oN 46 (.mv (.t 3)) [],
 oN 47 (.mv (.t 4)) [],
 oN 48 (.mv (.t 5)) [],
 oN 49 (.ia 1 (.t 47) (.t 48)) [2,3],
 oN 50 (.ld 1 false (.t 49)) [4],
 oN 51 (.ia 1 (.t 45) (.t 46)) [0,1,0,1,2,3,4,5],
 eN (.st 1 (.t 51) (.t 50)) [6,5,0,1,2,3,4,5]])
 (.reg [
 oN 52 (.mv (.t 3)) [],
 oN 53 (.bin .add (.t 52) (cI 1)) [0],
 oN 3 (.mv (.t 53)) [1,0,1]]))
 .skip)))
 (.reg [
 oN 33 (.mv (.t 5)) [],
 oN 34 (.bin .add (.t 33) (cI 1)) [0],
 oN 5 (.mv (.t 34)) [1,0,1]]))))))
 (.seq (.reg [
 oN 54 (.mv (.t 0)) [],
 oN 55 (.mv (.t 3)) [],
 oN 56 (.slc 1 (.t 54) (some (.t 55)) none) [0,1],
 eN (.bad) [2]])
 (.seq (.reg [
 oN 57 (.mv (.t 0)) [],
 oN 58 (.mv (.t 3)) [],
 oN 59 (.slc 1 (.t 57) none (some (.t 58))) [0,1],
 oN 2 (.mv (.t 59)) [2,0,1,2]])
 .ret))))
 .skip)))
 (.reg [
 oN 14 (.mv (.t 3)) [],
 oN 15 (.bin .add (.t 14) (cI 1)) [0],
 oN 3 (.mv (.t 15)) [1,0,1]]))))))
 (.seq (.reg [
 oN 60 (.mv (.t 0)) [],
 oN 2 (.mv (.t 60)) [0,0]])
 .ret))))
theorem Tryzp59 : (Tryz.f59.body.map (prep Tryz.prog 61)) = some Tryzc59 := by kernel_rfl
def Tryzc60 : ACode :=
 (.seq (.reg [
 oN 2 (.box (.t 0)) [],
 oN 3 (.box (.t 1)) [],
 oN 4 (.mv (cB false)) []])
 (.seq (.seq (.reg [
 oN 6 (.fa 0 (.t 2)) [],
 oN 7 (.ld 1 false (.t 6)) [0],
 oN 8 (.fa 0 (.t 3)) [],
 oN 9 (.ld 1 false (.t 8)) [2],
 oN 10 (.bin .neq (.t 7) (.t 9)) [1,3],
 oN 11 (.mv (.t 10)) [4],
 oG 12 (.fa 2 (.t 2)) [5] 11 false,
 oG 13 (.ld 1 false (.t 12)) [6,5] 11 false,
 oG 14 (.fa 2 (.t 3)) [5] 11 false,
 oG 15 (.ld 1 false (.t 14)) [8,5] 11 false,
 oG 16 (.bin .neq (.t 13) (.t 15)) [7,9,5] 11 false,
 oN 17 (.pick (.t 11) (cB true) (.t 16)) [5,10],
 oN 18 (.mv (.t 17)) [11,5],
 oG 19 (.fa 3 (.t 2)) [12] 18 false,
 oG 20 (.ld 1 false (.t 19)) [13,12] 18 false,
 oG 21 (.fa 3 (.t 3)) [12] 18 false,
 oG 22 (.ld 1 false (.t 21)) [15,12] 18 false,
 oG 23 (.bin .neq (.t 20) (.t 22)) [14,16,12] 18 false,
 oN 24 (.pick (.t 18) (cB true) (.t 23)) [12,17],
 oN 25 (.mv (.t 24)) [18,12],
 oG 26 (.fa 4 (.t 2)) [19] 25 false,
 oG 27 (.ld 1 false (.t 26)) [20,19] 25 false,
 oG 28 (.fa 4 (.t 3)) [19] 25 false,
 oG 29 (.ld 1 false (.t 28)) [22,19] 25 false,
 oG 30 (.bin .neq (.t 27) (.t 29)) [21,23,19] 25 false,
 oN 31 (.pick (.t 25) (cB true) (.t 30)) [19,24],
 oN 32 (.mv (.t 31)) [25,19],
 oG 33 (.fa 5 (.t 2)) [26] 32 false,
 oG 34 (.ld 3 true (.t 33)) [27,26] 32 false,
 oG 35 (.fa 5 (.t 3)) [26] 32 false,
 oG 36 (.ld 3 true (.t 35)) [29,26] 32 false,
 oG 37 (.eqst true [.int, .int, .str] (.t 34) (.t 36)) [28,30,26] 32 false,
 oN 38 (.pick (.t 32) (cB true) (.t 37)) [26,31],
 oN 39 (.mv (.t 38)) [32,26],
 oG 40 (.fa 1 (.t 2)) [33] 39 false,
 oG 41 (.ld 1 false (.t 40)) [34,33] 39 false,
 oG 42 (.len (.t 41)) [35,33] 39 false,
 oG 43 (.fa 1 (.t 3)) [33] 39 false,
 oG 44 (.ld 1 false (.t 43)) [37,33] 39 false,
 oG 45 (.len (.t 44)) [38,33] 39 false,
 oG 46 (.bin .neq (.t 42) (.t 45)) [36,39,33] 39 false,
 oN 47 (.pick (.t 39) (cB true) (.t 46)) [33,40]])
 (.cond (.t 47)
 (.seq (.reg [
 oN 4 (.mv (cB false)) []])
 .ret)
 .skip))
 (.seq (.seq (.reg [
 oN 48 (.fa 1 (.t 2)) [],
 oN 49 (.ld 1 false (.t 48)) [0],
 oN 50 (.len (.t 49)) [1],
 oN 51 (.mv (cI 0)) []])
 (.block 0
 (.loop
 (.seq (.reg [
 oN 52 (.bin .lss (.t 51) (.t 50)) []])
 (.seq (.cond (.t 52)
 .skip
 (.exit 0))
 (.seq (.block 1
 (.seq (.reg [
 oN 53 (.mv (.t 51)) [],
 oN 5 (.mv (.t 53)) [0,0]])
 (.seq (.draw [
 oN 54 (.fa 1 (.t 2)) [],
 oN 55 (.ld 1 false (.t 54)) [0],
 oN 56 (.mv (.t 5)) [],
 oN 57 (.ia 8 (.t 55) (.t 56)) [1,2],
 oN 58 (.ld 8 true (.t 57)) [3],
 oN 59 (.fa 1 (.t 3)) [],
 oN 60 (.ld 1 false (.t 59)) [5],
 oN 61 (.mv (.t 5)) [],
 oN 62 (.ia 8 (.t 60) (.t 61)) [6,7],
 oN 63 (.ld 8 true (.t 62)) [8],
 oN 64 (.call 60 [(.t 58), (.t 63)]) [4,9],
 oN 65 (.un .not (.t 64)) [10]])
 (.cond (.t 65)
 (.seq (.reg [
 oN 4 (.mv (cB false)) []])
 .ret)
 .skip))))
 (.reg [
 oN 66 (.bin .add (.t 51) (cI 1)) [],
 oN 51 (.mv (.t 66)) [0]])))))))
 (.seq (.reg [
 oN 4 (.mv (cB true)) []])
 .ret))))
theorem Tryzp60 : (Tryz.f60.body.map (prep Tryz.prog 67)) = some Tryzc60 := by kernel_rfl
def Tryzc61 : ACode :=
 (.seq (.reg [
 oN 6 (.mv (cB false)) []])
 (.seq (.seq (.reg [
 oN 10 (.mv (.t 0)) [],
 oN 11 (.len (.t 10)) [0],
 oN 12 (.mv (.t 1)) [],
 oN 13 (.len (.t 12)) [2],
 oN 14 (.bin .neq (.t 11) (.t 13)) [1,3]])
 (.cond (.t 14)
 (.seq (.reg [
 oN 6 (.mv (cB false)) []])
 .ret)
 .skip))
 (.seq (.seq (.reg [
 oN 15 (.mv (.t 0)) [],
 oN 16 (.len (.t 15)) [0],
 oN 17 (.mv (cI 0)) []])
 (.block 0
 (.loop
 (.seq (.reg [
 oN 18 (.bin .lss (.t 17) (.t 16)) []])
 (.seq (.cond (.t 18)
 .skip
 (.exit 0))
 (.seq (.block 1
 (.seq (.reg [
 oN 19 (.mv (.t 17)) [],
 oN 20 (.ia 14 (.t 15) (.t 17)) [],
 oN 21 (.ld 14 true (.t 20)) [1],
 oN 8 (.box (.c (.agg zP))) [],
 oN 7 (.mv (.t 19)) [0,0,1,2,3],
 eN (.st 14 (.t 8) (.t 21)) [3,2,4,0,1,2,3,4]])
 (.seq (.reg [
 oN 22 (.mv (.t 1)) [],
 oN 23 (.mv (.t 7)) [],
 oN 24 (.ia 14 (.t 22) (.t 23)) [0,1],
 oN 25 (.ld 14 true (.t 24)) [2],
 oN 9 (.box (.c (.agg zP))) [],
 eN (.st 14 (.t 9) (.t 25)) [4,3,0,1,2,3,4]])
 (.seq (.reg [
 oN 26 (.mv (.t 2)) [],
 oN 27 (.ld 14 true (.t 8)) [],
 oN 28 (.ld 14 true (.t 9)) [],
 oN 29 (.callv (.t 26) [(.t 27), (.t 28)]) [0,1,2],
 oN 30 (.un .not (.t 29)) [3]])
 (.cond (.t 30)
 (.seq (.reg [
 oN 6 (.mv (cB false)) []])
 .ret)
 .skip)))))
 (.reg [
 oN 31 (.bin .add (.t 17) (cI 1)) [],
 oN 17 (.mv (.t 31)) [0]])))))))
 (.seq (.reg [
 oN 6 (.mv (cB true)) []])
 .ret))))
theorem Tryzp61 : (Tryz.f61.body.map (prep Tryz.prog 32)) = some Tryzc61 := by kernel_rfl
def Tryzc62 : ACode :=
 (.seq (.reg [
 oN 2 (.box (.t 0)) [],
 oN 3 (.box (.t 1)) [],
 oN 4 (.box (.c (.agg zE))) [],
 oN 5 (.mv (cI 0)) []])
 (.seq (.seq (.reg [
 oN 8 (.ld 8 true (.t 2)) [],
 oN 9 (.call 77 [(.t 8)]) [0],
 oN 6 (.mv (.t 9)) [1,1,0,1]])
 (.seq (.reg [
 oN 10 (.mv (.t 6)) [],
 oN 11 (.bin .neq (.t 10) (cI 0)) [0]])
 (.cond (.t 11)
 (.seq (.reg [
 oN 12 (.build zE []) [],
 oN 13 (.mv (.t 6)) [],
 eN (.st 8 (.t 4) (.t 12)) [0,0],
 oN 5 (.mv (.t 13)) [1,2,0,1,2]])
 .ret)
 .skip)))
 (.seq (.reg [
 oN 14 (.ld 8 true (.t 2)) [],
 oN 15 (.mkfn 84 [(.t 3)]) [],
 oN 16 (.call 71 [(.t 14), (.t 15)]) [0,1],
 oN 7 (.mv (.t 16)) [2,2,0,1,2]])
 (.seq (.seq (.reg [
 oN 17 (.mv (.t 7)) [],
 oN 18 (.bin .neq (.t 17) (cI 0)) [0]])
 (.cond (.t 18)
 (.seq (.reg [
 oN 19 (.build zE []) [],
 oN 20 (.mv (.t 7)) [],
 eN (.st 8 (.t 4) (.t 19)) [0,0],
 oN 5 (.mv (.t 20)) [1,2,0,1,2]])
 .ret)
 .skip))
 (.seq (.reg [
 oN 21 (.ld 8 true (.t 2)) [],
 oN 22 (.mkfn 86 [(.t 3)]) [],
 oN 23 (.call 85 [(.t 21), (.t 22)]) [0,1],
 eN (.st 8 (.t 4) (.t 23)) [2,2,0,1,2],
 oN 5 (.mv (cI 0)) [3,0,1,2,3]])
 .ret)))))
theorem Tryzp62 : (Tryz.f62.body.map (prep Tryz.prog 24)) = some Tryzc62 := by kernel_rfl
def Tryzc63 : ACode :=
 (.seq (.reg [
 oN 2 (.box (.t 0)) [],
 oN 4 (.mv (cI 0)) []])
 (.seq (.reg [
 oN 5 (.mv (cI 1)) []])
 (.seq (.seq (.reg [
 oN 6 (.mv (cI 0)) []])
 (.block 0
 (.loop
 (.seq (.seq (.reg [
 oN 7 (.mv (.t 6)) [],
 oN 8 (.fa 1 (.t 2)) [],
 oN 9 (.ld 1 false (.t 8)) [1],
 oN 10 (.len (.t 9)) [2],
 oN 11 (.bin .lss (.t 7) (.t 10)) [0,3],
 oN 12 (.mv (.t 11)) [4],
 oG 13 (.mv (.t 5)) [5] 12 true,
 oG 14 (.mv (.t 1)) [5] 12 true,
 oG 15 (.bin .leq (.t 13) (.t 14)) [6,7,5] 12 true,
 oN 16 (.pick (.t 12) (.t 15) (cB false)) [5,8]])
 (.cond (.t 16)
 .skip
 (.exit 0)))
 (.seq (.block 1
 (.reg [
 oN 19 (.mv (.t 5)) [],
 oN 20 (.fa 1 (.t 2)) [],
 oN 21 (.ld 1 false (.t 20)) [1],
 oN 22 (.mv (.t 6)) [],
 oN 23 (.ia 8 (.t 21) (.t 22)) [2,3],
 oN 24 (.ld 8 true (.t 23)) [4],
 oN 25 (.mv (.t 1)) [],
 oN 26 (.call 63 [(.t 24), (.t 25)]) [5,6],
 oN 27 (.bin .add (.t 19) (.t 26)) [0,7],
 oN 5 (.mv (.t 27)) [8,7,0,1,2,3,4,5,6,7,8]]))
 (.reg [
 oN 17 (.mv (.t 6)) [],
 oN 18 (.bin .add (.t 17) (cI 1)) [0],
 oN 6 (.mv (.t 18)) [1,0,1]]))))))
 (.seq (.reg [
 oN 28 (.mv (.t 5)) [],
 oN 4 (.mv (.t 28)) [0,0]])
 .ret))))
theorem Tryzp63 : (Tryz.f63.body.map (prep Tryz.prog 29)) = some Tryzc63 := by kernel_rfl
def Tryzc64 : ACode :=
 (.seq (.reg [
 oN 1 (.box (.t 0)) [],
 oN 2 (.mv (cI 0)) []])
 (.seq (.reg [
 oN 3 (.mv (cI 0)) []])
 (.seq (.seq (.reg [
 oN 4 (.mv (cI 0)) []])
 (.block 0
 (.loop
 (.seq (.seq (.reg [
 oN 5 (.mv (.t 4)) [],
 oN 6 (.fa 1 (.t 1)) [],
 oN 7 (.ld 1 false (.t 6)) [1],
 oN 8 (.len (.t 7)) [2],
 oN 9 (.bin .lss (.t 5) (.t 8)) [0,3]])
 (.cond (.t 9)
 .skip
 (.exit 0)))
 (.seq (.block 1
 (.reg [
 oN 12 (.mv (.t 3)) [],
 oN 13 (.fa 1 (.t 1)) [],
 oN 14 (.ld 1 false (.t 13)) [1],
 oN 15 (.mv (.t 4)) [],
 oN 16 (.ia 8 (.t 14) (.t 15)) [2,3],
 oN 17 (.ld 8 true (.t 16)) [4],
 oN 18 (.call 64 [(.t 17)]) [5],
 oN 19 (.mx [(.t 12), (.t 18)]) [0,6],
 oN 3 (.mv (.t 19)) [7,6,0,1,2,3,4,5,6,7]]))
 (.reg [
 oN 10 (.mv (.t 4)) [],
 oN 11 (.bin .add (.t 10) (cI 1)) [0],
 oN 4 (.mv (.t 11)) [1,0,1]]))))))
 (.seq (.reg [
 oN 20 (.mv (.t 3)) [],
 oN 21 (.bin .add (.t 20) (cI 1)) [0],
 oN 2 (.mv (.t 21)) [1,0,1]])
 .ret))))
theorem Tryzp64 : (Tryz.f64.body.map (prep Tryz.prog 22)) = some Tryzc64 := by kernel_rfl
def Tryzc65 : ACode :=
 (.seq (.reg [
 oN 2 (.box (.c (.agg [(vI 0), (vI 0), (.val (.string ⟨#[]⟩))]))) []])
 (.seq (.seq (.reg [
 oN 3 (.mv (.t 0)) []])
 (.cond (.t 3)
 (.seq (.reg [
 oN 4 (.build [(vI 0), (vI 0), (.val (.string ⟨#[]⟩))] [(0, 1, (cI 1)), (1, 1, (cI 1))]) [],
 eN (.st 3 (.t 2) (.t 4)) [0,0]])
 .ret)
 .skip))
 (.seq (.reg [
 oN 5 (.build [(vI 0), (vI 0), (.val (.string ⟨#[]⟩))] [(0, 1, (cI 1))]) [],
 eN (.st 3 (.t 2) (.t 5)) [0,0]])
 .ret)))
theorem Tryzp65 : (Tryz.f65.body.map (prep Tryz.prog 6)) = some Tryzc65 := by kernel_rfl
def Tryzc66 : ACode :=
 (.seq (.reg [
 oN 4 (.mv (.c (.val (.int .u64 0)))) [],
 oN 5 (.mv (.c (.val (.int .u64 0)))) [0]])
 (.seq (.cond (cB false)
 (.seq (.reg [
 oN 11 (.mv (.t 0)) [],
 oN 12 (.cvi .u32 (.t 11)) [0],
 oN 13 (.mv (.t 1)) [],
 oN 14 (.cvi .u32 (.t 13)) [2],
 oN 15 (.call 87 [(.t 12), (.t 14)]) [1,3],
 oN 10 (.mv (.t 15)) [4],
 oN 16 (.ext (.t 10) 0) [5],
 oN 17 (.ext (.t 10) 1) [5],
 oN 6 (.mv (.t 16)) [6,4,0,1,2,3,4,5,6],
 oN 7 (.mv (.t 17)) [7,8,0,1,2,3,4,5,6,7,8]])
 (.seq (.reg [
 oN 18 (.mv (.t 6)) [],
 oN 19 (.cvi .u64 (.t 18)) [0],
 oN 20 (.mv (.t 7)) [],
 oN 21 (.cvi .u64 (.t 20)) [2],
 oN 4 (.mv (.t 19)) [1,0,1],
 oN 5 (.mv (.t 21)) [3,4,0,1,2,3,4]])
 .ret))
 .skip)
 (.seq (.reg [
 oN 23 (.mv (.t 0)) [],
 oN 24 (.mv (.t 1)) [],
 oN 25 (.call 88 [(.t 23), (.t 24)]) [0,1],
 oN 22 (.mv (.t 25)) [2],
 oN 26 (.ext (.t 22) 0) [3],
 oN 27 (.ext (.t 22) 1) [3],
 oN 8 (.mv (.t 26)) [4,2,0,1,2,3,4],
 oN 9 (.mv (.t 27)) [5,6,0,1,2,3,4,5,6]])
 (.seq (.reg [
 oN 28 (.mv (.t 8)) [],
 oN 29 (.mv (.t 9)) [],
 oN 4 (.mv (.t 28)) [0,0],
 oN 5 (.mv (.t 29)) [1,2,0,1,2]])
 .ret))))
theorem Tryzp66 : (Tryz.f66.body.map (prep Tryz.prog 30)) = some Tryzc66 := by kernel_rfl
def Tryzc67 : ACode :=
 (.reg [
 oN 3 (.ld 14 true (.t 1)) [],
 oN 4 (.mv (.t 0)) [],
 oN 5 (.call 68 [(.t 3), (.t 4)]) [0,1]])
theorem Tryzp67 : (Tryz.f67.body.map (prep Tryz.prog 6)) = some Tryzc67 := by kernel_rfl
def Tryzc68 : ACode :=
 (.seq (.reg [
 oN 2 (.box (.t 0)) [],
 oN 4 (.mv (cB false)) []])
 (.seq (.seq (.reg [
 oN 7 (.mv (.t 1)) [],
 oN 8 (.ld 14 true (.t 2)) [],
 oN 9 (.callv (.t 7) [(.t 8)]) [0,1],
 oN 10 (.un .not (.t 9)) [2]])
 (.cond (.t 10)
 (.seq (.reg [
 oN 4 (.mv (cB false)) []])
 .ret)
 .skip))
 (.seq (.seq (.reg [
 oN 11 (.fa 1 (.t 2)) [],
 oN 12 (.ld 1 false (.t 11)) [0],
 oN 13 (.len (.t 12)) [1],
 oN 14 (.mv (cI 0)) []])
 (.block 0
 (.loop
 (.seq (.reg [
 oN 15 (.bin .lss (.t 14) (.t 13)) []])
 (.seq (.cond (.t 15)
 .skip
 (.exit 0))
 (.seq (.block 1
 (.seq (.reg [
 oN 16 (.ia 14 (.t 12) (.t 14)) [],
 oN 17 (.ld 14 true (.t 16)) [0],
 oN 6 (.box (.c (.agg zP))) [],
 eN (.st 14 (.t 6) (.t 17)) [2,1,0,1,2]])
 (.seq (.reg [
 oN 18 (.ld 14 true (.t 6)) [],
 oN 19 (.mv (.t 1)) [],
 oN 20 (.call 68 [(.t 18), (.t 19)]) [0,1],
 oN 21 (.un .not (.t 20)) [2]])
 (.cond (.t 21)
 (.seq (.reg [
 oN 4 (.mv (cB false)) []])
 .ret)
 .skip))))
 (.reg [
 oN 22 (.bin .add (.t 14) (cI 1)) [],
 oN 14 (.mv (.t 22)) [0]])))))))
 (.seq (.reg [
 oN 4 (.mv (cB true)) []])
 .ret))))
theorem Tryzp68 : (Tryz.f68.body.map (prep Tryz.prog 23)) = some Tryzc68 := by kernel_rfl
def Tryzc69 : ACode :=
 (.seq (.reg [
 oN 4 (.mv (cI 0)) []])
 (.seq (.seq (.reg [
 oN 6 (.mv (.t 0)) [],
 oN 7 (.len (.t 6)) [0],
 oN 8 (.mv (cI 0)) []])
 (.block 0
 (.loop
 (.seq (.reg [
 oN 9 (.bin .lss (.t 8) (.t 7)) []])
 (.seq (.cond (.t 9)
 .skip
 (.exit 0))
 (.seq (.block 1
 (.seq (.reg [
 oN 10 (.mv (.t 8)) [],
 oN 5 (.mv (.t 10)) [0,0]])
 (.seq (.reg [
 oN 11 (.mv (.t 1)) [],
 oN 12 (.mv (.t 0)) [],
 oN 13 (.mv (.t 5)) [],
 oN 14 (.ia 1 (.t 12) (.t 13)) [1,2],
 oN 15 (.ld 1 false (.t 14)) [3],
 oN 16 (.bin .eql (.t 11) (.t 15)) [0,4]])
 (.cond (.t 16)
 (.seq (.reg [
 oN 17 (.mv (.t 5)) [],
 oN 4 (.mv (.t 17)) [0,0]])
 .ret)
 .skip))))
 (.reg [
 oN 18 (.bin .add (.t 8) (cI 1)) [],
 oN 8 (.mv (.t 18)) [0]])))))))
 (.seq (.reg [
 oN 4 (.mv (cI (-1))) []])
 .ret)))
theorem Tryzp69 : (Tryz.f69.body.map (prep Tryz.prog 19)) = some Tryzc69 := by kernel_rfl
def Tryzc70 : ACode :=
 (.seq (.reg [
 oN 4 (.mv (cI 0)) []])
 (.seq (.seq (.reg [
 oN 6 (.mv (.t 0)) [],
 oN 7 (.len (.t 6)) [0],
 oN 8 (.mv (cI 0)) []])
 (.block 0
 (.loop
 (.seq (.reg [
 oN 9 (.bin .lss (.t 8) (.t 7)) []])
 (.seq (.cond (.t 9)
 .skip
 (.exit 0))
 (.seq (.block 1
 (.seq (.reg [
 oN 10 (.mv (.t 8)) [],
 oN 5 (.mv (.t 10)) [0,0]])
 (.seq (.reg [
 oN 11 (.mv (.t 1)) [],
 oN 12 (.mv (.t 0)) [],
 oN 13 (.mv (.t 5)) [],
 oN 14 (.ia 1 (.t 12) (.t 13)) [1,2],
 oN 15 (.ld 1 false (.t 14)) [3],
 oN 16 (.callv (.t 11) [(.t 15)]) [0,4]])
 (.cond (.t 16)
 (.seq (.reg [
 oN 17 (.mv (.t 5)) [],
 oN 4 (.mv (.t 17)) [0,0]])
 .ret)
 .skip))))
 (.reg [
 oN 18 (.bin .add (.t 8) (cI 1)) [],
 oN 8 (.mv (.t 18)) [0]])))))))
 (.seq (.reg [
 oN 4 (.mv (cI (-1))) []])
 .ret)))
theorem Tryzp70 : (Tryz.f70.body.map (prep Tryz.prog 19)) = some Tryzc70 := by kernel_rfl
def Tryzc71 : ACode :=
 (.seq (.reg [
 oN 2 (.box (.t 0)) [],
 oN 4 (.mv (cI 0)) []])
 (.seq (.seq (.reg [
 oN 9 (.mv (.t 1)) [],
 oN 10 (.ld 8 true (.t 2)) [],
 oN 11 (.callv (.t 9) [(.t 10)]) [0,1],
 oN 5 (.mv (.t 11)) [2,2,0,1,2]])
 (.seq (.reg [
 oN 12 (.mv (.t 5)) [],
 oN 13 (.bin .neq (.t 12) (cI 0)) [0]])
 (.cond (.t 13)
 (.seq (.reg [
 oN 14 (.mv (.t 5)) [],
 oN 4 (.mv (.t 14)) [0,0]])
 .ret)
 .skip)))
 (.seq (.seq (.reg [
 oN 15 (.fa 1 (.t 2)) [],
 oN 16 (.ld 1 false (.t 15)) [0],
 oN 17 (.len (.t 16)) [1],
 oN 18 (.mv (cI 0)) []])
 (.block 0
 (.loop
 (.seq (.reg [
 oN 19 (.bin .lss (.t 18) (.t 17)) []])
 (.seq (.cond (.t 19)
 .skip
 (.exit 0))
 (.seq (.block 1
 (.seq (.reg [
 oN 20 (.ia 8 (.t 16) (.t 18)) [],
 oN 21 (.ld 8 true (.t 20)) [0],
 oN 7 (.box (.c (.agg zE))) [],
 eN (.st 8 (.t 7) (.t 21)) [2,1,0,1,2]])
 (.seq (.reg [
 oN 22 (.ld 8 true (.t 7)) [],
 oN 23 (.mv (.t 1)) [],
 oN 24 (.call 71 [(.t 22), (.t 23)]) [0,1],
 oN 8 (.mv (.t 24)) [2,2,0,1,2]])
 (.seq (.reg [
 oN 25 (.mv (.t 8)) [],
 oN 26 (.bin .neq (.t 25) (cI 0)) [0]])
 (.cond (.t 26)
 (.seq (.reg [
 oN 27 (.mv (.t 8)) [],
 oN 4 (.mv (.t 27)) [0,0]])
 .ret)
 .skip)))))
 (.reg [
 oN 28 (.bin .add (.t 18) (cI 1)) [],
 oN 18 (.mv (.t 28)) [0]])))))))
 (.seq (.reg [
 oN 4 (.mv (cI 0)) []])
 .ret))))
theorem Tryzp71 : (Tryz.f71.body.map (prep Tryz.prog 29)) = some Tryzc71 := by kernel_rfl
def Tryzc72 : ACode :=
 (.seq (.reg [
 oN 2 (.box (.t 0)) [],
 oN 3 (.mv (cI 0)) []])
 (.seq (.seq (.reg [
 oN 7 (.fa 0 (.t 2)) [],
 oN 8 (.ld 1 false (.t 7)) [0],
 oN 9 (.call 73 [(.t 8)]) [1],
 oN 6 (.mv (.t 9)) [2],
 oN 10 (.ext (.t 6) 0) [3],
 oN 11 (.ext (.t 6) 1) [3],
 oN 4 (.mv (.t 10)) [4,2,0,1,2,3,4],
 oN 5 (.mv (.t 11)) [5,6,0,1,2,3,4,5,6]])
 (.seq (.reg [
 oN 12 (.mv (.t 4)) [],
 oN 13 (.mv (.t 12)) [0],
 oG 14 (.fa 2 (.t 2)) [1] 13 true,
 oG 15 (.ld 1 false (.t 14)) [2,1] 13 true,
 oG 16 (.bin .geq (.t 15) (cI 0)) [3,1] 13 true,
 oN 17 (.pick (.t 13) (.t 16) (cB false)) [1,4],
 oN 18 (.mv (.t 17)) [5,1],
 oG 19 (.fa 2 (.t 2)) [6] 18 true,
 oG 20 (.ld 1 false (.t 19)) [7,6] 18 true,
 oG 21 (.bin .lss (.t 20) (cI 16)) [8,6] 18 true,
 oN 22 (.pick (.t 18) (.t 21) (cB false)) [6,9]])
 (.cond (.t 22)
 (.reg [
 oN 23 (.fa 2 (.t 2)) [],
 oN 24 (.ld 1 false (.t 23)) [0],
 oN 25 (.iaA 1 16 (.t 1) (.t 24)) [1,0,1],
 eN (.st 1 (.t 25) (cB true)) [2,0,1]])
 .skip)))
 (.seq (.reg [
 oN 3 (.mv (cI 0)) []])
 .ret)))
theorem Tryzp72 : (Tryz.f72.body.map (prep Tryz.prog 26)) = some Tryzc72 := by kernel_rfl
def Tryzc73 : ACode :=
 (.seq (.reg [
 oN 2 (.mv (cB false)) [],
 oN 3 (.mv (cB false)) [0]])
 (.seq (.seq (.reg [
 oN 4 (.mv (.t 0)) []])
 (.block 0
 (.seq (.seq (.reg [
 oN 6 (.bin .eql (.t 4) (cI 1)) [],
 oN 5 (.mv (.t 6)) [0]])
 (.cond (.t 5)
 .skip
 (.reg [
 oN 7 (.bin .eql (.t 4) (cI 4)) [],
 oN 5 (.mv (.t 7)) [0]])))
 (.cond (.t 5)
 (.seq (.reg [
 oN 2 (.mv (cB true)) [],
 oN 3 (.mv (cB true)) [0,0]])
 .ret)
 (.seq (.seq (.reg [
 oN 9 (.bin .eql (.t 4) (cI 2)) [],
 oN 8 (.mv (.t 9)) [0]])
 (.cond (.t 8)
 .skip
 (.reg [
 oN 10 (.bin .eql (.t 4) (cI 3)) [],
 oN 8 (.mv (.t 10)) [0]])))
 (.cond (.t 8)
 (.seq (.reg [
 oN 2 (.mv (cB true)) [],
 oN 3 (.mv (cB false)) [0,0]])
 .ret)
 .skip))))))
 (.seq (.reg [
 oN 2 (.mv (cB false)) [],
 oN 3 (.mv (cB false)) [0,0]])
 .ret)))
theorem Tryzp73 : (Tryz.f73.body.map (prep Tryz.prog 11)) = some Tryzc73 := by kernel_rfl
def Tryzc74 : ACode :=
 (.seq (.reg [
 oN 1 (.box (.t 0)) [],
 oN 2 (.mv (cB false)) []])
 (.seq (.reg [
 oN 3 (.ld 14 true (.t 1)) [],
 oN 4 (.call 51 [(.t 3)]) [0],
 oN 5 (.mv (.t 4)) [1,1],
 oG 6 (.fa 0 (.t 1)) [2] 5 false,
 oG 7 (.ld 1 false (.t 6)) [3,2] 5 false,
 oG 8 (.bin .eql (.t 7) (cI 7)) [4,2] 5 false,
 oN 9 (.pick (.t 5) (cB true) (.t 8)) [2,5],
 oN 2 (.mv (.t 9)) [6,2,0,1,2,3,4,5,6]])
 .ret))
theorem Tryzp74 : (Tryz.f74.body.map (prep Tryz.prog 10)) = some Tryzc74 := by kernel_rfl
def Tryzc76 : ACode :=
 (.seq (.reg [
 oN 6 (.mv (cB false)) []])
 (.seq (.reg [
 oN 7 (.mv (.t 0)) [],
 oN 8 (.un .not (.t 7)) [0],
 oN 9 (.mv (.t 8)) [1],
 oG 10 (.mv (.t 1)) [2] 9 false,
 oG 11 (.bin .geq (.t 10) (cI 0)) [3,2] 9 false,
 oG 12 (.mv (.t 11)) [4,2,2] 9 false,
 oG 13 (.mv (.t 1)) [5] 12 true,
 oG 14 (.mv (.t 2)) [5] 12 true,
 oG 15 (.bin .leq (.t 13) (.t 14)) [6,7,5] 12 true,
 oG 16 (.pick (.t 12) (.t 15) (cB false)) [5,8,2] 9 false,
 oN 17 (.pick (.t 9) (cB true) (.t 16)) [2,9],
 oN 6 (.mv (.t 17)) [10,5,0,1,2,3,4,5,6,7,8,9,10]])
 .ret))
theorem Tryzp76 : (Tryz.f76.body.map (prep Tryz.prog 18)) = some Tryzc76 := by kernel_rfl
def Tryzc77 : ACode :=
 (.seq (.reg [
 oN 1 (.box (.t 0)) [],
 oN 2 (.mv (cI 0)) []])
 (.seq (.reg [
 oN 6 (.ld 8 true (.t 1)) [],
 oN 7 (.call 90 [(.t 6)]) [0],
 oN 5 (.mv (.t 7)) [1],
 oN 8 (.ext (.t 5) 0) [2],
 oN 9 (.ext (.t 5) 1) [2],
 oN 3 (.mv (.t 8)) [3,1,0,1,2,3],
 oN 4 (.mv (.t 9)) [4,5,0,1,2,3,4,5]])
 (.seq (.block 0
 (.seq (.reg [
 oN 11 (.mv (.t 3)) [],
 oN 12 (.bin .gtr (.t 11) (cI 64)) [0],
 oN 10 (.mv (.t 12)) [1]])
 (.cond (.t 10)
 (.seq (.reg [
 oN 2 (.mv (cI 5)) []])
 .ret)
 (.seq (.reg [
 oN 14 (.mv (.t 4)) [],
 oN 15 (.bin .gtr (.t 14) (cI 12)) [0],
 oN 13 (.mv (.t 15)) [1]])
 (.cond (.t 13)
 (.seq (.reg [
 oN 2 (.mv (cI 12)) []])
 .ret)
 .skip)))))
 (.seq (.reg [
 oN 16 (.ld 8 true (.t 1)) [],
 oN 17 (.call 71 [(.t 16), (.c (.fn 91 []))]) [0],
 oN 2 (.mv (.t 17)) [1,1,0,1]])
 .ret))))
theorem Tryzp77 : (Tryz.f77.body.map (prep Tryz.prog 18)) = some Tryzc77 := by kernel_rfl
def Tryzc78 : ACode :=
 (.seq (.reg [
 oN 4 (.mv (cB false)) []])
 (.seq (.reg [
 oN 5 (.mv (.t 0)) [],
 oN 6 (.mv (.t 5)) [0],
 oG 7 (.mv (.t 1)) [1] 6 false,
 oG 8 (.bin .eql (.t 7) (cI 0)) [2,1] 6 false,
 oN 9 (.pick (.t 6) (cB true) (.t 8)) [1,3],
 oN 4 (.mv (.t 9)) [4,1,0,1,2,3,4]])
 .ret))
theorem Tryzp78 : (Tryz.f78.body.map (prep Tryz.prog 10)) = some Tryzc78 := by kernel_rfl
def Tryzc79 : ACode :=
 (.seq (.reg [
 oN 1 (.box (.t 0)) [],
 oN 2 (.mv (cB false)) []])
 (.seq (.seq (.reg [
 oN 3 (.fa 0 (.t 1)) [],
 oN 4 (.ld 1 false (.t 3)) [0]])
 (.block 0
 (.seq (.reg [
 oN 6 (.bin .eql (.t 4) (cI 0)) [],
 oN 5 (.mv (.t 6)) [0]])
 (.cond (.t 5)
 (.seq (.reg [
 oN 7 (.fa 1 (.t 1)) [],
 oN 8 (.ld 1 false (.t 7)) [0],
 oN 9 (.len (.t 8)) [1],
 oN 10 (.bin .eql (.t 9) (cI 0)) [2],
 oN 2 (.mv (.t 10)) [3,0,1,2,3]])
 .ret)
 (.seq (.seq (.reg [
 oN 12 (.bin .eql (.t 4) (cI 1)) [],
 oN 11 (.mv (.t 12)) [0]])
 (.cond (.t 11)
 .skip
 (.seq (.reg [
 oN 13 (.bin .eql (.t 4) (cI 2)) [],
 oN 11 (.mv (.t 13)) [0]])
 (.cond (.t 11)
 .skip
 (.reg [
 oN 14 (.bin .eql (.t 4) (cI 3)) [],
 oN 11 (.mv (.t 14)) [0]])))))
 (.cond (.t 11)
 (.seq (.reg [
 oN 15 (.fa 1 (.t 1)) [],
 oN 16 (.ld 1 false (.t 15)) [0],
 oN 17 (.len (.t 16)) [1],
 oN 18 (.bin .geq (.t 17) (cI 2)) [2],
 oN 2 (.mv (.t 18)) [3,0,1,2,3]])
 .ret)
 (.seq (.reg [
 oN 20 (.bin .eql (.t 4) (cI 8)) [],
 oN 19 (.mv (.t 20)) [0]])
 (.cond (.t 19)
 (.seq (.reg [
 oN 21 (.fa 1 (.t 1)) [],
 oN 22 (.ld 1 false (.t 21)) [0],
 oN 23 (.len (.t 22)) [1],
 oN 24 (.bin .eql (.t 23) (cI 2)) [2],
 oN 2 (.mv (.t 24)) [3,0,1,2,3]])
 .ret)
 .skip))))))))
 (.seq (.reg [
 oN 25 (.fa 1 (.t 1)) [],
 oN 26 (.ld 1 false (.t 25)) [0],
 oN 27 (.len (.t 26)) [1],
 oN 28 (.bin .eql (.t 27) (cI 1)) [2],
 oN 2 (.mv (.t 28)) [3,0,1,2,3]])
 .ret)))
theorem Tryzp79 : (Tryz.f79.body.map (prep Tryz.prog 29)) = some Tryzc79 := by kernel_rfl
def Tryzc80 : ACode :=
 (.seq (.reg [
 oN 6 (.mv (cB false)) []])
 (.seq (.reg [
 oN 7 (.mv (.t 0)) [],
 oN 8 (.mv (.t 7)) [0],
 oG 9 (.mv (.t 1)) [1] 8 true,
 oG 10 (.bin .lss (.t 9) (cI 0)) [2,1] 8 true,
 oG 11 (.mv (.t 10)) [3,1,1] 8 true,
 oG 12 (.mv (.t 1)) [4] 11 false,
 oG 13 (.mv (.t 2)) [4] 11 false,
 oG 14 (.bin .gtr (.t 12) (.t 13)) [5,6,4] 11 false,
 oG 15 (.pick (.t 11) (cB true) (.t 14)) [4,7,1] 8 true,
 oN 16 (.pick (.t 8) (.t 15) (cB false)) [1,8],
 oN 6 (.mv (.t 16)) [9,4,0,1,2,3,4,5,6,7,8,9]])
 .ret))
theorem Tryzp80 : (Tryz.f80.body.map (prep Tryz.prog 17)) = some Tryzc80 := by kernel_rfl
def Tryzc81 : ACode :=
 (.seq (.reg [
 oN 1 (.box (.t 0)) [],
 oN 2 (.mv (cI 0)) []])
 (.seq (.seq (.reg [
 oN 3 (.ld 8 true (.t 1)) [],
 oN 4 (.call 63 [(.t 3), (cI 64)]) [0],
 oN 5 (.bin .gtr (.t 4) (cI 64)) [1]])
 (.cond (.t 5)
 (.seq (.reg [
 oN 2 (.mv (cI 5)) []])
 .ret)
 .skip))
 (.seq (.seq (.reg [
 oN 6 (.ld 8 true (.t 1)) [],
 oN 7 (.call 64 [(.t 6)]) [0],
 oN 8 (.bin .gtr (.t 7) (cI 12)) [1]])
 (.cond (.t 8)
 (.seq (.reg [
 oN 2 (.mv (cI 12)) []])
 .ret)
 .skip))
 (.seq (.reg [
 oN 9 (.ld 8 true (.t 1)) [],
 oN 10 (.call 92 [(.t 9)]) [0],
 oN 2 (.mv (.t 10)) [1,1,0,1]])
 .ret))))
theorem Tryzp81 : (Tryz.f81.body.map (prep Tryz.prog 11)) = some Tryzc81 := by kernel_rfl
def Tryzc84 : ACode :=
 (.seq (.reg [
 oN 2 (.box (.t 0)) [],
 oN 3 (.mv (cI 0)) []])
 (.seq (.reg [
 oN 7 (.fa 0 (.t 2)) [],
 oN 8 (.ld 1 false (.t 7)) [0],
 oN 9 (.call 73 [(.t 8)]) [1],
 oN 6 (.mv (.t 9)) [2],
 oN 10 (.ext (.t 6) 0) [3],
 oN 11 (.ext (.t 6) 1) [3],
 oN 4 (.mv (.t 10)) [4,2,0,1,2,3,4],
 oN 5 (.mv (.t 11)) [5,6,0,1,2,3,4,5,6]])
 (.seq (.block 0
 (.seq (.reg [
 oN 13 (.mv (.t 4)) [],
 oN 14 (.un .not (.t 13)) [0],
 oN 12 (.mv (.t 14)) [1]])
 (.cond (.t 12)
 (.seq (.reg [
 oN 3 (.mv (cI 0)) []])
 .ret)
 (.seq (.reg [
 oN 16 (.fa 2 (.t 2)) [],
 oN 17 (.ld 1 false (.t 16)) [0],
 oN 18 (.ld 1 false (.t 1)) [],
 oN 19 (.len (.t 18)) [2],
 oN 20 (.bin .geq (.t 17) (.t 19)) [1,3],
 oN 15 (.mv (.t 20)) [4]])
 (.cond (.t 15)
 (.seq (.reg [
 oN 3 (.mv (cI 6)) []])
 .ret)
 (.seq (.reg [
 oN 22 (.ld 1 false (.t 1)) [],
 oN 23 (.fa 2 (.t 2)) [],
 oN 24 (.ld 1 false (.t 23)) [1],
 oN 25 (.ia 1 (.t 22) (.t 24)) [0,2],
 oN 26 (.ld 1 false (.t 25)) [3],
 oN 27 (.bin .lss (.t 26) (cI 0)) [4],
 oN 28 (.mv (.t 27)) [5],
 oG 29 (.ld 1 false (.t 1)) [6] 28 false,
 oG 30 (.fa 2 (.t 2)) [6] 28 false,
 oG 31 (.ld 1 false (.t 30)) [8,6] 28 false,
 oG 32 (.ia 1 (.t 29) (.t 31)) [7,9,6] 28 false,
 oG 33 (.ld 1 false (.t 32)) [10,6] 28 false,
 oG 34 (.bin .geq (.t 33) (cI 16)) [11,6] 28 false,
 oN 35 (.pick (.t 28) (cB true) (.t 34)) [6,12],
 oN 21 (.mv (.t 35)) [13,6]])
 (.cond (.t 21)
 (.seq (.reg [
 oN 3 (.mv (cI 2)) []])
 .ret)
 .skip)))))))
 (.seq (.reg [
 oN 3 (.mv (cI 0)) []])
 .ret))))
theorem Tryzp84 : (Tryz.f84.body.map (prep Tryz.prog 36)) = some Tryzc84 := by kernel_rfl
def Tryzc85 : ACode :=
 (.seq (.reg [
 oN 2 (.box (.t 0)) [],
 oN 4 (.box (.c (.agg zE))) []])
 (.seq (.reg [
 oN 8 (.ld 8 true (.t 2)) [],
 oN 5 (.box (.c (.agg zE))) [],
 eN (.st 8 (.t 5) (.t 8)) [1,0,0,1]])
 (.seq (.reg [
 oN 9 (.fa 1 (.t 5)) [],
 eN (.st 1 (.t 9) cN) [0]])
 (.seq (.seq (.reg [
 oN 10 (.fa 1 (.t 2)) [],
 oN 11 (.ld 1 false (.t 10)) [0],
 oN 12 (.len (.t 11)) [1],
 oN 13 (.mv (cI 0)) []])
 (.block 0
 (.loop
 (.seq (.reg [
 oN 14 (.bin .lss (.t 13) (.t 12)) []])
 (.seq (.cond (.t 14)
 .skip
 (.exit 0))
 (.seq (.block 1
 (.seq (.reg [
 oN 15 (.ia 8 (.t 11) (.t 13)) [],
 oN 16 (.ld 8 true (.t 15)) [0],
 oN 7 (.box (.c (.agg zE))) [],
 eN (.st 8 (.t 7) (.t 16)) [2,1,0,1,2]])
 (.draw [
 oN 17 (.fa 1 (.t 5)) [],
 oN 18 (.ld 1 false (.t 17)) [0],
 oN 19 (.ld 8 true (.t 7)) [],
 oN 20 (.mv (.t 1)) [],
 oN 21 (.call 85 [(.t 19), (.t 20)]) [2,3],
 oN 22 (.bslice 8 [(.t 21)]) [4],
 oN 23 (.app 8 88 (.t 18) (.t 22)) [1,5,4],
 oN 24 (.fa 1 (.t 5)) [0,1,2,3,4,5,6],
 eN (.st 1 (.t 24) (.t 23)) [7,6,6,0,1,2,3,4,5,6]])))
 (.reg [
 oN 25 (.bin .add (.t 13) (cI 1)) [],
 oN 13 (.mv (.t 25)) [0]])))))))
 (.seq (.reg [
 oN 26 (.mv (.t 1)) [],
 oN 27 (.ld 8 true (.t 5)) [],
 oN 28 (.callv (.t 26) [(.t 27)]) [0,1],
 eN (.st 8 (.t 4) (.t 28)) [2,2,0,1,2]])
 .ret)))))
theorem Tryzp85 : (Tryz.f85.body.map (prep Tryz.prog 29)) = some Tryzc85 := by kernel_rfl
def Tryzc86 : ACode :=
 (.seq (.reg [
 oN 2 (.box (.t 0)) [],
 oN 3 (.box (.c (.agg zE))) []])
 (.seq (.seq (.reg [
 oN 7 (.fa 0 (.t 2)) [],
 oN 8 (.ld 1 false (.t 7)) [0],
 oN 9 (.call 73 [(.t 8)]) [1],
 oN 6 (.mv (.t 9)) [2],
 oN 10 (.ext (.t 6) 0) [3],
 oN 11 (.ext (.t 6) 1) [3],
 oN 4 (.mv (.t 10)) [4,2,0,1,2,3,4],
 oN 5 (.mv (.t 11)) [5,6,0,1,2,3,4,5,6]])
 (.seq (.reg [
 oN 12 (.mv (.t 4)) []])
 (.cond (.t 12)
 (.reg [
 oN 13 (.ld 1 false (.t 1)) [],
 oN 14 (.fa 2 (.t 2)) [],
 oN 15 (.ld 1 false (.t 14)) [1],
 oN 16 (.ia 1 (.t 13) (.t 15)) [0,2],
 oN 17 (.ld 1 false (.t 16)) [3],
 oN 18 (.fa 2 (.t 2)) [0,1,2,3,4],
 eN (.st 1 (.t 18) (.t 17)) [5,4,0,1,2,3,4]])
 .skip)))
 (.seq (.reg [
 oN 19 (.ld 8 true (.t 2)) [],
 eN (.st 8 (.t 3) (.t 19)) [0,0]])
 .ret)))
theorem Tryzp86 : (Tryz.f86.body.map (prep Tryz.prog 20)) = some Tryzc86 := by kernel_rfl
def Tryzc90 : ACode :=
 (.seq (.reg [
 oN 1 (.box (.t 0)) [],
 oN 2 (.mv (cI 0)) [],
 oN 3 (.mv (cI 0)) [1]])
 (.seq (.reg [
 oN 4 (.mv (cI 1)) [],
 oN 5 (.mv (cI 0)) [0,0]])
 (.seq (.seq (.reg [
 oN 10 (.fa 1 (.t 1)) [],
 oN 11 (.ld 1 false (.t 10)) [0],
 oN 12 (.len (.t 11)) [1],
 oN 13 (.mv (cI 0)) []])
 (.block 0
 (.loop
 (.seq (.reg [
 oN 14 (.bin .lss (.t 13) (.t 12)) []])
 (.seq (.cond (.t 14)
 .skip
 (.exit 0))
 (.seq (.block 1
 (.seq (.reg [
 oN 15 (.ia 8 (.t 11) (.t 13)) [],
 oN 16 (.ld 8 true (.t 15)) [0],
 oN 7 (.box (.c (.agg zE))) [],
 eN (.st 8 (.t 7) (.t 16)) [2,1,0,1,2]])
 (.seq (.reg [
 oN 18 (.ld 8 true (.t 7)) [],
 oN 19 (.call 90 [(.t 18)]) [0],
 oN 17 (.mv (.t 19)) [1],
 oN 20 (.ext (.t 17) 0) [2],
 oN 21 (.ext (.t 17) 1) [2],
 oN 8 (.mv (.t 20)) [3,1,0,1,2,3],
 oN 9 (.mv (.t 21)) [4,5,0,1,2,3,4,5]])
 (.reg [
 oN 22 (.mv (.t 4)) [],
 oN 23 (.mv (.t 8)) [],
 oN 24 (.bin .add (.t 22) (.t 23)) [0,1],
 oN 25 (.mv (.t 5)) [],
 oN 26 (.mv (.t 9)) [],
 oN 27 (.mx [(.t 25), (.t 26)]) [3,4],
 oN 4 (.mv (.t 24)) [2,0,1,2],
 oN 5 (.mv (.t 27)) [5,6,0,1,2,3,4,5,6]]))))
 (.reg [
 oN 28 (.bin .add (.t 13) (cI 1)) [],
 oN 13 (.mv (.t 28)) [0]])))))))
 (.seq (.reg [
 oN 29 (.mv (.t 4)) [],
 oN 30 (.mv (.t 5)) [],
 oN 31 (.bin .add (.t 30) (cI 1)) [1],
 oN 2 (.mv (.t 29)) [0,0],
 oN 3 (.mv (.t 31)) [2,3,0,1,2,3]])
 .ret))))
theorem Tryzp90 : (Tryz.f90.body.map (prep Tryz.prog 32)) = some Tryzc90 := by kernel_rfl
def Tryzc91 : ACode :=
 (.seq (.reg [
 oN 1 (.box (.t 0)) [],
 oN 2 (.mv (cI 0)) []])
 (.seq (.reg [
 oN 11 (.fa 0 (.t 1)) [],
 oN 12 (.ld 1 false (.t 11)) [0],
 oN 13 (.call 105 [(.t 12)]) [1],
 oN 10 (.mv (.t 13)) [2],
 oN 14 (.ext (.t 10) 0) [3],
 oN 15 (.ext (.t 10) 1) [3],
 oN 3 (.mv (.t 14)) [4,2,0,1,2,3,4],
 oN 4 (.mv (.t 15)) [5,6,0,1,2,3,4,5,6]])
 (.seq (.seq (.reg [
 oN 16 (.mv (.t 4)) [],
 oN 17 (.un .not (.t 16)) [0]])
 (.cond (.t 17)
 (.seq (.reg [
 oN 2 (.mv (cI 1)) []])
 .ret)
 .skip))
 (.seq (.seq (.reg [
 oN 18 (.fa 1 (.t 1)) [],
 oN 19 (.ld 1 false (.t 18)) [0],
 oN 20 (.len (.t 19)) [1],
 oN 21 (.mv (.t 3)) [],
 oN 22 (.bin .neq (.t 20) (.t 21)) [2,3]])
 (.cond (.t 22)
 (.seq (.reg [
 oN 2 (.mv (cI 15)) []])
 .ret)
 .skip))
 (.seq (.reg [
 oN 24 (.fa 0 (.t 1)) [],
 oN 25 (.ld 1 false (.t 24)) [0],
 oN 26 (.call 73 [(.t 25)]) [1],
 oN 23 (.mv (.t 26)) [2],
 oN 27 (.ext (.t 23) 0) [3],
 oN 28 (.ext (.t 23) 1) [3],
 oN 5 (.mv (.t 27)) [4,2,0,1,2,3,4],
 oN 6 (.mv (.t 28)) [5,6,0,1,2,3,4,5,6]])
 (.seq (.seq (.reg [
 oN 29 (.mv (.t 5)) [],
 oN 30 (.mv (.t 29)) [0],
 oG 31 (.fa 2 (.t 1)) [1] 30 true,
 oG 32 (.ld 1 false (.t 31)) [2,1] 30 true,
 oG 33 (.bin .lss (.t 32) (cI 0)) [3,1] 30 true,
 oG 34 (.mv (.t 33)) [4,1,1] 30 true,
 oG 35 (.fa 2 (.t 1)) [5] 34 false,
 oG 36 (.ld 1 false (.t 35)) [6,5] 34 false,
 oG 37 (.bin .geq (.t 36) (cI 16)) [7,5] 34 false,
 oG 38 (.pick (.t 34) (cB true) (.t 37)) [5,8,1] 30 true,
 oN 39 (.pick (.t 30) (.t 38) (cB false)) [1,9],
 oN 40 (.mv (.t 39)) [10,5],
 oG 41 (.mv (.t 6)) [11] 40 false,
 oG 42 (.mv (.t 41)) [12,11,11] 40 false,
 oG 43 (.fa 3 (.t 1)) [13] 42 true,
 oG 44 (.ld 1 false (.t 43)) [14,13] 42 true,
 oG 45 (.bin .lss (.t 44) (cI 0)) [15,13] 42 true,
 oG 46 (.mv (.t 45)) [16,13,13] 42 true,
 oG 47 (.fa 3 (.t 1)) [17] 46 false,
 oG 48 (.ld 1 false (.t 47)) [18,17] 46 false,
 oG 49 (.bin .geq (.t 48) (cI 8)) [19,17] 46 false,
 oG 50 (.pick (.t 46) (cB true) (.t 49)) [17,20,13] 42 true,
 oG 51 (.pick (.t 42) (.t 50) (cB false)) [13,21,11] 40 false,
 oN 52 (.pick (.t 40) (cB true) (.t 51)) [11,22]])
 (.cond (.t 52)
 (.seq (.reg [
 oN 2 (.mv (cI 2)) []])
 .ret)
 .skip))
 (.seq (.reg [
 oN 53 (.fa 0 (.t 1)) [],
 oN 54 (.ld 1 false (.t 53)) [0],
 oN 55 (.bin .eql (.t 54) (cI 4)) [1],
 oN 7 (.mv (.t 55)) [2,0,1,2]])
 (.seq (.seq (.reg [
 oN 56 (.mv (.t 7)) [],
 oN 57 (.mv (.t 56)) [0],
 oG 58 (.fa 4 (.t 1)) [1] 57 true,
 oG 59 (.ld 1 false (.t 58)) [2,1] 57 true,
 oG 60 (.bin .lss (.t 59) (cI 1)) [3,1] 57 true,
 oG 61 (.mv (.t 60)) [4,1,1] 57 true,
 oG 62 (.fa 4 (.t 1)) [5] 61 false,
 oG 63 (.ld 1 false (.t 62)) [6,5] 61 false,
 oG 64 (.bin .gtr (.t 63) (cI 5)) [7,5] 61 false,
 oG 65 (.pick (.t 61) (cB true) (.t 64)) [5,8,1] 57 true,
 oN 66 (.pick (.t 57) (.t 65) (cB false)) [1,9]])
 (.cond (.t 66)
 (.seq (.reg [
 oN 2 (.mv (cI 1)) []])
 .ret)
 .skip))
 (.seq (.reg [
 oN 67 (.mv (.t 7)) [],
 oN 68 (.mv (.t 67)) [0],
 oG 69 (.fa 0 (.t 1)) [1] 68 false,
 oG 70 (.ld 1 false (.t 69)) [2,1] 68 false,
 oG 71 (.bin .eql (.t 70) (cI 0)) [3,1] 68 false,
 oN 72 (.pick (.t 68) (cB true) (.t 71)) [1,4],
 oN 8 (.mv (.t 72)) [5,1,0,1,2,3,4,5]])
 (.seq (.seq (.reg [
 oN 73 (.mv (.t 8)) []])
 (.cond (.t 73)
 (.seq (.reg [
 oN 74 (.ld 8 true (.t 1)) [],
 oN 75 (.call 106 [(.t 74)]) [0],
 oN 9 (.mv (.t 75)) [1,1,0,1]])
 (.seq (.reg [
 oN 76 (.mv (.t 9)) [],
 oN 77 (.bin .neq (.t 76) (cI 0)) [0]])
 (.cond (.t 77)
 (.seq (.reg [
 oN 78 (.mv (.t 9)) [],
 oN 2 (.mv (.t 78)) [0,0]])
 .ret)
 .skip)))
 .skip))
 (.seq (.seq (.reg [
 oN 79 (.mv (.t 5)) [],
 oN 80 (.un .not (.t 79)) [0],
 oN 81 (.mv (.t 80)) [1],
 oG 82 (.fa 2 (.t 1)) [2] 81 true,
 oG 83 (.ld 1 false (.t 82)) [3,2] 81 true,
 oG 84 (.bin .neq (.t 83) (cI 0)) [4,2] 81 true,
 oN 85 (.pick (.t 81) (.t 84) (cB false)) [2,5],
 oN 86 (.mv (.t 85)) [6,2],
 oG 87 (.mv (.t 6)) [7] 86 false,
 oG 88 (.un .not (.t 87)) [8,7] 86 false,
 oG 89 (.mv (.t 88)) [9,7,7] 86 false,
 oG 90 (.fa 3 (.t 1)) [10] 89 true,
 oG 91 (.ld 1 false (.t 90)) [11,10] 89 true,
 oG 92 (.bin .neq (.t 91) (cI 0)) [12,10] 89 true,
 oG 93 (.pick (.t 89) (.t 92) (cB false)) [10,13,7] 86 false,
 oN 94 (.pick (.t 86) (cB true) (.t 93)) [7,14],
 oN 95 (.mv (.t 94)) [15,10],
 oG 96 (.mv (.t 7)) [16] 95 false,
 oG 97 (.un .not (.t 96)) [17,16] 95 false,
 oG 98 (.mv (.t 97)) [18,16,16] 95 false,
 oG 99 (.fa 4 (.t 1)) [19] 98 true,
 oG 100 (.ld 1 false (.t 99)) [20,19] 98 true,
 oG 101 (.bin .neq (.t 100) (cI 0)) [21,19] 98 true,
 oG 102 (.pick (.t 98) (.t 101) (cB false)) [19,22,16] 95 false,
 oN 103 (.pick (.t 95) (cB true) (.t 102)) [16,23],
 oN 104 (.mv (.t 103)) [24,19],
 oG 105 (.mv (.t 8)) [25] 104 false,
 oG 106 (.un .not (.t 105)) [26,25] 104 false,
 oG 107 (.mv (.t 106)) [27,25,25] 104 false,
 oG 108 (.fa 5 (.t 1)) [28] 107 true,
 oG 109 (.ld 3 true (.t 108)) [29,28] 107 true,
 oG 110 (.build [(vI 0), (vI 0), (.val (.string ⟨#[]⟩))] []) [28] 107 true,
 oG 111 (.eqst true [.int, .int, .str] (.t 109) (.t 110)) [30,31,28] 107 true,
 oG 112 (.pick (.t 107) (.t 111) (cB false)) [28,32,25] 104 false,
 oN 113 (.pick (.t 104) (cB true) (.t 112)) [25,33]])
 (.cond (.t 113)
 (.seq (.reg [
 oN 2 (.mv (cI 3)) []])
 .ret)
 .skip))
 (.seq (.reg [
 oN 2 (.mv (cI 0)) []])
 .ret))))))))))))
theorem Tryzp91 : (Tryz.f91.body.map (prep Tryz.prog 114)) = some Tryzc91 := by kernel_rfl
def Tryzc92 : ACode :=
 (.seq (.reg [
 oN 1 (.box (.t 0)) [],
 oN 2 (.mv (cI 0)) []])
 (.seq (.seq (.reg [
 oN 6 (.ld 8 true (.t 1)) [],
 oN 7 (.call 107 [(.t 6)]) [0],
 oN 3 (.mv (.t 7)) [1,1,0,1]])
 (.seq (.reg [
 oN 8 (.mv (.t 3)) [],
 oN 9 (.bin .neq (.t 8) (cI 0)) [0]])
 (.cond (.t 9)
 (.seq (.reg [
 oN 10 (.mv (.t 3)) [],
 oN 2 (.mv (.t 10)) [0,0]])
 .ret)
 .skip)))
 (.seq (.seq (.reg [
 oN 4 (.mv (cI 0)) []])
 (.block 0
 (.loop
 (.seq (.seq (.reg [
 oN 11 (.mv (.t 4)) [],
 oN 12 (.fa 1 (.t 1)) [],
 oN 13 (.ld 1 false (.t 12)) [1],
 oN 14 (.len (.t 13)) [2],
 oN 15 (.bin .lss (.t 11) (.t 14)) [0,3]])
 (.cond (.t 15)
 .skip
 (.exit 0)))
 (.seq (.block 1
 (.seq (.reg [
 oN 18 (.fa 1 (.t 1)) [],
 oN 19 (.ld 1 false (.t 18)) [0],
 oN 20 (.mv (.t 4)) [],
 oN 21 (.ia 8 (.t 19) (.t 20)) [1,2],
 oN 22 (.ld 8 true (.t 21)) [3],
 oN 23 (.call 92 [(.t 22)]) [4],
 oN 5 (.mv (.t 23)) [5,5,0,1,2,3,4,5]])
 (.seq (.reg [
 oN 24 (.mv (.t 5)) [],
 oN 25 (.bin .neq (.t 24) (cI 0)) [0]])
 (.cond (.t 25)
 (.seq (.reg [
 oN 26 (.mv (.t 5)) [],
 oN 2 (.mv (.t 26)) [0,0]])
 .ret)
 .skip))))
 (.reg [
 oN 16 (.mv (.t 4)) [],
 oN 17 (.bin .add (.t 16) (cI 1)) [0],
 oN 4 (.mv (.t 17)) [1,0,1]]))))))
 (.seq (.reg [
 oN 2 (.mv (cI 0)) []])
 .ret))))
theorem Tryzp92 : (Tryz.f92.body.map (prep Tryz.prog 27)) = some Tryzc92 := by kernel_rfl
def Tryzc104 : ACode :=
 (.seq (.reg [
 oN 2 (.mv (cB false)) [],
 oN 3 (.mv (cB false)) [0]])
 (.seq (.reg [
 oN 5 (.mv (.t 0)) [],
 oN 6 (.bin .eql (.t 5) (cI 1)) [0],
 oN 7 (.mv (.t 6)) [1],
 oG 8 (.mv (.t 0)) [2] 7 false,
 oG 9 (.bin .eql (.t 8) (cI 4)) [3,2] 7 false,
 oN 10 (.pick (.t 7) (cB true) (.t 9)) [2,4],
 oN 4 (.mv (.t 10)) [5,2,0,1,2,3,4,5]])
 (.seq (.reg [
 oN 11 (.mv (.t 4)) [],
 oN 12 (.mv (.t 11)) [0],
 oG 13 (.mv (.t 0)) [1] 12 false,
 oG 14 (.bin .eql (.t 13) (cI 2)) [2,1] 12 false,
 oN 15 (.pick (.t 12) (cB true) (.t 14)) [1,3],
 oN 16 (.mv (.t 15)) [4,1],
 oG 17 (.mv (.t 0)) [5] 16 false,
 oG 18 (.bin .eql (.t 17) (cI 3)) [6,5] 16 false,
 oN 19 (.pick (.t 16) (cB true) (.t 18)) [5,7],
 oN 20 (.mv (.t 4)) [],
 oN 2 (.mv (.t 19)) [8,5,0,1,2,3,4,5,6,7,8],
 oN 3 (.mv (.t 20)) [9,10,0,1,2,3,4,5,6,7,8,9,10]])
 .ret)))
theorem Tryzp104 : (Tryz.f104.body.map (prep Tryz.prog 21)) = some Tryzc104 := by kernel_rfl
def Tryzc105 : ACode :=
 (.seq (.reg [
 oN 2 (.mv (cI 0)) [],
 oN 3 (.mv (cB false)) [0]])
 (.seq (.block 0
 (.seq (.reg [
 oN 5 (.mv (.t 0)) [],
 oN 6 (.bin .lss (.t 5) (cI 0)) [0],
 oN 7 (.mv (.t 6)) [1],
 oG 8 (.mv (.t 0)) [2] 7 false,
 oG 9 (.bin .gtr (.t 8) (cI 12)) [3,2] 7 false,
 oN 10 (.pick (.t 7) (cB true) (.t 9)) [2,4],
 oN 4 (.mv (.t 10)) [5,2]])
 (.cond (.t 4)
 (.seq (.reg [
 oN 2 (.mv (cI 0)) [],
 oN 3 (.mv (cB false)) [0,0]])
 .ret)
 (.seq (.reg [
 oN 12 (.mv (.t 0)) [],
 oN 13 (.bin .lss (.t 12) (cI 5)) [0],
 oN 11 (.mv (.t 13)) [1]])
 (.cond (.t 11)
 (.seq (.reg [
 oN 2 (.mv (cI 0)) [],
 oN 3 (.mv (cB true)) [0,0]])
 .ret)
 (.seq (.reg [
 oN 15 (.mv (.t 0)) [],
 oN 16 (.bin .eql (.t 15) (cI 12)) [0],
 oN 14 (.mv (.t 16)) [1]])
 (.cond (.t 14)
 (.seq (.reg [
 oN 2 (.mv (cI 1)) [],
 oN 3 (.mv (cB true)) [0,0]])
 .ret)
 .skip)))))))
 (.seq (.reg [
 oN 2 (.mv (cI 2)) [],
 oN 3 (.mv (cB true)) [0,0]])
 .ret)))
theorem Tryzp105 : (Tryz.f105.body.map (prep Tryz.prog 17)) = some Tryzc105 := by kernel_rfl
def Tryzc106 : ACode :=
 (.seq (.reg [
 oN 1 (.box (.t 0)) [],
 oN 2 (.mv (cI 0)) []])
 (.seq (.seq (.reg [
 oN 4 (.fa 5 (.t 1)) [],
 oN 5 (.ld 3 true (.t 4)) [0],
 oN 6 (.call 114 [(.t 5)]) [1],
 oN 3 (.mv (.t 6)) [2,2,0,1,2]])
 (.seq (.reg [
 oN 7 (.mv (.t 3)) [],
 oN 8 (.bin .neq (.t 7) (cI 0)) [0]])
 (.cond (.t 8)
 (.seq (.reg [
 oN 9 (.mv (.t 3)) [],
 oN 2 (.mv (.t 9)) [0,0]])
 .ret)
 .skip)))
 (.seq (.seq (.reg [
 oN 10 (.fa 0 (.t 1)) [],
 oN 11 (.ld 1 false (.t 10)) [0],
 oN 12 (.bin .eql (.t 11) (cI 4)) [1],
 oN 13 (.mv (.t 12)) [2],
 oG 14 (.fa 4 (.t 1)) [3] 13 true,
 oG 15 (.ld 1 false (.t 14)) [4,3] 13 true,
 oG 16 (.fa 5 (.t 1)) [3] 13 true,
 oG 17 (.ld 3 true (.t 16)) [6,3] 13 true,
 oG 18 (.call 115 [(.t 15), (.t 17)]) [5,7,3,3] 13 true,
 oG 19 (.un .not (.t 18)) [8,3] 13 true,
 oG 20 (.mv (.t 19)) [9,8,3] 13 true,
 oG 21 (.fa 4 (.t 1)) [10] 20 false,
 oG 22 (.ld 1 false (.t 21)) [11,10] 20 false,
 oG 23 (.bin .eql (.t 22) (cI 1)) [12,10] 20 false,
 oG 24 (.mv (.t 23)) [13,10,10] 20 false,
 oG 25 (.fa 5 (.t 1)) [14] 24 true,
 oG 26 (.ld 3 true (.t 25)) [15,14] 24 true,
 oG 27 (.build [(vI 0), (vI 0), (.val (.string ⟨#[]⟩))] []) [14] 24 true,
 oG 28 (.eqst true [.int, .int, .str] (.t 26) (.t 27)) [16,17,14] 24 true,
 oG 29 (.pick (.t 24) (.t 28) (cB false)) [14,18,10] 20 false,
 oG 30 (.pick (.t 20) (cB true) (.t 29)) [10,19,3] 13 true,
 oN 31 (.pick (.t 13) (.t 30) (cB false)) [3,20]])
 (.cond (.t 31)
 (.seq (.reg [
 oN 2 (.mv (cI 9)) []])
 .ret)
 .skip))
 (.seq (.reg [
 oN 2 (.mv (cI 0)) []])
 .ret))))
theorem Tryzp106 : (Tryz.f106.body.map (prep Tryz.prog 32)) = some Tryzc106 := by kernel_rfl
def Tryzc107 : ACode :=
 (.seq (.reg [
 oN 1 (.box (.t 0)) [],
 oN 2 (.mv (cI 0)) []])
 (.seq (.reg [
 oN 9 (.fa 0 (.t 1)) [],
 oN 10 (.ld 1 false (.t 9)) [0],
 oN 11 (.call 116 [(.t 10)]) [1],
 oN 3 (.mv (.t 11)) [2,2,0,1,2]])
 (.seq (.seq (.reg [
 oN 12 (.mv (.t 3)) [],
 oN 13 (.bin .lss (.t 12) (cI 0)) [0]])
 (.cond (.t 13)
 (.seq (.reg [
 oN 2 (.mv (cI 1)) []])
 .ret)
 .skip))
 (.seq (.seq (.reg [
 oN 14 (.fa 1 (.t 1)) [],
 oN 15 (.ld 1 false (.t 14)) [0],
 oN 16 (.len (.t 15)) [1],
 oN 17 (.mv (.t 3)) [],
 oN 18 (.bin .neq (.t 16) (.t 17)) [2,3]])
 (.cond (.t 18)
 (.seq (.reg [
 oN 2 (.mv (cI 15)) []])
 .ret)
 .skip))
 (.seq (.reg [
 oN 20 (.fa 0 (.t 1)) [],
 oN 21 (.ld 1 false (.t 20)) [0],
 oN 22 (.call 104 [(.t 21)]) [1],
 oN 19 (.mv (.t 22)) [2],
 oN 23 (.ext (.t 19) 0) [3],
 oN 24 (.ext (.t 19) 1) [3],
 oN 4 (.mv (.t 23)) [4,2,0,1,2,3,4],
 oN 5 (.mv (.t 24)) [5,6,0,1,2,3,4,5,6]])
 (.seq (.seq (.reg [
 oN 25 (.mv (.t 4)) [],
 oN 26 (.mv (.t 25)) [0],
 oG 27 (.fa 2 (.t 1)) [1] 26 true,
 oG 28 (.ld 1 false (.t 27)) [2,1] 26 true,
 oG 29 (.bin .lss (.t 28) (cI 0)) [3,1] 26 true,
 oG 30 (.mv (.t 29)) [4,1,1] 26 true,
 oG 31 (.fa 2 (.t 1)) [5] 30 false,
 oG 32 (.ld 1 false (.t 31)) [6,5] 30 false,
 oG 33 (.bin .geq (.t 32) (cI 16)) [7,5] 30 false,
 oG 34 (.pick (.t 30) (cB true) (.t 33)) [5,8,1] 26 true,
 oN 35 (.pick (.t 26) (.t 34) (cB false)) [1,9],
 oN 36 (.mv (.t 35)) [10,5],
 oG 37 (.mv (.t 5)) [11] 36 false,
 oG 38 (.mv (.t 37)) [12,11,11] 36 false,
 oG 39 (.fa 3 (.t 1)) [13] 38 true,
 oG 40 (.ld 1 false (.t 39)) [14,13] 38 true,
 oG 41 (.bin .lss (.t 40) (cI 0)) [15,13] 38 true,
 oG 42 (.mv (.t 41)) [16,13,13] 38 true,
 oG 43 (.fa 3 (.t 1)) [17] 42 false,
 oG 44 (.ld 1 false (.t 43)) [18,17] 42 false,
 oG 45 (.bin .geq (.t 44) (cI 8)) [19,17] 42 false,
 oG 46 (.pick (.t 42) (cB true) (.t 45)) [17,20,13] 38 true,
 oG 47 (.pick (.t 38) (.t 46) (cB false)) [13,21,11] 36 false,
 oN 48 (.pick (.t 36) (cB true) (.t 47)) [11,22]])
 (.cond (.t 48)
 (.seq (.reg [
 oN 2 (.mv (cI 2)) []])
 .ret)
 .skip))
 (.seq (.reg [
 oN 49 (.fa 0 (.t 1)) [],
 oN 50 (.ld 1 false (.t 49)) [0],
 oN 51 (.bin .eql (.t 50) (cI 4)) [1],
 oN 6 (.mv (.t 51)) [2,0,1,2]])
 (.seq (.seq (.reg [
 oN 52 (.mv (.t 6)) [],
 oN 53 (.mv (.t 52)) [0],
 oG 54 (.fa 4 (.t 1)) [1] 53 true,
 oG 55 (.ld 1 false (.t 54)) [2,1] 53 true,
 oG 56 (.bin .lss (.t 55) (cI 1)) [3,1] 53 true,
 oG 57 (.mv (.t 56)) [4,1,1] 53 true,
 oG 58 (.fa 4 (.t 1)) [5] 57 false,
 oG 59 (.ld 1 false (.t 58)) [6,5] 57 false,
 oG 60 (.bin .gtr (.t 59) (cI 5)) [7,5] 57 false,
 oG 61 (.pick (.t 57) (cB true) (.t 60)) [5,8,1] 53 true,
 oN 62 (.pick (.t 53) (.t 61) (cB false)) [1,9]])
 (.cond (.t 62)
 (.seq (.reg [
 oN 2 (.mv (cI 1)) []])
 .ret)
 .skip))
 (.seq (.reg [
 oN 63 (.mv (.t 6)) [],
 oN 64 (.mv (.t 63)) [0],
 oG 65 (.fa 0 (.t 1)) [1] 64 false,
 oG 66 (.ld 1 false (.t 65)) [2,1] 64 false,
 oG 67 (.bin .eql (.t 66) (cI 0)) [3,1] 64 false,
 oN 68 (.pick (.t 64) (cB true) (.t 67)) [1,4],
 oN 7 (.mv (.t 68)) [5,1,0,1,2,3,4,5]])
 (.seq (.seq (.reg [
 oN 69 (.mv (.t 7)) []])
 (.cond (.t 69)
 (.seq (.reg [
 oN 70 (.fa 5 (.t 1)) [],
 oN 71 (.ld 3 true (.t 70)) [0],
 oN 72 (.call 117 [(.t 71)]) [1],
 oN 8 (.mv (.t 72)) [2,2,0,1,2]])
 (.seq (.reg [
 oN 73 (.mv (.t 8)) [],
 oN 74 (.bin .neq (.t 73) (cI 0)) [0]])
 (.cond (.t 74)
 (.seq (.reg [
 oN 75 (.mv (.t 8)) [],
 oN 2 (.mv (.t 75)) [0,0]])
 .ret)
 .skip)))
 .skip))
 (.seq (.seq (.reg [
 oN 76 (.mv (.t 6)) [],
 oN 77 (.mv (.t 76)) [0],
 oG 78 (.fa 4 (.t 1)) [1] 77 true,
 oG 79 (.ld 1 false (.t 78)) [2,1] 77 true,
 oG 80 (.fa 5 (.t 1)) [1] 77 true,
 oG 81 (.ld 3 true (.t 80)) [4,1] 77 true,
 oG 82 (.call 118 [(.t 79), (.t 81)]) [3,5,1,1] 77 true,
 oG 83 (.un .not (.t 82)) [6,1] 77 true,
 oG 84 (.mv (.t 83)) [7,6,1] 77 true,
 oG 85 (.fa 4 (.t 1)) [8] 84 false,
 oG 86 (.ld 1 false (.t 85)) [9,8] 84 false,
 oG 87 (.bin .eql (.t 86) (cI 1)) [10,8] 84 false,
 oG 88 (.mv (.t 87)) [11,8,8] 84 false,
 oG 89 (.fa 5 (.t 1)) [12] 88 true,
 oG 90 (.ld 3 true (.t 89)) [13,12] 88 true,
 oG 91 (.build [(vI 0), (vI 0), (.val (.string ⟨#[]⟩))] []) [12] 88 true,
 oG 92 (.eqst true [.int, .int, .str] (.t 90) (.t 91)) [14,15,12] 88 true,
 oG 93 (.pick (.t 88) (.t 92) (cB false)) [12,16,8] 84 false,
 oG 94 (.pick (.t 84) (cB true) (.t 93)) [8,17,1] 77 true,
 oN 95 (.pick (.t 77) (.t 94) (cB false)) [1,18]])
 (.cond (.t 95)
 (.seq (.reg [
 oN 2 (.mv (cI 9)) []])
 .ret)
 .skip))
 (.seq (.seq (.reg [
 oN 96 (.mv (.t 4)) [],
 oN 97 (.un .not (.t 96)) [0],
 oN 98 (.mv (.t 97)) [1],
 oG 99 (.fa 2 (.t 1)) [2] 98 true,
 oG 100 (.ld 1 false (.t 99)) [3,2] 98 true,
 oG 101 (.bin .neq (.t 100) (cI 0)) [4,2] 98 true,
 oN 102 (.pick (.t 98) (.t 101) (cB false)) [2,5],
 oN 103 (.mv (.t 102)) [6,2],
 oG 104 (.mv (.t 5)) [7] 103 false,
 oG 105 (.un .not (.t 104)) [8,7] 103 false,
 oG 106 (.mv (.t 105)) [9,7,7] 103 false,
 oG 107 (.fa 3 (.t 1)) [10] 106 true,
 oG 108 (.ld 1 false (.t 107)) [11,10] 106 true,
 oG 109 (.bin .neq (.t 108) (cI 0)) [12,10] 106 true,
 oG 110 (.pick (.t 106) (.t 109) (cB false)) [10,13,7] 103 false,
 oN 111 (.pick (.t 103) (cB true) (.t 110)) [7,14],
 oN 112 (.mv (.t 111)) [15,10],
 oG 113 (.mv (.t 6)) [16] 112 false,
 oG 114 (.un .not (.t 113)) [17,16] 112 false,
 oG 115 (.mv (.t 114)) [18,16,16] 112 false,
 oG 116 (.fa 4 (.t 1)) [19] 115 true,
 oG 117 (.ld 1 false (.t 116)) [20,19] 115 true,
 oG 118 (.bin .neq (.t 117) (cI 0)) [21,19] 115 true,
 oG 119 (.pick (.t 115) (.t 118) (cB false)) [19,22,16] 112 false,
 oN 120 (.pick (.t 112) (cB true) (.t 119)) [16,23],
 oN 121 (.mv (.t 120)) [24,19],
 oG 122 (.mv (.t 7)) [25] 121 false,
 oG 123 (.un .not (.t 122)) [26,25] 121 false,
 oG 124 (.mv (.t 123)) [27,25,25] 121 false,
 oG 125 (.fa 5 (.t 1)) [28] 124 true,
 oG 126 (.ld 3 true (.t 125)) [29,28] 124 true,
 oG 127 (.build [(vI 0), (vI 0), (.val (.string ⟨#[]⟩))] []) [28] 124 true,
 oG 128 (.eqst true [.int, .int, .str] (.t 126) (.t 127)) [30,31,28] 124 true,
 oG 129 (.pick (.t 124) (.t 128) (cB false)) [28,32,25] 121 false,
 oN 130 (.pick (.t 121) (cB true) (.t 129)) [25,33]])
 (.cond (.t 130)
 (.seq (.reg [
 oN 2 (.mv (cI 3)) []])
 .ret)
 .skip))
 (.seq (.reg [
 oN 2 (.mv (cI 0)) []])
 .ret)))))))))))))
theorem Tryzp107 : (Tryz.f107.body.map (prep Tryz.prog 131)) = some Tryzc107 := by kernel_rfl
def Tryzc114 : ACode :=
 (.seq (.reg [
 oN 1 (.box (.t 0)) [],
 oN 2 (.mv (cI 0)) []])
 (.seq (.seq (.reg [
 oN 3 (.fa 0 (.t 1)) [],
 oN 4 (.ld 1 false (.t 3)) [0]])
 (.block 0
 (.seq (.seq (.reg [
 oN 6 (.bin .eql (.t 4) (cI 0)) [],
 oN 5 (.mv (.t 6)) [0]])
 (.cond (.t 5)
 .skip
 (.reg [
 oN 7 (.bin .eql (.t 4) (cI 1)) [],
 oN 5 (.mv (.t 7)) [0]])))
 (.cond (.t 5)
 (.seq (.reg [
 oN 8 (.fa 2 (.t 1)) [],
 oN 9 (.ld 1 false (.t 8)) [0],
 oN 10 (.bin .neq (.t 9) (.c (.val (.string ⟨#[]⟩)))) [1]])
 (.cond (.t 10)
 (.seq (.reg [
 oN 2 (.mv (cI 3)) []])
 .ret)
 .skip))
 (.seq (.reg [
 oN 12 (.bin .eql (.t 4) (cI 2)) [],
 oN 11 (.mv (.t 12)) [0]])
 (.cond (.t 11)
 (.seq (.reg [
 oN 13 (.fa 1 (.t 1)) [],
 oN 14 (.ld 1 false (.t 13)) [0],
 oN 15 (.bin .neq (.t 14) (cI 0)) [1]])
 (.cond (.t 15)
 (.seq (.reg [
 oN 2 (.mv (cI 3)) []])
 .ret)
 .skip))
 (.seq (.reg [
 oN 2 (.mv (cI 1)) []])
 .ret)))))))
 (.seq (.reg [
 oN 16 (.ld 3 true (.t 1)) [],
 oN 17 (.call 120 [(.t 16)]) [0],
 oN 2 (.mv (.t 17)) [1,1,0,1]])
 .ret)))
theorem Tryzp114 : (Tryz.f114.body.map (prep Tryz.prog 18)) = some Tryzc114 := by kernel_rfl
def Tryzc115 : ACode :=
 (.seq (.reg [
 oN 3 (.box (.t 1)) [],
 oN 4 (.mv (cB false)) []])
 (.seq (.reg [
 oN 5 (.fa 0 (.t 3)) [],
 oN 6 (.ld 1 false (.t 5)) [0],
 oN 7 (.bin .eql (.t 6) (cI 0)) [1],
 oN 8 (.mv (.t 7)) [2],
 oG 9 (.mv (.t 0)) [3] 8 false,
 oG 10 (.bin .eql (.t 9) (cI 4)) [4,3] 8 false,
 oN 11 (.pick (.t 8) (cB true) (.t 10)) [3,5],
 oN 12 (.mv (.t 11)) [6,3],
 oG 13 (.mv (.t 0)) [7] 12 false,
 oG 14 (.bin .eql (.t 13) (cI 5)) [8,7] 12 false,
 oN 15 (.pick (.t 12) (cB true) (.t 14)) [7,9],
 oN 4 (.mv (.t 15)) [10,7,0,1,2,3,4,5,6,7,8,9,10]])
 .ret))
theorem Tryzp115 : (Tryz.f115.body.map (prep Tryz.prog 16)) = some Tryzc115 := by kernel_rfl
def Tryzc116 : ACode :=
 (.seq (.reg [
 oN 2 (.mv (cI 0)) []])
 (.seq (.seq (.reg [
 oN 3 (.mv (.t 0)) []])
 (.block 0
 (.seq (.seq (.reg [
 oN 5 (.bin .eql (.t 3) (cI 0)) [],
 oN 4 (.mv (.t 5)) [0]])
 (.cond (.t 4)
 .skip
 (.seq (.reg [
 oN 6 (.bin .eql (.t 3) (cI 1)) [],
 oN 4 (.mv (.t 6)) [0]])
 (.cond (.t 4)
 .skip
 (.seq (.reg [
 oN 7 (.bin .eql (.t 3) (cI 2)) [],
 oN 4 (.mv (.t 7)) [0]])
 (.cond (.t 4)
 .skip
 (.seq (.reg [
 oN 8 (.bin .eql (.t 3) (cI 3)) [],
 oN 4 (.mv (.t 8)) [0]])
 (.cond (.t 4)
 .skip
 (.reg [
 oN 9 (.bin .eql (.t 3) (cI 4)) [],
 oN 4 (.mv (.t 9)) [0]])))))))))
 (.cond (.t 4)
 (.seq (.reg [
 oN 2 (.mv (cI 0)) []])
 .ret)
 (.seq (.reg [
 oN 11 (.bin .eql (.t 3) (cI 12)) [],
 oN 10 (.mv (.t 11)) [0]])
 (.cond (.t 10)
 (.seq (.reg [
 oN 2 (.mv (cI 1)) []])
 .ret)
 (.seq (.seq (.reg [
 oN 13 (.bin .eql (.t 3) (cI 5)) [],
 oN 12 (.mv (.t 13)) [0]])
 (.cond (.t 12)
 .skip
 (.seq (.reg [
 oN 14 (.bin .eql (.t 3) (cI 6)) [],
 oN 12 (.mv (.t 14)) [0]])
 (.cond (.t 12)
 .skip
 (.seq (.reg [
 oN 15 (.bin .eql (.t 3) (cI 7)) [],
 oN 12 (.mv (.t 15)) [0]])
 (.cond (.t 12)
 .skip
 (.seq (.reg [
 oN 16 (.bin .eql (.t 3) (cI 8)) [],
 oN 12 (.mv (.t 16)) [0]])
 (.cond (.t 12)
 .skip
 (.seq (.reg [
 oN 17 (.bin .eql (.t 3) (cI 9)) [],
 oN 12 (.mv (.t 17)) [0]])
 (.cond (.t 12)
 .skip
 (.seq (.reg [
 oN 18 (.bin .eql (.t 3) (cI 10)) [],
 oN 12 (.mv (.t 18)) [0]])
 (.cond (.t 12)
 .skip
 (.reg [
 oN 19 (.bin .eql (.t 3) (cI 11)) [],
 oN 12 (.mv (.t 19)) [0]])))))))))))))
 (.cond (.t 12)
 (.seq (.reg [
 oN 2 (.mv (cI 2)) []])
 .ret)
 .skip))))))))
 (.seq (.reg [
 oN 2 (.mv (cI (-1))) []])
 .ret)))
theorem Tryzp116 : (Tryz.f116.body.map (prep Tryz.prog 20)) = some Tryzc116 := by kernel_rfl
def Tryzc117 : ACode :=
 (.seq (.reg [
 oN 1 (.box (.t 0)) [],
 oN 2 (.mv (cI 0)) []])
 (.seq (.seq (.reg [
 oN 3 (.fa 0 (.t 1)) [],
 oN 4 (.ld 1 false (.t 3)) [0],
 oN 5 (.bin .lss (.t 4) (cI 0)) [1],
 oN 6 (.mv (.t 5)) [2],
 oG 7 (.fa 0 (.t 1)) [3] 6 false,
 oG 8 (.ld 1 false (.t 7)) [4,3] 6 false,
 oG 9 (.bin .gtr (.t 8) (cI 2)) [5,3] 6 false,
 oN 10 (.pick (.t 6) (cB true) (.t 9)) [3,6]])
 (.cond (.t 10)
 (.seq (.reg [
 oN 2 (.mv (cI 1)) []])
 .ret)
 .skip))
 (.seq (.seq (.reg [
 oN 11 (.fa 0 (.t 1)) [],
 oN 12 (.ld 1 false (.t 11)) [0],
 oN 13 (.bin .eql (.t 12) (cI 2)) [1]])
 (.cond (.t 13)
 (.seq (.seq (.reg [
 oN 14 (.fa 1 (.t 1)) [],
 oN 15 (.ld 1 false (.t 14)) [0],
 oN 16 (.bin .neq (.t 15) (cI 0)) [1]])
 (.cond (.t 16)
 (.seq (.reg [
 oN 2 (.mv (cI 3)) []])
 .ret)
 .skip))
 (.seq (.seq (.reg [
 oN 17 (.fa 2 (.t 1)) [],
 oN 18 (.ld 1 false (.t 17)) [0],
 oN 19 (.lens (.t 18)) [1],
 oN 20 (.bin .gtr (.t 19) (cI 64)) [2]])
 (.cond (.t 20)
 (.seq (.reg [
 oN 2 (.mv (cI 13)) []])
 .ret)
 .skip))
 (.seq (.reg [
 oN 2 (.mv (cI 0)) []])
 .ret)))
 .skip))
 (.seq (.seq (.reg [
 oN 21 (.fa 2 (.t 1)) [],
 oN 22 (.ld 1 false (.t 21)) [0],
 oN 23 (.bin .neq (.t 22) (.c (.val (.string ⟨#[]⟩)))) [1]])
 (.cond (.t 23)
 (.seq (.reg [
 oN 2 (.mv (cI 3)) []])
 .ret)
 .skip))
 (.seq (.seq (.reg [
 oN 24 (.fa 0 (.t 1)) [],
 oN 25 (.ld 1 false (.t 24)) [0],
 oN 26 (.bin .eql (.t 25) (cI 1)) [1],
 oN 27 (.mv (.t 26)) [2],
 oG 28 (.fa 1 (.t 1)) [3] 27 true,
 oG 29 (.ld 1 false (.t 28)) [4,3] 27 true,
 oG 30 (.bin .lss (.t 29) (cI 0)) [5,3] 27 true,
 oG 31 (.mv (.t 30)) [6,3,3] 27 true,
 oG 32 (.fa 1 (.t 1)) [7] 31 false,
 oG 33 (.ld 1 false (.t 32)) [8,7] 31 false,
 oG 34 (.bin .gtr (.t 33) (cI 1)) [9,7] 31 false,
 oG 35 (.pick (.t 31) (cB true) (.t 34)) [7,10,3] 27 true,
 oN 36 (.pick (.t 27) (.t 35) (cB false)) [3,11],
 oN 37 (.mv (.t 36)) [12,7],
 oG 38 (.fa 1 (.t 1)) [13] 37 false,
 oG 39 (.ld 1 false (.t 38)) [14,13] 37 false,
 oG 40 (.bin .lss (.t 39) (cI (-1099511627776))) [15,13] 37 false,
 oN 41 (.pick (.t 37) (cB true) (.t 40)) [13,16],
 oN 42 (.mv (.t 41)) [17,13],
 oG 43 (.fa 1 (.t 1)) [18] 42 false,
 oG 44 (.ld 1 false (.t 43)) [19,18] 42 false,
 oG 45 (.bin .gtr (.t 44) (cI 1099511627776)) [20,18] 42 false,
 oN 46 (.pick (.t 42) (cB true) (.t 45)) [18,21]])
 (.cond (.t 46)
 (.seq (.reg [
 oN 2 (.mv (cI 2)) []])
 .ret)
 .skip))
 (.seq (.reg [
 oN 2 (.mv (cI 0)) []])
 .ret))))))
theorem Tryzp117 : (Tryz.f117.body.map (prep Tryz.prog 47)) = some Tryzc117 := by kernel_rfl
def Tryzc118 : ACode :=
 (.seq (.reg [
 oN 3 (.box (.t 1)) [],
 oN 4 (.mv (cB false)) []])
 (.seq (.reg [
 oN 5 (.fa 0 (.t 3)) [],
 oN 6 (.ld 1 false (.t 5)) [0],
 oN 7 (.bin .eql (.t 6) (cI 0)) [1],
 oN 8 (.mv (.t 7)) [2],
 oG 9 (.mv (.t 0)) [3] 8 false,
 oG 10 (.bin .eql (.t 9) (cI 0)) [4,3] 8 false,
 oN 11 (.pick (.t 8) (cB true) (.t 10)) [3,5],
 oN 12 (.mv (.t 11)) [6,3],
 oG 13 (.mv (.t 0)) [7] 12 false,
 oG 14 (.bin .eql (.t 13) (cI 4)) [8,7] 12 false,
 oN 15 (.pick (.t 12) (cB true) (.t 14)) [7,9],
 oN 16 (.mv (.t 15)) [10,7],
 oG 17 (.mv (.t 0)) [11] 16 false,
 oG 18 (.bin .eql (.t 17) (cI 5)) [12,11] 16 false,
 oN 19 (.pick (.t 16) (cB true) (.t 18)) [11,13],
 oN 4 (.mv (.t 19)) [14,11,0,1,2,3,4,5,6,7,8,9,10,11,12,13,14]])
 .ret))
theorem Tryzp118 : (Tryz.f118.body.map (prep Tryz.prog 20)) = some Tryzc118 := by kernel_rfl
def Tryzc120 : ACode :=
 (.seq (.reg [
 oN 1 (.box (.t 0)) [],
 oN 2 (.mv (cI 0)) []])
 (.seq (.block 0
 (.seq (.reg [
 oN 4 (.fa 0 (.t 1)) [],
 oN 5 (.ld 1 false (.t 4)) [0],
 oN 6 (.bin .eql (.t 5) (cI 0)) [1],
 oN 7 (.mv (.t 6)) [2],
 oG 8 (.fa 1 (.t 1)) [3] 7 true,
 oG 9 (.ld 1 false (.t 8)) [4,3] 7 true,
 oG 10 (.bin .lss (.t 9) (cI (-1099511627776))) [5,3] 7 true,
 oG 11 (.mv (.t 10)) [6,3,3] 7 true,
 oG 12 (.fa 1 (.t 1)) [7] 11 false,
 oG 13 (.ld 1 false (.t 12)) [8,7] 11 false,
 oG 14 (.bin .gtr (.t 13) (cI 1099511627776)) [9,7] 11 false,
 oG 15 (.pick (.t 11) (cB true) (.t 14)) [7,10,3] 7 true,
 oN 16 (.pick (.t 7) (.t 15) (cB false)) [3,11],
 oN 3 (.mv (.t 16)) [12,7]])
 (.cond (.t 3)
 (.seq (.reg [
 oN 2 (.mv (cI 2)) []])
 .ret)
 (.seq (.reg [
 oN 18 (.fa 0 (.t 1)) [],
 oN 19 (.ld 1 false (.t 18)) [0],
 oN 20 (.bin .eql (.t 19) (cI 1)) [1],
 oN 21 (.mv (.t 20)) [2],
 oG 22 (.fa 1 (.t 1)) [3] 21 true,
 oG 23 (.ld 1 false (.t 22)) [4,3] 21 true,
 oG 24 (.bin .neq (.t 23) (cI 0)) [5,3] 21 true,
 oN 25 (.pick (.t 21) (.t 24) (cB false)) [3,6],
 oN 26 (.mv (.t 25)) [7,3],
 oG 27 (.fa 1 (.t 1)) [8] 26 true,
 oG 28 (.ld 1 false (.t 27)) [9,8] 26 true,
 oG 29 (.bin .neq (.t 28) (cI 1)) [10,8] 26 true,
 oN 30 (.pick (.t 26) (.t 29) (cB false)) [8,11],
 oN 17 (.mv (.t 30)) [12,8]])
 (.cond (.t 17)
 (.seq (.reg [
 oN 2 (.mv (cI 2)) []])
 .ret)
 (.seq (.reg [
 oN 32 (.fa 2 (.t 1)) [],
 oN 33 (.ld 1 false (.t 32)) [0],
 oN 34 (.lens (.t 33)) [1],
 oN 35 (.bin .gtr (.t 34) (cI 64)) [2],
 oN 31 (.mv (.t 35)) [3]])
 (.cond (.t 31)
 (.seq (.reg [
 oN 2 (.mv (cI 13)) []])
 .ret)
 .skip)))))))
 (.seq (.reg [
 oN 2 (.mv (cI 0)) []])
 .ret)))
theorem Tryzp120 : (Tryz.f120.body.map (prep Tryz.prog 36)) = some Tryzc120 := by kernel_rfl
end Go.Am
end
