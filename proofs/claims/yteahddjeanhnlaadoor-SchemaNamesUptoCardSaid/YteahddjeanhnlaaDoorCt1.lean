/- Contracts of the program's functions, for every argument that meets the conditions that each theorem names. -/
import Derived.Test.YteahddjeanhnlaaDoorAm6
import Derived.Test.YteahddjeanhnlaaDoorAm4
import Derived.Test.YteahddjeanhnlaaDoorProg
import Derived.Test.YteahddjeanhnlaaDoorAm5
section
set_option maxHeartbeats 16000000
set_option maxRecDepth 100000
namespace Go.Am
open Go.Proofs
abbrev oN (d : Nat) (o : AOp) (a : List Nat) : AOper := ⟨some d, o, a, none⟩
abbrev oG (d : Nat) (o : AOp) (a : List Nat) (g : Nat) (b : Bool) : AOper := ⟨some d, o, a, some (g, b)⟩
abbrev eN (o : AOp) (a : List Nat) : AOper := ⟨none, o, a, none⟩
abbrev eG (o : AOp) (a : List Nat) (g : Nat) (b : Bool) : AOper := ⟨none, o, a, some (g, b)⟩
abbrev cI (n : Int) : Opd := .c (.val (.int .i64 n))
abbrev cB (b : Bool) : Opd := .c (.val (.bool b))
abbrev cN : Opd := .c (.val (.slice none 0 0))
abbrev vI (n : Int) : AV := .val (.int .i64 n)
abbrev vN : AV := .val (.slice none 0 0)
abbrev zE : List AV := [vI 0, vN, vI 0, vI 0, vI 0, vI 0, vI 0, .val (.string ⟨#[]⟩)]
abbrev zP : List AV := [vI 0, vN, vI 0, vI 0, vI 0, vI 0, vI 0, vN, vI 0, vI 0, vI 0, vI 0, vI 0, .val (.string ⟨#[]⟩)]
def Trydc3 : ACode :=
 (.seq (.reg [
 oN 2 (.box (.t 0)) [],
 oN 4 (.mv (cB false)) []])
 (.seq (.seq (.reg [
 oN 9 (.ld 2 true (.t 2)) [],
 oN 10 (.bslice 2 [(.t 9)]) [0],
 oN 11 (.call 11 [(.t 10)]) [1],
 oN 12 (.un .not (.t 11)) [2]])
 (.cond (.t 12)
 (.seq (.reg [
 oN 13 (.call 12 []) [],
 oN 4 (.mv (.t 13)) [0,0,0]])
 .ret)
 .skip))
 (.seq (.reg [
 oN 15 (.ld 2 true (.t 2)) [],
 oN 16 (.mv (.t 1)) [],
 oN 17 (.call 13 [(.t 15), (.t 16)]) [0,1],
 oN 14 (.mv (.t 17)) [2],
 oN 18 (.ext (.t 14) 0) [3],
 oN 19 (.ext (.t 14) 1) [3],
 oN 5 (.mv (.t 18)) [4,2,0,1,2,3,4],
 oN 6 (.mv (.t 19)) [5,6,0,1,2,3,4,5,6]])
 (.seq (.reg [
 oN 21 (.ld 2 true (.t 2)) [],
 oN 22 (.mv (.t 1)) [],
 oN 23 (.call 14 [(.t 21), (.t 22)]) [0,1],
 oN 20 (.mv (.t 23)) [2],
 oN 24 (.ext (.t 20) 0) [3],
 oN 25 (.ext (.t 20) 1) [3],
 oN 7 (.mv (.t 24)) [4,2,0,1,2,3,4],
 oN 8 (.mv (.t 25)) [5,6,0,1,2,3,4,5,6]])
 (.seq (.draw [
 oN 26 (.call 12 []) [],
 oN 27 (.mv (.t 26)) [0,0],
 oG 28 (.ld 2 true (.t 2)) [1] 27 true,
 oG 29 (.call 15 [(.t 28)]) [2,1,1] 27 true,
 oG 30 (.ld 2 true (.t 2)) [1] 27 true,
 oG 31 (.call 16 [(.t 30)]) [4,3,1] 27 true,
 oG 32 (.bin .eql (.t 29) (.t 31)) [3,5,1] 27 true,
 oN 33 (.pick (.t 27) (.t 32) (cB false)) [1,6],
 oN 34 (.mv (.t 33)) [7,5],
 oG 35 (.mv (.t 5)) [8] 34 true,
 oG 36 (.mv (.t 7)) [8] 34 true,
 oG 37 (.bin .eql (.t 35) (.t 36)) [9,10,8] 34 true,
 oN 38 (.pick (.t 34) (.t 37) (cB false)) [8,11],
 oN 39 (.mv (.t 38)) [12,8],
 oG 40 (.mv (.t 6)) [13] 39 true,
 oG 41 (.mv (.t 8)) [13] 39 true,
 oG 42 (.bin .eql (.t 40) (.t 41)) [14,15,13] 39 true,
 oN 43 (.pick (.t 39) (.t 42) (cB false)) [13,16],
 oN 4 (.mv (.t 43)) [17,13,0,1,2,3,4,5,6,7,8,9,10,11,12,13,14,15,16,17]])
 .ret)))))
theorem Trydp3 : (Tryd.f3.body.map (prep Tryd.prog 44)) = some Trydc3 := by kernel_rfl
def Trydc4 : ACode :=
 (.seq (.reg [
 oN 2 (.mv (cB false)) []])
 (.seq (.seq (.reg [
 oN 9 (.mv (.t 0)) [],
 oN 10 (.lens (.t 9)) [0],
 oN 11 (.bin .gtr (.t 10) (cI 1000)) [1],
 oN 12 (.mv (.t 11)) [2],
 oG 13 (.mv (.t 0)) [3] 12 true,
 oG 14 (.lens (.t 13)) [4,3] 12 true,
 oG 15 (.bin .leq (.t 14) (cI 65536)) [5,3] 12 true,
 oN 16 (.pick (.t 12) (.t 15) (cB false)) [3,6]])
 (.cond (.t 16)
 (.seq (.reg [
 oN 17 (.call 12 []) [],
 oN 2 (.mv (.t 17)) [0,0,0]])
 .ret)
 .skip))
 (.seq (.reg [
 oN 19 (.mv (.t 0)) [],
 oN 20 (.call 17 [(.t 19)]) [0],
 oN 18 (.mv (.t 20)) [1],
 oN 21 (.ext (.t 18) 0) [2],
 oN 22 (.ext (.t 18) 1) [2],
 oN 23 (.ext (.t 18) 2) [2],
 oN 3 (.mv (.t 21)) [3,1,0,1,2,3],
 oN 4 (.mv (.t 22)) [4,6,0,1,2,3,4,6],
 oN 5 (.mv (.t 23)) [5,7,0,1,2,3,4,5,6,7]])
 (.seq (.reg [
 oN 25 (.mv (.t 0)) [],
 oN 26 (.call 18 [(.t 25)]) [0],
 oN 24 (.mv (.t 26)) [1],
 oN 27 (.ext (.t 24) 0) [2],
 oN 28 (.ext (.t 24) 1) [2],
 oN 29 (.ext (.t 24) 2) [2],
 oN 6 (.mv (.t 27)) [3,1,0,1,2,3],
 oN 7 (.mv (.t 28)) [4,6,0,1,2,3,4,6],
 oN 8 (.mv (.t 29)) [5,7,0,1,2,3,4,5,6,7]])
 (.seq (.reg [
 oN 30 (.call 12 []) [],
 oN 31 (.mv (.t 30)) [0,0],
 oG 32 (.mv (.t 3)) [1] 31 true,
 oG 33 (.mv (.t 6)) [1] 31 true,
 oG 34 (.call 19 [(.t 32), (.t 33)]) [2,3,1,1] 31 true,
 oN 35 (.pick (.t 31) (.t 34) (cB false)) [1,4],
 oN 36 (.mv (.t 35)) [5,4],
 oG 37 (.mv (.t 4)) [6] 36 true,
 oG 38 (.mv (.t 7)) [6] 36 true,
 oG 39 (.bin .eql (.t 37) (.t 38)) [7,8,6] 36 true,
 oN 40 (.pick (.t 36) (.t 39) (cB false)) [6,9],
 oN 41 (.mv (.t 40)) [10,6],
 oG 42 (.mv (.t 5)) [11] 41 true,
 oG 43 (.mv (.t 8)) [11] 41 true,
 oG 44 (.bin .eql (.t 42) (.t 43)) [12,13,11] 41 true,
 oN 45 (.pick (.t 41) (.t 44) (cB false)) [11,14],
 oN 2 (.mv (.t 45)) [15,11,0,1,2,3,4,5,6,7,8,9,10,11,12,13,14,15]])
 .ret)))))
theorem Trydp4 : (Tryd.f4.body.map (prep Tryd.prog 46)) = some Trydc4 := by kernel_rfl
def Trydc5 : ACode :=
 (.seq (.reg [
 oN 4 (.box (.t 1)) [],
 oN 5 (.box (.t 2)) [],
 oN 6 (.mv (cB false)) []])
 (.seq (.seq (.reg [
 oN 17 (.mv (.t 0)) [],
 oN 18 (.call 11 [(.t 17)]) [0],
 oN 19 (.un .not (.t 18)) [1],
 oN 20 (.mv (.t 19)) [2,1],
 oG 21 (.ld 2 true (.t 4)) [3] 20 false,
 oG 22 (.ld 2 true (.t 5)) [3] 20 false,
 oG 23 (.bslice 2 [(.t 21), (.t 22)]) [4,5,3] 20 false,
 oG 24 (.call 11 [(.t 23)]) [6,3,3] 20 false,
 oG 25 (.un .not (.t 24)) [7,3] 20 false,
 oN 26 (.pick (.t 20) (cB true) (.t 25)) [3,8]])
 (.cond (.t 26)
 (.seq (.reg [
 oN 27 (.call 12 []) [],
 oN 6 (.mv (.t 27)) [0,0,0]])
 .ret)
 .skip))
 (.seq (.reg [
 oN 29 (.mv (.t 0)) [],
 oN 30 (.call 20 [(.t 29)]) [0],
 oN 28 (.mv (.t 30)) [1],
 oN 31 (.ext (.t 28) 0) [2],
 oN 32 (.ext (.t 28) 1) [2],
 oN 7 (.mv (.t 31)) [3,1,0,1,2,3],
 oN 8 (.mv (.t 32)) [4,5,0,1,2,3,4,5]])
 (.seq (.reg [
 oN 34 (.mv (.t 0)) [],
 oN 35 (.call 21 [(.t 34)]) [0],
 oN 33 (.mv (.t 35)) [1],
 oN 36 (.ext (.t 33) 0) [2],
 oN 37 (.ext (.t 33) 1) [2],
 oN 9 (.mv (.t 36)) [3,1,0,1,2,3],
 oN 10 (.mv (.t 37)) [4,5,0,1,2,3,4,5]])
 (.seq (.reg [
 oN 39 (.ld 2 true (.t 4)) [],
 oN 40 (.ld 2 true (.t 5)) [],
 oN 41 (.call 22 [(.t 39), (.t 40)]) [0,1],
 oN 38 (.mv (.t 41)) [2],
 oN 42 (.ext (.t 38) 0) [3],
 oN 43 (.ext (.t 38) 1) [3],
 oN 44 (.ext (.t 38) 2) [3],
 oN 11 (.mv (.t 42)) [4,2,0,1,2,3,4],
 oN 12 (.mv (.t 43)) [5,7,0,1,2,3,4,5,7],
 oN 13 (.mv (.t 44)) [6,8,0,1,2,3,4,5,6,7,8]])
 (.seq (.reg [
 oN 46 (.ld 2 true (.t 4)) [],
 oN 47 (.ld 2 true (.t 5)) [],
 oN 48 (.call 23 [(.t 46), (.t 47)]) [0,1],
 oN 45 (.mv (.t 48)) [2],
 oN 49 (.ext (.t 45) 0) [3],
 oN 50 (.ext (.t 45) 1) [3],
 oN 51 (.ext (.t 45) 2) [3],
 oN 14 (.mv (.t 49)) [4,2,0,1,2,3,4],
 oN 15 (.mv (.t 50)) [5,7,0,1,2,3,4,5,7],
 oN 16 (.mv (.t 51)) [6,8,0,1,2,3,4,5,6,7,8]])
 (.seq (.reg [
 oN 52 (.call 12 []) [],
 oN 53 (.mv (.t 52)) [0,0],
 oG 54 (.mv (.t 7)) [1] 53 true,
 oG 55 (.mv (.t 9)) [1] 53 true,
 oG 56 (.bin .eql (.t 54) (.t 55)) [2,3,1] 53 true,
 oN 57 (.pick (.t 53) (.t 56) (cB false)) [1,4],
 oN 58 (.mv (.t 57)) [5,1],
 oG 59 (.mv (.t 8)) [6] 58 true,
 oG 60 (.mv (.t 10)) [6] 58 true,
 oG 61 (.bin .eql (.t 59) (.t 60)) [7,8,6] 58 true,
 oN 62 (.pick (.t 58) (.t 61) (cB false)) [6,9],
 oN 63 (.mv (.t 62)) [10,6],
 oG 64 (.mv (.t 11)) [11] 63 true,
 oG 65 (.mv (.t 14)) [11] 63 true,
 oG 66 (.call 24 [(.t 64), (.t 65)]) [12,13,11,11] 63 true,
 oN 67 (.pick (.t 63) (.t 66) (cB false)) [11,14],
 oN 68 (.mv (.t 67)) [15,14],
 oG 69 (.mv (.t 12)) [16] 68 true,
 oG 70 (.mv (.t 15)) [16] 68 true,
 oG 71 (.eqb false (.t 69) (.t 70)) [17,18,16] 68 true,
 oN 72 (.pick (.t 68) (.t 71) (cB false)) [16,19],
 oN 73 (.mv (.t 72)) [20,16],
 oG 74 (.mv (.t 13)) [21] 73 true,
 oG 75 (.mv (.t 16)) [21] 73 true,
 oG 76 (.bin .eql (.t 74) (.t 75)) [22,23,21] 73 true,
 oN 77 (.pick (.t 73) (.t 76) (cB false)) [21,24],
 oN 6 (.mv (.t 77)) [25,21,0,1,2,3,4,5,6,7,8,9,10,11,12,13,14,15,16,17,18,19,20,21,22,23,24,25]])
 .ret)))))))
theorem Trydp5 : (Tryd.f5.body.map (prep Tryd.prog 78)) = some Trydc5 := by kernel_rfl
def Trydc6 : ACode :=
 (.seq (.reg [
 oN 2 (.mv (cB false)) []])
 (.seq (.seq (.reg [
 oN 13 (.mv (.t 0)) [],
 oN 14 (.lens (.t 13)) [0],
 oN 15 (.bin .gtr (.t 14) (cI 1000)) [1]])
 (.cond (.t 15)
 (.seq (.reg [
 oN 16 (.call 12 []) [],
 oN 2 (.mv (.t 16)) [0,0,0]])
 .ret)
 .skip))
 (.seq (.reg [
 oN 18 (.mv (.t 0)) [],
 oN 19 (.call 17 [(.t 18)]) [0],
 oN 17 (.mv (.t 19)) [1],
 oN 20 (.ext (.t 17) 0) [2],
 oN 21 (.ext (.t 17) 1) [2],
 oN 22 (.ext (.t 17) 2) [2],
 oN 3 (.mv (.t 20)) [3,1,0,1,2,3],
 oN 4 (.mv (.t 21)) [4,6,0,1,2,3,4,6],
 oN 5 (.mv (.t 22)) [5,7,0,1,2,3,4,5,6,7]])
 (.seq (.seq (.reg [
 oN 23 (.mv (.t 5)) [],
 oN 24 (.bin .neq (.t 23) (cI 0)) [0]])
 (.cond (.t 24)
 (.seq (.reg [
 oN 25 (.mv (.t 3)) [],
 oN 26 (.len (.t 25)) [0],
 oN 27 (.bin .eql (.t 26) (cI 0)) [1],
 oN 28 (.mv (.t 27)) [2],
 oG 29 (.mv (.t 4)) [3] 28 true,
 oG 30 (.bin .geq (.t 29) (cI 0)) [4,3] 28 true,
 oN 31 (.pick (.t 28) (.t 30) (cB false)) [3,5],
 oN 32 (.mv (.t 31)) [6,3],
 oG 33 (.mv (.t 4)) [7] 32 true,
 oG 34 (.mv (.t 0)) [7] 32 true,
 oG 35 (.lens (.t 34)) [9,7] 32 true,
 oG 36 (.bin .leq (.t 33) (.t 35)) [8,10,7] 32 true,
 oN 37 (.pick (.t 32) (.t 36) (cB false)) [7,11],
 oN 38 (.mv (.t 37)) [12,7],
 oG 39 (.call 12 []) [13,13] 38 true,
 oN 40 (.pick (.t 38) (.t 39) (cB false)) [13,14],
 oN 2 (.mv (.t 40)) [15,14,0,1,2,3,4,5,6,7,8,9,10,11,12,13,14,15]])
 .ret)
 .skip))
 (.seq (.reg [
 oN 42 (.mv (.t 3)) [],
 oN 43 (.call 20 [(.t 42)]) [0],
 oN 41 (.mv (.t 43)) [1],
 oN 44 (.ext (.t 41) 0) [2],
 oN 45 (.ext (.t 41) 1) [2],
 oN 6 (.mv (.t 44)) [3,1,0,1,2,3],
 oN 7 (.mv (.t 45)) [4,5,0,1,2,3,4,5]])
 (.seq (.reg [
 oN 47 (.mv (.t 6)) [],
 oN 48 (.call 17 [(.t 47)]) [0],
 oN 46 (.mv (.t 48)) [1],
 oN 49 (.ext (.t 46) 0) [2],
 oN 50 (.ext (.t 46) 1) [2],
 oN 51 (.ext (.t 46) 2) [2],
 oN 8 (.mv (.t 49)) [3,1,0,1,2,3],
 oN 9 (.mv (.t 50)) [4,6,0,1,2,3,4,6],
 oN 10 (.mv (.t 51)) [5,7,0,1,2,3,4,5,6,7]])
 (.seq (.reg [
 oN 53 (.mv (.t 8)) [],
 oN 54 (.call 20 [(.t 53)]) [0],
 oN 52 (.mv (.t 54)) [1],
 oN 55 (.ext (.t 52) 0) [2],
 oN 56 (.ext (.t 52) 1) [2],
 oN 11 (.mv (.t 55)) [3,1,0,1,2,3],
 oN 12 (.mv (.t 56)) [4,5,0,1,2,3,4,5]])
 (.seq (.reg [
 oN 57 (.call 12 []) [],
 oN 58 (.mv (.t 57)) [0,0],
 oG 59 (.mv (.t 4)) [1] 58 true,
 oG 60 (.bin .eql (.t 59) (cI 0)) [2,1] 58 true,
 oN 61 (.pick (.t 58) (.t 60) (cB false)) [1,3],
 oN 62 (.mv (.t 61)) [4,1],
 oG 63 (.mv (.t 7)) [5] 62 true,
 oG 64 (.mv (.t 10)) [5] 62 true,
 oG 65 (.bin .add (.t 63) (.t 64)) [6,7,5] 62 true,
 oG 66 (.mv (.t 12)) [5] 62 true,
 oG 67 (.bin .add (.t 65) (.t 66)) [8,9,5] 62 true,
 oG 68 (.bin .eql (.t 67) (cI 0)) [10,5] 62 true,
 oN 69 (.pick (.t 62) (.t 68) (cB false)) [5,11],
 oN 70 (.mv (.t 69)) [12,5],
 oG 71 (.mv (.t 3)) [13] 70 true,
 oG 72 (.call 25 [(.t 71)]) [14,13,13] 70 true,
 oG 73 (.bin .eql (.t 72) (cI 0)) [15,13] 70 true,
 oN 74 (.pick (.t 70) (.t 73) (cB false)) [13,16],
 oN 75 (.mv (.t 74)) [17,15],
 oG 76 (.mv (.t 3)) [18] 75 true,
 oG 77 (.mv (.t 8)) [18] 75 true,
 oG 78 (.call 19 [(.t 76), (.t 77)]) [19,20,18,18] 75 true,
 oN 79 (.pick (.t 75) (.t 78) (cB false)) [18,21],
 oN 80 (.mv (.t 79)) [22,21],
 oG 81 (.mv (.t 6)) [23] 80 true,
 oG 82 (.mv (.t 11)) [23] 80 true,
 oG 83 (.bin .eql (.t 81) (.t 82)) [24,25,23] 80 true,
 oN 84 (.pick (.t 80) (.t 83) (cB false)) [23,26],
 oN 2 (.mv (.t 84)) [27,23,0,1,2,3,4,5,6,7,8,9,10,11,12,13,14,15,16,17,18,19,20,21,22,23,24,25,26,27]])
 .ret))))))))
theorem Trydp6 : (Tryd.f6.body.map (prep Tryd.prog 85)) = some Trydc6 := by kernel_rfl
def Trydc7 : ACode :=
 (.seq (.reg [
 oN 4 (.mv (cB false)) []])
 (.seq (.seq (.reg [
 oN 9 (.mv (.t 0)) [],
 oN 10 (.call 11 [(.t 9)]) [0],
 oN 11 (.un .not (.t 10)) [1]])
 (.cond (.t 11)
 (.seq (.reg [
 oN 12 (.call 12 []) [],
 oN 4 (.mv (.t 12)) [0,0,0]])
 .ret)
 .skip))
 (.seq (.reg [
 oN 14 (.mv (.t 0)) [],
 oN 15 (.mv (.t 1)) [],
 oN 16 (.call 26 [(.t 14), (.t 15)]) [0,1],
 oN 13 (.mv (.t 16)) [2],
 oN 17 (.ext (.t 13) 0) [3],
 oN 18 (.ext (.t 13) 1) [3],
 oN 5 (.mv (.t 17)) [4,2,0,1,2,3,4],
 oN 6 (.mv (.t 18)) [5,6,0,1,2,3,4,5,6]])
 (.seq (.reg [
 oN 20 (.mv (.t 0)) [],
 oN 21 (.mv (.t 1)) [],
 oN 22 (.call 27 [(.t 20), (.t 21)]) [0,1],
 oN 19 (.mv (.t 22)) [2],
 oN 23 (.ext (.t 19) 0) [3],
 oN 24 (.ext (.t 19) 1) [3],
 oN 7 (.mv (.t 23)) [4,2,0,1,2,3,4],
 oN 8 (.mv (.t 24)) [5,6,0,1,2,3,4,5,6]])
 (.seq (.reg [
 oN 25 (.call 12 []) [],
 oN 26 (.mv (.t 25)) [0,0],
 oG 27 (.mv (.t 0)) [1] 26 true,
 oG 28 (.call 25 [(.t 27)]) [2,1,1] 26 true,
 oG 29 (.mv (.t 0)) [1] 26 true,
 oG 30 (.call 28 [(.t 29)]) [4,3,1] 26 true,
 oG 31 (.bin .eql (.t 28) (.t 30)) [3,5,1] 26 true,
 oN 32 (.pick (.t 26) (.t 31) (cB false)) [1,6],
 oN 33 (.mv (.t 32)) [7,5],
 oG 34 (.mv (.t 5)) [8] 33 true,
 oG 35 (.mv (.t 7)) [8] 33 true,
 oG 36 (.bin .eql (.t 34) (.t 35)) [9,10,8] 33 true,
 oN 37 (.pick (.t 33) (.t 36) (cB false)) [8,11],
 oN 38 (.mv (.t 37)) [12,8],
 oG 39 (.mv (.t 6)) [13] 38 true,
 oG 40 (.mv (.t 8)) [13] 38 true,
 oG 41 (.bin .eql (.t 39) (.t 40)) [14,15,13] 38 true,
 oN 42 (.pick (.t 38) (.t 41) (cB false)) [13,16],
 oN 4 (.mv (.t 42)) [17,13,0,1,2,3,4,5,6,7,8,9,10,11,12,13,14,15,16,17]])
 .ret)))))
theorem Trydp7 : (Tryd.f7.body.map (prep Tryd.prog 43)) = some Trydc7 := by kernel_rfl
def Trydc8 : ACode :=
 (.seq (.reg [
 oN 4 (.mv (cB false)) []])
 (.seq (.seq (.reg [
 oN 16 (.mv (.t 0)) [],
 oN 17 (.call 11 [(.t 16)]) [0],
 oN 18 (.un .not (.t 17)) [1],
 oN 19 (.mv (.t 18)) [2,1],
 oG 20 (.mv (.t 0)) [3] 19 false,
 oG 21 (.call 25 [(.t 20)]) [4,3,3] 19 false,
 oG 22 (.bin .neq (.t 21) (cI 0)) [5,3] 19 false,
 oN 23 (.pick (.t 19) (cB true) (.t 22)) [3,6]])
 (.cond (.t 23)
 (.seq (.reg [
 oN 24 (.call 12 []) [],
 oN 4 (.mv (.t 24)) [0,0,0]])
 .ret)
 .skip))
 (.seq (.reg [
 oN 5 (.mv (cB false)) []])
 (.seq (.seq (.reg [
 oN 25 (.mv (.t 0)) [],
 oN 26 (.len (.t 25)) [0],
 oN 27 (.mv (cI 0)) []])
 (.block 0
 (.loop
 (.seq (.reg [
 oN 28 (.bin .lss (.t 27) (.t 26)) []])
 (.seq (.cond (.t 28)
 .skip
 (.exit 0))
 (.seq (.block 1
 (.seq (.reg [
 oN 29 (.mv (.t 27)) [],
 oN 30 (.ia 2 (.t 25) (.t 27)) [],
 oN 31 (.ld 2 true (.t 30)) [1],
 oN 7 (.box (.c (.agg [(.val (.string ⟨#[]⟩)), vN]))) [],
 oN 6 (.mv (.t 29)) [0,0,1,2,3],
 eN (.st 2 (.t 7) (.t 31)) [3,2,4,0,1,2,3,4]])
 (.seq (.reg [
 oN 33 (.mv (.t 0)) [],
 oN 34 (.fa 0 (.t 7)) [],
 oN 35 (.ld 1 false (.t 34)) [1],
 oN 36 (.call 26 [(.t 33), (.t 35)]) [0,2],
 oN 32 (.mv (.t 36)) [3],
 oN 37 (.ext (.t 32) 0) [4],
 oN 38 (.ext (.t 32) 1) [4],
 oN 8 (.mv (.t 37)) [5,3,0,1,2,3,4,5],
 oN 9 (.mv (.t 38)) [6,7,0,1,2,3,4,5,6,7]])
 (.seq (.seq (.reg [
 oN 39 (.mv (.t 9)) [],
 oN 40 (.bin .neq (.t 39) (cI 0)) [0],
 oN 41 (.mv (.t 40)) [1],
 oG 42 (.mv (.t 8)) [2] 41 false,
 oG 43 (.mv (.t 6)) [2] 41 false,
 oG 44 (.bin .neq (.t 42) (.t 43)) [3,4,2] 41 false,
 oN 45 (.pick (.t 41) (cB true) (.t 44)) [2,5]])
 (.cond (.t 45)
 (.seq (.reg [
 oN 4 (.mv (cB false)) []])
 .ret)
 .skip))
 (.seq (.reg [
 oN 46 (.mv (.t 5)) [],
 oN 47 (.mv (.t 46)) [0],
 oG 48 (.fa 0 (.t 7)) [1] 47 false,
 oG 49 (.ld 1 false (.t 48)) [2,1] 47 false,
 oG 50 (.mv (.t 1)) [1] 47 false,
 oG 51 (.bin .eql (.t 49) (.t 50)) [3,4,1] 47 false,
 oN 52 (.pick (.t 47) (cB true) (.t 51)) [1,5],
 oN 5 (.mv (.t 52)) [6,1,0,1,2,3,4,5,6]])
 (.seq (.reg [
 oN 53 (.fa 1 (.t 7)) [],
 oN 54 (.ld 1 false (.t 53)) [0],
 oN 55 (.len (.t 54)) [1],
 oN 56 (.mv (cI 0)) []])
 (.block 2
 (.loop
 (.seq (.reg [
 oN 57 (.bin .lss (.t 56) (.t 55)) []])
 (.seq (.cond (.t 57)
 .skip
 (.exit 2))
 (.seq (.block 3
 (.seq (.reg [
 oN 58 (.mv (.t 56)) [],
 oN 59 (.ia 2 (.t 54) (.t 56)) [],
 oN 60 (.ld 2 true (.t 59)) [1],
 oN 11 (.box (.c (.agg [(.val (.string ⟨#[]⟩)), (vI 0)]))) [],
 oN 10 (.mv (.t 58)) [0,0,1,2,3],
 eN (.st 2 (.t 11) (.t 60)) [3,2,4,0,1,2,3,4]])
 (.seq (.reg [
 oN 62 (.ld 2 true (.t 7)) [],
 oN 63 (.fa 0 (.t 11)) [],
 oN 64 (.ld 1 false (.t 63)) [1],
 oN 65 (.call 13 [(.t 62), (.t 64)]) [0,2],
 oN 61 (.mv (.t 65)) [3],
 oN 66 (.ext (.t 61) 0) [4],
 oN 67 (.ext (.t 61) 1) [4],
 oN 12 (.mv (.t 66)) [5,3,0,1,2,3,4,5],
 oN 13 (.mv (.t 67)) [6,7,0,1,2,3,4,5,6,7]])
 (.seq (.reg [
 oN 68 (.mv (.t 13)) [],
 oN 69 (.bin .neq (.t 68) (cI 0)) [0],
 oN 70 (.mv (.t 69)) [1],
 oG 71 (.mv (.t 12)) [2] 70 false,
 oG 72 (.mv (.t 10)) [2] 70 false,
 oG 73 (.bin .neq (.t 71) (.t 72)) [3,4,2] 70 false,
 oN 74 (.pick (.t 70) (cB true) (.t 73)) [2,5]])
 (.cond (.t 74)
 (.seq (.reg [
 oN 4 (.mv (cB false)) []])
 .ret)
 .skip)))))
 (.reg [
 oN 75 (.bin .add (.t 56) (cI 1)) [],
 oN 56 (.mv (.t 75)) [0]]))))))))))))
 (.reg [
 oN 76 (.bin .add (.t 27) (cI 1)) [],
 oN 27 (.mv (.t 76)) [0]])))))))
 (.seq (.reg [
 oN 78 (.mv (.t 0)) [],
 oN 79 (.mv (.t 1)) [],
 oN 80 (.call 26 [(.t 78), (.t 79)]) [0,1],
 oN 77 (.mv (.t 80)) [2],
 oN 81 (.ext (.t 77) 0) [3],
 oN 82 (.ext (.t 77) 1) [3],
 oN 14 (.mv (.t 81)) [4,2,0,1,2,3,4],
 oN 15 (.mv (.t 82)) [5,6,0,1,2,3,4,5,6]])
 (.seq (.reg [
 oN 83 (.call 12 []) [],
 oN 84 (.mv (.t 83)) [0,0],
 oG 85 (.mv (.t 15)) [1] 84 true,
 oG 86 (.bin .eql (.t 85) (cI 0)) [2,1] 84 true,
 oG 87 (.mv (.t 5)) [1] 84 true,
 oG 88 (.eqb false (.t 86) (.t 87)) [3,4,1] 84 true,
 oN 89 (.pick (.t 84) (.t 88) (cB false)) [1,5],
 oN 90 (.mv (.t 89)) [6,1],
 oG 91 (.mv (.t 15)) [7] 90 true,
 oG 92 (.bin .eql (.t 91) (cI 6)) [8,7] 90 true,
 oG 93 (.mv (.t 5)) [7] 90 true,
 oG 94 (.eqb true (.t 92) (.t 93)) [9,10,7] 90 true,
 oN 95 (.pick (.t 90) (.t 94) (cB false)) [7,11],
 oN 4 (.mv (.t 95)) [12,7,0,1,2,3,4,5,6,7,8,9,10,11,12]])
 .ret))))))
theorem Trydp8 : (Tryd.f8.body.map (prep Tryd.prog 96)) = some Trydc8 := by kernel_rfl
def Trydc11 : ACode :=
 (.seq (.reg [
 oN 2 (.mv (cB false)) []])
 (.seq (.seq (.reg [
 oN 3 (.mv (cI 0)) []])
 (.block 0
 (.loop
 (.seq (.seq (.reg [
 oN 4 (.mv (.t 3)) [],
 oN 5 (.mv (.t 0)) [],
 oN 6 (.len (.t 5)) [1],
 oN 7 (.bin .lss (.t 4) (.t 6)) [0,2]])
 (.cond (.t 7)
 .skip
 (.exit 0)))
 (.seq (.block 1
 (.seq (.reg [
 oN 10 (.mv (.t 0)) [],
 oN 11 (.mv (.t 3)) [],
 oN 12 (.ia 2 (.t 10) (.t 11)) [0,1],
 oN 13 (.fa 1 (.t 12)) [2],
 oN 14 (.ld 1 false (.t 13)) [3],
 oN 15 (.len (.t 14)) [4],
 oN 16 (.bin .gtr (.t 15) (cI 20)) [5],
 oN 17 (.mv (.t 16)) [6],
 oG 18 (.mv (.t 0)) [7] 17 false,
 oG 19 (.mv (.t 3)) [7] 17 false,
 oG 20 (.ia 2 (.t 18) (.t 19)) [8,9,7] 17 false,
 oG 21 (.fa 0 (.t 20)) [10,7] 17 false,
 oG 22 (.ld 1 false (.t 21)) [11,7] 17 false,
 oG 23 (.lens (.t 22)) [12,7] 17 false,
 oG 24 (.bin .gtr (.t 23) (cI 100)) [13,7] 17 false,
 oN 25 (.pick (.t 17) (cB true) (.t 24)) [7,14]])
 (.cond (.t 25)
 (.seq (.reg [
 oN 2 (.mv (cB false)) []])
 .ret)
 .skip)))
 (.reg [
 oN 8 (.mv (.t 3)) [],
 oN 9 (.bin .add (.t 8) (cI 1)) [0],
 oN 3 (.mv (.t 9)) [1,0,1]]))))))
 (.seq (.reg [
 oN 26 (.mv (.t 0)) [],
 oN 27 (.len (.t 26)) [0],
 oN 28 (.bin .leq (.t 27) (cI 20)) [1],
 oN 2 (.mv (.t 28)) [2,0,1,2]])
 .ret)))
theorem Trydp11 : (Tryd.f11.body.map (prep Tryd.prog 29)) = some Trydc11 := by kernel_rfl
def Trydc12 : ACode :=
 (.seq (.reg [
 oN 0 (.mv (cB false)) []])
 (.seq (.reg [
 oN 18 (.call 17 [(.c (.val (.string ⟨#[116,114,97,100,101,32,115,121,109,98,111,108,58,115,116,114,105,110,103,32,112,114,105,99,101,58,105,110,116,10,99,108,111,99,107,10]⟩)))]) [],
 oN 17 (.mv (.t 18)) [0],
 oN 19 (.ext (.t 17) 0) [1],
 oN 20 (.ext (.t 17) 1) [1],
 oN 21 (.ext (.t 17) 2) [1],
 oN 1 (.mv (.t 19)) [2,0,0,1,2],
 oN 2 (.mv (.t 20)) [3,5,0,1,2,3,5],
 oN 3 (.mv (.t 21)) [4,6,0,1,2,3,4,5,6]])
 (.seq (.seq (.reg [
 oN 22 (.mv (.t 3)) [],
 oN 23 (.bin .neq (.t 22) (cI 0)) [0],
 oN 24 (.mv (.t 23)) [1],
 oG 25 (.mv (.t 1)) [2] 24 false,
 oG 26 (.len (.t 25)) [3,2] 24 false,
 oG 27 (.bin .neq (.t 26) (cI 2)) [4,2] 24 false,
 oN 28 (.pick (.t 24) (cB true) (.t 27)) [2,5]])
 (.cond (.t 28)
 (.seq (.reg [
 oN 0 (.mv (cB false)) []])
 .ret)
 .skip))
 (.seq (.reg [
 oN 30 (.mv (.t 1)) [],
 oN 31 (.ia 2 (.t 30) (cI 0)) [0],
 oN 32 (.ld 2 true (.t 31)) [1],
 oN 33 (.call 13 [(.t 32), (.c (.val (.string ⟨#[112,114,105,99,101]⟩)))]) [2],
 oN 29 (.mv (.t 33)) [3],
 oN 34 (.ext (.t 29) 0) [4],
 oN 35 (.ext (.t 29) 1) [4],
 oN 4 (.mv (.t 34)) [5,3,0,1,2,3,4,5],
 oN 5 (.mv (.t 35)) [6,7,0,1,2,3,4,5,6,7]])
 (.seq (.reg [
 oN 37 (.mv (.t 1)) [],
 oN 38 (.call 20 [(.t 37)]) [0],
 oN 36 (.mv (.t 38)) [1],
 oN 39 (.ext (.t 36) 0) [2],
 oN 40 (.ext (.t 36) 1) [2],
 oN 6 (.mv (.t 39)) [3,1,0,1,2,3],
 oN 7 (.mv (.t 40)) [4,5,0,1,2,3,4,5]])
 (.seq (.reg [
 oN 8 (.mv (.c (.fn 33 []))) []])
 (.seq (.reg [
 oN 41 (.build [(.val (.string ⟨#[]⟩)), (vI 0)] [(0, 1, (.c (.val (.string ⟨#[112,114,105,99,101]⟩))))]) [],
 oN 42 (.build [(.val (.string ⟨#[]⟩)), (vI 0)] [(0, 1, (.c (.val (.string ⟨#[115,121,109,98,111,108]⟩)))), (1, 1, (cI 2))]) [],
 oN 9 (.box (.c (.agg [(.val (.string ⟨#[]⟩)), (vI 0)]))) [],
 oN 10 (.box (.c (.agg [(.val (.string ⟨#[]⟩)), (vI 0)]))) [],
 eN (.st 2 (.t 9) (.t 41)) [2,0,0,2,3],
 eN (.st 2 (.t 10) (.t 42)) [3,1,4,0,1,2,3,4]])
 (.seq (.draw [
 oN 44 (.mv (.t 1)) [],
 oN 45 (.ia 2 (.t 44) (cI 0)) [0],
 oN 46 (.ld 2 true (.t 45)) [1],
 oN 47 (.ld 2 true (.t 9)) [],
 oN 48 (.ld 2 true (.t 10)) [],
 oN 49 (.bslice 2 [(.t 47), (.t 48)]) [3,4],
 oN 50 (.build [(.val (.string ⟨#[]⟩)), vN] [(0, 1, (.c (.val (.string ⟨#[116]⟩)))), (1, 1, (.t 49))]) [5],
 oN 51 (.call 22 [(.t 46), (.t 50)]) [2,6],
 oN 43 (.mv (.t 51)) [7],
 oN 52 (.ext (.t 43) 0) [8],
 oN 53 (.ext (.t 43) 1) [8],
 oN 54 (.ext (.t 43) 2) [8],
 oN 11 (.mv (.t 52)) [9,7,0,1,2,3,4,5,6,7,8,9],
 oN 12 (.mv (.t 53)) [10,12,0,1,2,3,4,5,6,7,8,9,10,12],
 oN 13 (.mv (.t 54)) [11,13,0,1,2,3,4,5,6,7,8,9,10,11,12,13]])
 (.seq (.reg [
 oN 56 (.mv (.t 1)) [],
 oN 57 (.ia 2 (.t 56) (cI 0)) [0],
 oN 58 (.ld 2 true (.t 57)) [1],
 oN 59 (.build [(.val (.string ⟨#[]⟩)), (vI 0)] [(0, 1, (.c (.val (.string ⟨#[112,114,105,99,101]⟩)))), (1, 1, (cI 1))]) [],
 oN 60 (.bslice 2 [(.t 59)]) [3],
 oN 61 (.build [(.val (.string ⟨#[]⟩)), vN] [(0, 1, (.c (.val (.string ⟨#[116]⟩)))), (1, 1, (.t 60))]) [4],
 oN 62 (.call 22 [(.t 58), (.t 61)]) [2,5],
 oN 55 (.mv (.t 62)) [6],
 oN 63 (.ext (.t 55) 0) [7],
 oN 64 (.ext (.t 55) 1) [7],
 oN 65 (.ext (.t 55) 2) [7],
 oN 14 (.mv (.t 63)) [8,6,0,1,2,3,4,5,6,7,8],
 oN 15 (.mv (.t 64)) [9,11,0,1,2,3,4,5,6,7,8,9,11],
 oN 16 (.mv (.t 65)) [10,12,0,1,2,3,4,5,6,7,8,9,10,11,12]])
 (.seq (.reg [
 oN 66 (.mv (.t 5)) [],
 oN 67 (.mv (.t 7)) [],
 oN 68 (.bin .add (.t 66) (.t 67)) [0,1],
 oN 69 (.mv (.t 13)) [],
 oN 70 (.bin .add (.t 68) (.t 69)) [2,3],
 oN 71 (.mv (.t 16)) [],
 oN 72 (.bin .add (.t 70) (.t 71)) [4,5],
 oN 73 (.bin .eql (.t 72) (cI 0)) [6],
 oN 74 (.mv (.t 73)) [7],
 oG 75 (.mv (.t 4)) [8] 74 true,
 oG 76 (.bin .eql (.t 75) (cI 1)) [9,8] 74 true,
 oN 77 (.pick (.t 74) (.t 76) (cB false)) [8,10],
 oN 78 (.mv (.t 77)) [11,8],
 oG 79 (.mv (.t 6)) [12] 78 true,
 oG 80 (.bin .eql (.t 79) (.c (.val (.string ⟨#[116,114,97,100,101,32,115,121,109,98,111,108,58,115,116,114,105,110,103,32,112,114,105,99,101,58,105,110,116,10,99,108,111,99,107,10]⟩)))) [13,12] 78 true,
 oN 81 (.pick (.t 78) (.t 80) (cB false)) [12,14],
 oN 82 (.mv (.t 81)) [15,12],
 oG 83 (.mv (.t 12)) [16] 82 true,
 oN 84 (.pick (.t 82) (.t 83) (cB false)) [16,17],
 oN 85 (.mv (.t 84)) [18,16],
 oG 86 (.mv (.t 11)) [19] 85 true,
 oG 87 (.bslice 1 [(cI 1), (cI 0)]) [19] 85 true,
 oG 88 (.call 24 [(.t 86), (.t 87)]) [20,21,19,19] 85 true,
 oN 89 (.pick (.t 85) (.t 88) (cB false)) [19,22],
 oN 90 (.mv (.t 89)) [23,22],
 oG 91 (.mv (.t 15)) [24] 90 true,
 oG 92 (.un .not (.t 91)) [25,24] 90 true,
 oN 93 (.pick (.t 90) (.t 92) (cB false)) [24,26],
 oN 94 (.mv (.t 93)) [27,24],
 oG 95 (.mv (.t 8)) [28] 94 true,
 oG 96 (.callv (.t 95) [(.c (.val (.string ⟨#[116,114,97,100,101,32,112,114,105,99,101,58,105,110,116,32,112,114,105,99,101,58,98,111,111,108]⟩))), (cI 16), (cI 7)]) [29,28,28] 94 true,
 oN 97 (.pick (.t 94) (.t 96) (cB false)) [28,30],
 oN 98 (.mv (.t 97)) [31,30],
 oG 99 (.mv (.t 8)) [32] 98 true,
 oG 100 (.callv (.t 99) [(.c (.val (.string ⟨#[116,114,97,100,101,32,112,114,105,99,101]⟩))), (cI 6), (cI 4)]) [33,32,32] 98 true,
 oN 101 (.pick (.t 98) (.t 100) (cB false)) [32,34],
 oN 102 (.mv (.t 101)) [35,34],
 oG 103 (.mv (.t 8)) [36] 102 true,
 oG 104 (.callv (.t 103) [(.c (.val (.string ⟨#[116,114,97,100,101,32,116,105,109,101,58,105,110,116]⟩))), (cI 6), (cI 8)]) [37,36,36] 102 true,
 oN 105 (.pick (.t 102) (.t 104) (cB false)) [36,38],
 oN 106 (.mv (.t 105)) [39,38],
 oG 107 (.mv (.t 8)) [40] 106 true,
 oG 108 (.callv (.t 107) [(.c (.val (.string ⟨#[57,32,120]⟩))), (cI 0), (cI 8)]) [41,40,40] 106 true,
 oN 109 (.pick (.t 106) (.t 108) (cB false)) [40,42],
 oN 0 (.mv (.t 109)) [43,42,0,1,2,3,4,5,6,7,8,9,10,11,12,13,14,15,16,17,18,19,20,21,22,23,24,25,26,27,28,29,30,31,32,33,34,35,36,37,38,39,40,41,42,43]])
 .ret))))))))))
theorem Trydp12 : (Tryd.f12.body.map (prep Tryd.prog 110)) = some Trydc12 := by kernel_rfl
def Trydc13 : ACode :=
 (.seq (.reg [
 oN 2 (.box (.t 0)) [],
 oN 4 (.mv (cI 0)) [],
 oN 5 (.mv (cI 0)) [1]])
 (.seq (.seq (.reg [
 oN 8 (.ld 2 true (.t 2)) [],
 oN 9 (.call 15 [(.t 8)]) [0],
 oN 6 (.mv (.t 9)) [1,1,0,1]])
 (.seq (.reg [
 oN 10 (.mv (.t 6)) [],
 oN 11 (.bin .neq (.t 10) (cI 0)) [0]])
 (.cond (.t 11)
 (.seq (.reg [
 oN 12 (.mv (.t 6)) [],
 oN 4 (.mv (cI 0)) [],
 oN 5 (.mv (.t 12)) [0,1,0,1]])
 .ret)
 .skip)))
 (.seq (.seq (.reg [
 oN 13 (.fa 1 (.t 2)) [],
 oN 14 (.ld 1 false (.t 13)) [0],
 oN 15 (.mv (.t 1)) [],
 oN 16 (.call 34 [(.t 14), (.t 15)]) [1,2],
 oN 7 (.mv (.t 16)) [3,3,0,1,2,3]])
 (.seq (.reg [
 oN 17 (.mv (.t 7)) [],
 oN 18 (.bin .geq (.t 17) (cI 0)) [0]])
 (.cond (.t 18)
 (.seq (.reg [
 oN 19 (.mv (.t 7)) [],
 oN 4 (.mv (.t 19)) [0,0],
 oN 5 (.mv (cI 0)) [1,0,1]])
 .ret)
 .skip)))
 (.seq (.reg [
 oN 4 (.mv (cI 0)) [],
 oN 5 (.mv (cI 6)) [0,0]])
 .ret))))
theorem Trydp13 : (Tryd.f13.body.map (prep Tryd.prog 20)) = some Trydc13 := by kernel_rfl
def Trydc14 : ACode :=
 (.seq (.reg [
 oN 2 (.box (.t 0)) [],
 oN 4 (.mv (cI 0)) [],
 oN 5 (.mv (cI 0)) [1]])
 (.seq (.seq (.reg [
 oN 8 (.ld 2 true (.t 2)) [],
 oN 9 (.call 16 [(.t 8)]) [0],
 oN 6 (.mv (.t 9)) [1,1,0,1]])
 (.seq (.reg [
 oN 10 (.mv (.t 6)) [],
 oN 11 (.bin .neq (.t 10) (cI 0)) [0]])
 (.cond (.t 11)
 (.seq (.reg [
 oN 12 (.mv (.t 6)) [],
 oN 4 (.mv (cI 0)) [],
 oN 5 (.mv (.t 12)) [0,1,0,1]])
 .ret)
 .skip)))
 (.seq (.reg [
 oN 13 (.ld 2 true (.t 2)) [],
 oN 14 (.mv (.t 1)) [],
 oN 15 (.call 35 [(.t 13), (.t 14)]) [0,1],
 oN 7 (.mv (.t 15)) [2,2,0,1,2]])
 (.seq (.seq (.reg [
 oN 16 (.mv (.t 7)) [],
 oN 17 (.bin .lss (.t 16) (cI 0)) [0]])
 (.cond (.t 17)
 (.seq (.reg [
 oN 4 (.mv (cI 0)) [],
 oN 5 (.mv (cI 6)) [0,0]])
 .ret)
 .skip))
 (.seq (.reg [
 oN 18 (.mv (.t 7)) [],
 oN 4 (.mv (.t 18)) [0,0],
 oN 5 (.mv (cI 0)) [1,0,1]])
 .ret)))))
theorem Trydp14 : (Tryd.f14.body.map (prep Tryd.prog 19)) = some Trydc14 := by kernel_rfl
def Trydc15 : ACode :=
 (.seq (.reg [
 oN 1 (.box (.t 0)) [],
 oN 2 (.mv (cI 0)) []])
 (.seq (.seq (.reg [
 oN 6 (.fa 0 (.t 1)) [],
 oN 7 (.ld 1 false (.t 6)) [0],
 oN 8 (.call 36 [(.t 7)]) [1],
 oN 9 (.un .not (.t 8)) [2]])
 (.cond (.t 9)
 (.seq (.reg [
 oN 2 (.mv (cI 8)) []])
 .ret)
 .skip))
 (.seq (.seq (.reg [
 oN 10 (.fa 1 (.t 1)) [],
 oN 11 (.ld 1 false (.t 10)) [0],
 oN 12 (.len (.t 11)) [1],
 oN 13 (.bin .gtr (.t 12) (cI 8)) [2]])
 (.cond (.t 13)
 (.seq (.reg [
 oN 2 (.mv (cI 5)) []])
 .ret)
 .skip))
 (.seq (.reg [
 oN 14 (.mkmap) [],
 oN 3 (.mv (.t 14)) [0,0]])
 (.seq (.seq (.reg [
 oN 15 (.fa 1 (.t 1)) [],
 oN 16 (.ld 1 false (.t 15)) [0],
 oN 17 (.len (.t 16)) [1],
 oN 18 (.mv (cI 0)) []])
 (.block 0
 (.loop
 (.seq (.reg [
 oN 19 (.bin .lss (.t 18) (.t 17)) []])
 (.seq (.cond (.t 19)
 .skip
 (.exit 0))
 (.seq (.block 1
 (.seq (.reg [
 oN 20 (.ia 2 (.t 16) (.t 18)) [],
 oN 21 (.ld 2 true (.t 20)) [0],
 oN 5 (.box (.c (.agg [(.val (.string ⟨#[]⟩)), (vI 0)]))) [],
 eN (.st 2 (.t 5) (.t 21)) [2,1,0,1,2]])
 (.seq (.block 2
 (.seq (.reg [
 oN 23 (.fa 0 (.t 5)) [],
 oN 24 (.ld 1 false (.t 23)) [0],
 oN 25 (.call 37 [(.t 24)]) [1],
 oN 26 (.un .not (.t 25)) [2],
 oN 22 (.mv (.t 26)) [3,2]])
 (.cond (.t 22)
 (.seq (.reg [
 oN 2 (.mv (cI 8)) []])
 .ret)
 (.seq (.reg [
 oN 28 (.mv (.t 3)) [],
 oN 29 (.fa 0 (.t 5)) [],
 oN 30 (.ld 1 false (.t 29)) [1],
 oN 31 (.mlook true (.val (.bool false)) (.t 28) (.t 30) false) [0,2],
 oN 27 (.mv (.t 31)) [3]])
 (.cond (.t 27)
 (.seq (.reg [
 oN 2 (.mv (cI 7)) []])
 .ret)
 (.seq (.reg [
 oN 33 (.fa 1 (.t 5)) [],
 oN 34 (.ld 1 false (.t 33)) [0],
 oN 35 (.bin .lss (.t 34) (cI 0)) [1],
 oN 36 (.mv (.t 35)) [2],
 oG 37 (.fa 1 (.t 5)) [3] 36 false,
 oG 38 (.ld 1 false (.t 37)) [4,3] 36 false,
 oG 39 (.bin .geq (.t 38) (cI 3)) [5,3] 36 false,
 oN 40 (.pick (.t 36) (cB true) (.t 39)) [3,6],
 oN 32 (.mv (.t 40)) [7,3]])
 (.cond (.t 32)
 (.seq (.reg [
 oN 2 (.mv (cI 1)) []])
 .ret)
 .skip)))))))
 (.reg [
 oN 41 (.mv (.t 3)) [],
 oN 42 (.fa 0 (.t 5)) [],
 oN 43 (.ld 1 false (.t 42)) [1],
 eN (.mput true (.t 41) (.t 43) (cB true)) [0,2,0,1,2]]))))
 (.reg [
 oN 44 (.bin .add (.t 18) (cI 1)) [],
 oN 18 (.mv (.t 44)) [0]])))))))
 (.seq (.reg [
 oN 2 (.mv (cI 0)) []])
 .ret))))))
theorem Trydp15 : (Tryd.f15.body.map (prep Tryd.prog 45)) = some Trydc15 := by kernel_rfl
def Trydc16 : ACode :=
 (.seq (.reg [
 oN 1 (.box (.t 0)) [],
 oN 2 (.mv (cI 0)) []])
 (.seq (.seq (.reg [
 oN 5 (.fa 0 (.t 1)) [],
 oN 6 (.ld 1 false (.t 5)) [0],
 oN 7 (.call 38 [(.t 6)]) [1],
 oN 8 (.un .not (.t 7)) [2]])
 (.cond (.t 8)
 (.seq (.reg [
 oN 2 (.mv (cI 8)) []])
 .ret)
 .skip))
 (.seq (.seq (.reg [
 oN 9 (.fa 1 (.t 1)) [],
 oN 10 (.ld 1 false (.t 9)) [0],
 oN 11 (.len (.t 10)) [1],
 oN 12 (.bin .gtr (.t 11) (cI 8)) [2]])
 (.cond (.t 12)
 (.seq (.reg [
 oN 2 (.mv (cI 5)) []])
 .ret)
 .skip))
 (.seq (.seq (.reg [
 oN 3 (.mv (cI 0)) []])
 (.block 0
 (.loop
 (.seq (.seq (.reg [
 oN 13 (.mv (.t 3)) [],
 oN 14 (.fa 1 (.t 1)) [],
 oN 15 (.ld 1 false (.t 14)) [1],
 oN 16 (.len (.t 15)) [2],
 oN 17 (.bin .lss (.t 13) (.t 16)) [0,3]])
 (.cond (.t 17)
 .skip
 (.exit 0)))
 (.seq (.block 1
 (.seq (.reg [
 oN 20 (.fa 1 (.t 1)) [],
 oN 21 (.ld 1 false (.t 20)) [0],
 oN 22 (.mv (.t 3)) [],
 oN 23 (.ia 2 (.t 21) (.t 22)) [1,2],
 oN 24 (.ld 2 true (.t 23)) [3],
 oN 4 (.box (.c (.agg [(.val (.string ⟨#[]⟩)), (vI 0)]))) [],
 eN (.st 2 (.t 4) (.t 24)) [5,4,0,1,2,3,4,5]])
 (.seq (.seq (.reg [
 oN 25 (.fa 0 (.t 4)) [],
 oN 26 (.ld 1 false (.t 25)) [0],
 oN 27 (.call 38 [(.t 26)]) [1],
 oN 28 (.un .not (.t 27)) [2],
 oN 29 (.mv (.t 28)) [3,2],
 oG 30 (.fa 0 (.t 4)) [4] 29 false,
 oG 31 (.ld 1 false (.t 30)) [5,4] 29 false,
 oG 32 (.bin .eql (.t 31) (.c (.val (.string ⟨#[116,105,109,101]⟩)))) [6,4] 29 false,
 oN 33 (.pick (.t 29) (cB true) (.t 32)) [4,7]])
 (.cond (.t 33)
 (.seq (.reg [
 oN 2 (.mv (cI 8)) []])
 .ret)
 .skip))
 (.seq (.seq (.reg [
 oN 34 (.ld 2 true (.t 1)) [],
 oN 35 (.fa 0 (.t 4)) [],
 oN 36 (.ld 1 false (.t 35)) [1],
 oN 37 (.call 35 [(.t 34), (.t 36)]) [0,2],
 oN 38 (.mv (.t 3)) [],
 oN 39 (.bin .lss (.t 37) (.t 38)) [3,4]])
 (.cond (.t 39)
 (.seq (.reg [
 oN 2 (.mv (cI 7)) []])
 .ret)
 .skip))
 (.seq (.reg [
 oN 40 (.fa 1 (.t 4)) [],
 oN 41 (.ld 1 false (.t 40)) [0],
 oN 42 (.bin .neq (.t 41) (cI 0)) [1],
 oN 43 (.mv (.t 42)) [2],
 oG 44 (.fa 1 (.t 4)) [3] 43 true,
 oG 45 (.ld 1 false (.t 44)) [4,3] 43 true,
 oG 46 (.bin .neq (.t 45) (cI 1)) [5,3] 43 true,
 oN 47 (.pick (.t 43) (.t 46) (cB false)) [3,6],
 oN 48 (.mv (.t 47)) [7,3],
 oG 49 (.fa 1 (.t 4)) [8] 48 true,
 oG 50 (.ld 1 false (.t 49)) [9,8] 48 true,
 oG 51 (.bin .neq (.t 50) (cI 2)) [10,8] 48 true,
 oN 52 (.pick (.t 48) (.t 51) (cB false)) [8,11]])
 (.cond (.t 52)
 (.seq (.reg [
 oN 2 (.mv (cI 1)) []])
 .ret)
 .skip))))))
 (.reg [
 oN 18 (.mv (.t 3)) [],
 oN 19 (.bin .add (.t 18) (cI 1)) [0],
 oN 3 (.mv (.t 19)) [1,0,1]]))))))
 (.seq (.reg [
 oN 2 (.mv (cI 0)) []])
 .ret)))))
theorem Trydp16 : (Tryd.f16.body.map (prep Tryd.prog 53)) = some Trydc16 := by kernel_rfl
def Trydc17 : ACode :=
 (.seq (.reg [
 oN 2 (.box cN) [],
 oN 3 (.box (cI 0)) [],
 oN 4 (.box (cI 0)) []])
 (.seq (.seq (.reg [
 oN 15 (.mv (.t 0)) [],
 oN 16 (.lens (.t 15)) [0],
 oN 17 (.bin .gtr (.t 16) (cI 65536)) [1]])
 (.cond (.t 17)
 (.seq (.reg [
 eN (.st 1 (.t 2) cN) [],
 eN (.st 1 (.t 3) (cI 0)) [0,0],
 eN (.st 1 (.t 4) (cI 13)) [1,0,1]])
 .ret)
 .skip))
 (.seq (.reg [
 oN 5 (.box cN) []])
 (.seq (.reg [
 oN 6 (.box (cI 0)) [],
 eN (.st 1 (.t 6) (cI 0)) [0,0]])
 (.seq (.seq (.reg [
 oN 18 (.mv (.t 0)) [],
 oN 19 (.call 39 [(.t 18), (.c (.val (.string ⟨#[10]⟩)))]) [0],
 oN 20 (.len (.t 19)) [1],
 oN 21 (.mv (cI 0)) []])
 (.block 0
 (.loop
 (.seq (.reg [
 oN 22 (.bin .lss (.t 21) (.t 20)) []])
 (.seq (.cond (.t 22)
 .skip
 (.exit 0))
 (.seq (.block 1
 (.seq (.reg [
 oN 23 (.ia 1 (.t 19) (.t 21)) [],
 oN 24 (.ld 1 false (.t 23)) [0],
 oN 8 (.mv (.t 24)) [1,0,1]])
 (.seq (.reg [
 oN 9 (.box (cB false)) [],
 eN (.st 1 (.t 9) (cB true)) [0,0]])
 (.seq (.seq (.reg [
 oN 25 (.mv (.t 8)) [],
 oN 26 (.call 40 [(.t 25)]) [0]])
 (.block 2
 (.rfun (.t 26) [27,28]
 (.seq (.reg [
 oN 10 (.mv (.t 27)) []])
 (.reg [
 oN 11 (.mv (.t 28)) []]))
 (.block 3
 (.seq (.seq (.reg [
 oN 29 (.ld 1 false (.t 9)) []])
 (.cond (.t 29)
 (.seq (.reg [
 oN 31 (.ld 1 false (.t 5)) [],
 oN 32 (.mv (.t 11)) [],
 oN 33 (.call 41 [(.t 31), (.t 32)]) [0,1],
 oN 30 (.mv (.t 33)) [2],
 oN 34 (.ext (.t 30) 0) [3],
 oN 35 (.ext (.t 30) 1) [3],
 oN 12 (.mv (.t 34)) [4,2,0,1,2,3,4],
 oN 13 (.mv (.t 35)) [5,6,0,1,2,3,4,5,6]])
 (.seq (.seq (.reg [
 oN 36 (.mv (.t 13)) [],
 oN 37 (.bin .neq (.t 36) (cI 0)) [0]])
 (.cond (.t 37)
 (.seq (.draw [
 oN 38 (.ld 1 false (.t 6)) [],
 oN 39 (.mv (.t 10)) [],
 oN 40 (.bin .add (.t 38) (.t 39)) [0,1],
 oN 41 (.mv (.t 13)) [],
 eN (.st 1 (.t 2) cN) [],
 eN (.st 1 (.t 3) (.t 40)) [2,4,0,1,2,4],
 eN (.st 1 (.t 4) (.t 41)) [3,5,0,1,2,3,4,5]])
 .ret)
 .skip))
 (.seq (.reg [
 oN 42 (.mv (.t 12)) [],
 eN (.st 1 (.t 5) (.t 42)) [0,0],
 eN (.st 1 (.t 9) (cB false)) [1,0,1]])
 (.exit 3))))
 .skip))
 (.seq (.reg [
 oN 43 (.ld 1 false (.t 5)) [],
 oN 44 (.ld 1 false (.t 5)) [],
 oN 45 (.len (.t 44)) [1],
 oN 46 (.bin .sub (.t 45) (cI 1)) [2],
 oN 47 (.ia 2 (.t 43) (.t 46)) [0,3],
 oN 48 (.mv (.t 11)) [],
 oN 49 (.call 42 [(.t 47), (.t 48)]) [4,5],
 oN 14 (.mv (.t 49)) [6,6,0,1,2,3,4,5,6]])
 (.seq (.reg [
 oN 50 (.mv (.t 14)) [],
 oN 51 (.bin .neq (.t 50) (cI 0)) [0]])
 (.cond (.t 51)
 (.seq (.draw [
 oN 52 (.ld 1 false (.t 6)) [],
 oN 53 (.mv (.t 10)) [],
 oN 54 (.bin .add (.t 52) (.t 53)) [0,1],
 oN 55 (.mv (.t 14)) [],
 eN (.st 1 (.t 2) cN) [],
 eN (.st 1 (.t 3) (.t 54)) [2,4,0,1,2,4],
 eN (.st 1 (.t 4) (.t 55)) [3,5,0,1,2,3,4,5]])
 .ret)
 .skip))))))))
 (.reg [
 oN 56 (.ld 1 false (.t 6)) [],
 oN 57 (.mv (.t 8)) [],
 oN 58 (.lens (.t 57)) [1],
 oN 59 (.bin .add (.t 58) (cI 1)) [2],
 oN 60 (.bin .add (.t 56) (.t 59)) [0,3],
 eN (.st 1 (.t 6) (.t 60)) [4,0,1,2,3,4]])))))
 (.reg [
 oN 61 (.bin .add (.t 21) (cI 1)) [],
 oN 21 (.mv (.t 61)) [0]])))))))
 (.seq (.reg [
 oN 62 (.ld 1 false (.t 5)) [],
 eN (.st 1 (.t 2) (.t 62)) [0,0],
 eN (.st 1 (.t 3) (cI 0)) [1,0,1],
 eN (.st 1 (.t 4) (cI 0)) [2,0,1,2]])
 .ret))))))
theorem Trydp17 : (Tryd.f17.body.map (prep Tryd.prog 63)) = some Trydc17 := by kernel_rfl
def Trydc18 : ACode :=
 (.seq (.reg [
 oN 2 (.mv cN) [],
 oN 3 (.mv (cI 0)) [0],
 oN 4 (.mv (cI 0)) [1]])
 (.seq (.seq (.reg [
 oN 10 (.mv (.t 0)) [],
 oN 11 (.lens (.t 10)) [0],
 oN 12 (.bin .gtr (.t 11) (cI 65536)) [1]])
 (.cond (.t 12)
 (.seq (.reg [
 oN 2 (.mv cN) [],
 oN 3 (.mv (cI 0)) [0,0],
 oN 4 (.mv (cI 13)) [1,0,1]])
 .ret)
 .skip))
 (.seq (.reg [
 oN 5 (.mv cN) []])
 (.seq (.reg [
 oN 6 (.mv (cB true)) []])
 (.seq (.seq (.reg [
 oN 7 (.mv (cI 0)) []])
 (.block 0
 (.loop
 (.seq (.seq (.reg [
 oN 13 (.mv (.t 7)) [],
 oN 14 (.mv (.t 0)) [],
 oN 15 (.lens (.t 14)) [1],
 oN 16 (.bin .lss (.t 13) (.t 15)) [0,2]])
 (.cond (.t 16)
 .skip
 (.exit 0)))
 (.block 1
 (.seq (.seq (.reg [
 oN 17 (.mv (.t 0)) [],
 oN 18 (.mv (.t 7)) [],
 oN 19 (.ixS (.t 17) (.t 18)) [0,1],
 oN 20 (.bin .eql (.t 19) (.c (.val (.int .u8 10)))) [2]])
 (.cond (.t 20)
 (.reg [
 oN 6 (.mv (cB true)) []])
 .skip))
 (.seq (.seq (.reg [
 oN 21 (.mv (.t 0)) [],
 oN 22 (.mv (.t 7)) [],
 oN 23 (.ixS (.t 21) (.t 22)) [0,1],
 oN 24 (.bin .eql (.t 23) (.c (.val (.int .u8 10)))) [2],
 oN 25 (.mv (.t 24)) [3],
 oG 26 (.mv (.t 0)) [4] 25 false,
 oG 27 (.mv (.t 7)) [4] 25 false,
 oG 28 (.ixS (.t 26) (.t 27)) [5,6,4] 25 false,
 oG 29 (.bin .eql (.t 28) (.c (.val (.int .u8 32)))) [7,4] 25 false,
 oN 30 (.pick (.t 25) (cB true) (.t 29)) [4,8]])
 (.cond (.t 30)
 (.seq (.reg [
 oN 31 (.mv (.t 7)) [],
 oN 32 (.bin .add (.t 31) (cI 1)) [0],
 oN 7 (.mv (.t 32)) [1,0,1]])
 (.exit 1))
 .skip))
 (.seq (.reg [
 oN 33 (.mv (.t 0)) [],
 oN 34 (.mv (.t 7)) [],
 oN 35 (.call 43 [(.t 33), (.t 34)]) [0,1],
 oN 8 (.mv (.t 35)) [2,2,0,1,2]])
 (.seq (.reg [
 oN 9 (.mv (cI 0)) []])
 (.seq (.seq (.reg [
 oN 36 (.mv (.t 6)) []])
 (.cond (.t 36)
 (.reg [
 oN 38 (.mv (.t 5)) [],
 oN 39 (.mv (.t 0)) [],
 oN 40 (.mv (.t 7)) [],
 oN 41 (.mv (.t 8)) [],
 oN 42 (.slcs (.t 39) (some (.t 40)) (some (.t 41))) [1,2,3],
 oN 43 (.call 44 [(.t 38), (.t 42)]) [0,4],
 oN 37 (.mv (.t 43)) [5],
 oN 44 (.ext (.t 37) 0) [6],
 oN 45 (.ext (.t 37) 1) [6],
 oN 5 (.mv (.t 44)) [7,5,0,1,2,3,4,5,6,7],
 oN 9 (.mv (.t 45)) [8,9,0,1,2,3,4,5,6,7,8,9]])
 (.draw [
 oN 47 (.mv (.t 5)) [],
 oN 48 (.mv (.t 5)) [],
 oN 49 (.len (.t 48)) [1],
 oN 50 (.bin .sub (.t 49) (cI 1)) [2],
 oN 51 (.mv (.t 5)) [],
 oN 52 (.mv (.t 5)) [],
 oN 53 (.len (.t 52)) [5],
 oN 54 (.bin .sub (.t 53) (cI 1)) [6],
 oN 55 (.ia 2 (.t 51) (.t 54)) [4,7],
 oN 56 (.ld 2 true (.t 55)) [8],
 oN 57 (.mv (.t 0)) [],
 oN 58 (.mv (.t 7)) [],
 oN 59 (.mv (.t 8)) [],
 oN 60 (.slcs (.t 57) (some (.t 58)) (some (.t 59))) [10,11,12],
 oN 61 (.call 45 [(.t 56), (.t 60)]) [9,13],
 oN 46 (.mv (.t 61)) [14],
 oN 62 (.ext (.t 46) 0) [15],
 oN 63 (.ext (.t 46) 1) [15],
 oN 64 (.ia 2 (.t 47) (.t 50)) [0,3,0,1,2,3,4,5,6,7,8,9,10,11,12,13,14,15,16],
 eN (.st 2 (.t 64) (.t 62)) [18,16,14,0,1,2,3,4,5,6,7,8,9,10,11,12,13,14,15,16],
 oN 9 (.mv (.t 63)) [17,19,0,1,2,3,4,5,6,7,8,9,10,11,12,13,14,15,16,17,18,19]])))
 (.seq (.seq (.reg [
 oN 65 (.mv (.t 9)) [],
 oN 66 (.bin .neq (.t 65) (cI 0)) [0]])
 (.cond (.t 66)
 (.seq (.reg [
 oN 67 (.mv (.t 7)) [],
 oN 68 (.mv (.t 9)) [],
 oN 2 (.mv cN) [],
 oN 3 (.mv (.t 67)) [0,2,0,2],
 oN 4 (.mv (.t 68)) [1,3,0,1,2,3]])
 .ret)
 .skip))
 (.reg [
 oN 69 (.mv (.t 8)) [],
 oN 6 (.mv (cB false)) [],
 oN 7 (.mv (.t 69)) [0,1,0,1]]))))))))))))
 (.seq (.reg [
 oN 70 (.mv (.t 5)) [],
 oN 2 (.mv (.t 70)) [0,0],
 oN 3 (.mv (cI 0)) [1,0,1],
 oN 4 (.mv (cI 0)) [2,0,1,2]])
 .ret))))))
theorem Trydp18 : (Tryd.f18.body.map (prep Tryd.prog 71)) = some Trydc18 := by kernel_rfl
def Trydc19 : ACode :=
 (.seq (.reg [
 oN 4 (.mv (cB false)) []])
 (.seq (.seq (.reg [
 oN 6 (.mv (.t 0)) [],
 oN 7 (.len (.t 6)) [0],
 oN 8 (.mv (.t 1)) [],
 oN 9 (.len (.t 8)) [2],
 oN 10 (.bin .neq (.t 7) (.t 9)) [1,3]])
 (.cond (.t 10)
 (.seq (.reg [
 oN 4 (.mv (cB false)) []])
 .ret)
 .skip))
 (.seq (.seq (.reg [
 oN 5 (.mv (cI 0)) []])
 (.block 0
 (.loop
 (.seq (.seq (.reg [
 oN 11 (.mv (.t 5)) [],
 oN 12 (.mv (.t 0)) [],
 oN 13 (.len (.t 12)) [1],
 oN 14 (.bin .lss (.t 11) (.t 13)) [0,2]])
 (.cond (.t 14)
 .skip
 (.exit 0)))
 (.seq (.block 1
 (.seq (.draw [
 oN 17 (.mv (.t 0)) [],
 oN 18 (.mv (.t 5)) [],
 oN 19 (.ia 2 (.t 17) (.t 18)) [0,1],
 oN 20 (.ld 2 true (.t 19)) [2],
 oN 21 (.mv (.t 1)) [],
 oN 22 (.mv (.t 5)) [],
 oN 23 (.ia 2 (.t 21) (.t 22)) [4,5],
 oN 24 (.ld 2 true (.t 23)) [6],
 oN 25 (.call 46 [(.t 20), (.t 24)]) [3,7],
 oN 26 (.un .not (.t 25)) [8]])
 (.cond (.t 26)
 (.seq (.reg [
 oN 4 (.mv (cB false)) []])
 .ret)
 .skip)))
 (.reg [
 oN 15 (.mv (.t 5)) [],
 oN 16 (.bin .add (.t 15) (cI 1)) [0],
 oN 5 (.mv (.t 16)) [1,0,1]]))))))
 (.seq (.reg [
 oN 4 (.mv (cB true)) []])
 .ret))))
theorem Trydp19 : (Tryd.f19.body.map (prep Tryd.prog 27)) = some Trydc19 := by kernel_rfl
def Trydc20 : ACode :=
 (.seq (.reg [
 oN 2 (.mv (.c (.val (.string ⟨#[]⟩)))) [],
 oN 3 (.mv (cI 0)) [0]])
 (.seq (.seq (.reg [
 oN 10 (.mv (.t 0)) [],
 oN 11 (.call 25 [(.t 10)]) [0],
 oN 4 (.mv (.t 11)) [1,1,0,1]])
 (.seq (.reg [
 oN 12 (.mv (.t 4)) [],
 oN 13 (.bin .neq (.t 12) (cI 0)) [0]])
 (.cond (.t 13)
 (.seq (.reg [
 oN 14 (.mv (.t 4)) [],
 oN 2 (.mv (.c (.val (.string ⟨#[]⟩)))) [],
 oN 3 (.mv (.t 14)) [0,1,0,1]])
 .ret)
 .skip)))
 (.seq (.reg [
 oN 5 (.bnew 87) []])
 (.seq (.seq (.reg [
 oN 15 (.mv (.t 0)) [],
 oN 16 (.len (.t 15)) [0],
 oN 17 (.mv (cI 0)) []])
 (.block 0
 (.loop
 (.seq (.reg [
 oN 18 (.bin .lss (.t 17) (.t 16)) []])
 (.seq (.cond (.t 18)
 .skip
 (.exit 0))
 (.seq (.block 1
 (.seq (.reg [
 oN 19 (.ia 2 (.t 15) (.t 17)) [],
 oN 20 (.ld 2 true (.t 19)) [0],
 oN 7 (.box (.c (.agg [(.val (.string ⟨#[]⟩)), vN]))) [],
 eN (.st 2 (.t 7) (.t 20)) [2,1,0,1,2]])
 (.seq (.reg [
 oN 21 (.fa 0 (.t 7)) [],
 oN 22 (.ld 1 false (.t 21)) [0],
 oN 23 (.call 47 [(.t 5), (.t 22)]) [1]])
 (.seq (.seq (.reg [
 oN 24 (.fa 1 (.t 7)) [],
 oN 25 (.ld 1 false (.t 24)) [0],
 oN 26 (.len (.t 25)) [1],
 oN 27 (.mv (cI 0)) []])
 (.block 2
 (.loop
 (.seq (.reg [
 oN 28 (.bin .lss (.t 27) (.t 26)) []])
 (.seq (.cond (.t 28)
 .skip
 (.exit 2))
 (.seq (.block 3
 (.seq (.reg [
 oN 29 (.ia 2 (.t 25) (.t 27)) [],
 oN 30 (.ld 2 true (.t 29)) [0],
 oN 9 (.box (.c (.agg [(.val (.string ⟨#[]⟩)), (vI 0)]))) [],
 eN (.st 2 (.t 9) (.t 30)) [2,1,0,1,2]])
 (.draw [
 oN 31 (.fa 0 (.t 9)) [],
 oN 32 (.ld 1 false (.t 31)) [0],
 oN 33 (.bin .add (.c (.val (.string ⟨#[32]⟩))) (.t 32)) [1],
 oN 34 (.bin .add (.t 33) (.c (.val (.string ⟨#[58]⟩)))) [2],
 oN 35 (.fa 1 (.t 9)) [],
 oN 36 (.ld 1 false (.t 35)) [4],
 oN 37 (.iaA 1 3 (.g 0) (.t 36)) [5],
 oN 38 (.ld 1 false (.t 37)) [6],
 oN 39 (.bin .add (.t 34) (.t 38)) [3,7],
 oN 40 (.call 47 [(.t 5), (.t 39)]) [8]])))
 (.reg [
 oN 41 (.bin .add (.t 27) (cI 1)) [],
 oN 27 (.mv (.t 41)) [0]])))))))
 (.reg [
 oN 42 (.call 47 [(.t 5), (.c (.val (.string ⟨#[10]⟩)))]) []])))))
 (.reg [
 oN 43 (.bin .add (.t 17) (cI 1)) [],
 oN 17 (.mv (.t 43)) [0]])))))))
 (.seq (.reg [
 oN 44 (.call 48 [(.t 5)]) [],
 oN 2 (.mv (.t 44)) [0,0,0],
 oN 3 (.mv (cI 0)) [1,0,1]])
 .ret)))))
theorem Trydp20 : (Tryd.f20.body.map (prep Tryd.prog 45)) = some Trydc20 := by kernel_rfl
def Trydc21 : ACode :=
 (.seq (.reg [
 oN 2 (.mv (.c (.val (.string ⟨#[]⟩)))) [],
 oN 3 (.mv (cI 0)) [0]])
 (.seq (.seq (.reg [
 oN 9 (.mv (.t 0)) [],
 oN 10 (.call 28 [(.t 9)]) [0],
 oN 4 (.mv (.t 10)) [1,1,0,1]])
 (.seq (.reg [
 oN 11 (.mv (.t 4)) [],
 oN 12 (.bin .neq (.t 11) (cI 0)) [0]])
 (.cond (.t 12)
 (.seq (.reg [
 oN 13 (.mv (.t 4)) [],
 oN 2 (.mv (.c (.val (.string ⟨#[]⟩)))) [],
 oN 3 (.mv (.t 13)) [0,1,0,1]])
 .ret)
 .skip)))
 (.seq (.reg [
 oN 5 (.mv (.c (.val (.string ⟨#[]⟩)))) []])
 (.seq (.seq (.reg [
 oN 6 (.mv (cI 0)) []])
 (.block 0
 (.loop
 (.seq (.seq (.reg [
 oN 14 (.mv (.t 6)) [],
 oN 15 (.mv (.t 0)) [],
 oN 16 (.len (.t 15)) [1],
 oN 17 (.bin .lss (.t 14) (.t 16)) [0,2]])
 (.cond (.t 17)
 .skip
 (.exit 0)))
 (.seq (.block 1
 (.seq (.reg [
 oN 20 (.mv (.t 5)) [],
 oN 21 (.mv (.t 0)) [],
 oN 22 (.mv (.t 6)) [],
 oN 23 (.ia 2 (.t 21) (.t 22)) [1,2],
 oN 24 (.fa 0 (.t 23)) [3],
 oN 25 (.ld 1 false (.t 24)) [4],
 oN 26 (.bin .add (.t 20) (.t 25)) [0,5],
 oN 5 (.mv (.t 26)) [6,0,1,2,3,4,5,6]])
 (.seq (.seq (.reg [
 oN 7 (.mv (cI 0)) []])
 (.block 2
 (.loop
 (.seq (.seq (.reg [
 oN 27 (.mv (.t 7)) [],
 oN 28 (.mv (.t 0)) [],
 oN 29 (.mv (.t 6)) [],
 oN 30 (.ia 2 (.t 28) (.t 29)) [1,2],
 oN 31 (.fa 1 (.t 30)) [3],
 oN 32 (.ld 1 false (.t 31)) [4],
 oN 33 (.len (.t 32)) [5],
 oN 34 (.bin .lss (.t 27) (.t 33)) [0,6]])
 (.cond (.t 34)
 .skip
 (.exit 2)))
 (.seq (.block 3
 (.seq (.reg [
 oN 37 (.mv (.t 0)) [],
 oN 38 (.mv (.t 6)) [],
 oN 39 (.ia 2 (.t 37) (.t 38)) [0,1],
 oN 40 (.fa 1 (.t 39)) [2],
 oN 41 (.ld 1 false (.t 40)) [3],
 oN 42 (.mv (.t 7)) [],
 oN 43 (.ia 2 (.t 41) (.t 42)) [4,5],
 oN 44 (.ld 2 true (.t 43)) [6],
 oN 8 (.box (.c (.agg [(.val (.string ⟨#[]⟩)), (vI 0)]))) [],
 eN (.st 2 (.t 8) (.t 44)) [8,7,0,1,2,3,4,5,6,7,8]])
 (.draw [
 oN 45 (.mv (.t 5)) [],
 oN 46 (.fa 0 (.t 8)) [],
 oN 47 (.ld 1 false (.t 46)) [1],
 oN 48 (.bin .add (.c (.val (.string ⟨#[32]⟩))) (.t 47)) [2],
 oN 49 (.bin .add (.t 48) (.c (.val (.string ⟨#[58]⟩)))) [3],
 oN 50 (.ld 1 false (.g 1)) [],
 oN 51 (.fa 1 (.t 8)) [],
 oN 52 (.ld 1 false (.t 51)) [6],
 oN 53 (.ia 1 (.t 50) (.t 52)) [5,7],
 oN 54 (.ld 1 false (.t 53)) [8],
 oN 55 (.bin .add (.t 49) (.t 54)) [4,9],
 oN 56 (.bin .add (.t 45) (.t 55)) [0,10],
 oN 5 (.mv (.t 56)) [11,0,1,2,3,4,5,6,7,8,9,10,11]])))
 (.reg [
 oN 35 (.mv (.t 7)) [],
 oN 36 (.bin .add (.t 35) (cI 1)) [0],
 oN 7 (.mv (.t 36)) [1,0,1]]))))))
 (.reg [
 oN 57 (.mv (.t 5)) [],
 oN 58 (.bin .add (.t 57) (.c (.val (.string ⟨#[10]⟩)))) [0],
 oN 5 (.mv (.t 58)) [1,0,1]]))))
 (.reg [
 oN 18 (.mv (.t 6)) [],
 oN 19 (.bin .add (.t 18) (cI 1)) [0],
 oN 6 (.mv (.t 19)) [1,0,1]]))))))
 (.seq (.reg [
 oN 59 (.mv (.t 5)) [],
 oN 2 (.mv (.t 59)) [0,0],
 oN 3 (.mv (cI 0)) [1,0,1]])
 .ret)))))
theorem Trydp21 : (Tryd.f21.body.map (prep Tryd.prog 60)) = some Trydc21 := by kernel_rfl
def Trydc22 : ACode :=
 (.seq (.reg [
 oN 2 (.box (.t 0)) [],
 oN 3 (.box (.t 1)) [],
 oN 4 (.mv cN) [],
 oN 5 (.mv (cB false)) [2],
 oN 6 (.mv (cI 0)) [3]])
 (.seq (.seq (.reg [
 oN 13 (.ld 2 true (.t 2)) [],
 oN 14 (.call 15 [(.t 13)]) [0],
 oN 7 (.mv (.t 14)) [1,1,0,1]])
 (.seq (.reg [
 oN 15 (.mv (.t 7)) [],
 oN 16 (.bin .neq (.t 15) (cI 0)) [0]])
 (.cond (.t 16)
 (.seq (.reg [
 oN 17 (.mv (.t 7)) [],
 oN 4 (.mv cN) [],
 oN 5 (.mv (cB false)) [1,1],
 oN 6 (.mv (.t 17)) [0,2,0,1,2]])
 .ret)
 .skip)))
 (.seq (.seq (.reg [
 oN 18 (.ld 2 true (.t 3)) [],
 oN 19 (.call 15 [(.t 18)]) [0],
 oN 8 (.mv (.t 19)) [1,1,0,1]])
 (.seq (.reg [
 oN 20 (.mv (.t 8)) [],
 oN 21 (.bin .neq (.t 20) (cI 0)) [0]])
 (.cond (.t 21)
 (.seq (.reg [
 oN 22 (.mv (.t 8)) [],
 oN 4 (.mv cN) [],
 oN 5 (.mv (cB false)) [1,1],
 oN 6 (.mv (.t 22)) [0,2,0,1,2]])
 .ret)
 .skip)))
 (.seq (.reg [
 oN 9 (.mv cN) []])
 (.seq (.seq (.reg [
 oN 23 (.fa 1 (.t 3)) [],
 oN 24 (.ld 1 false (.t 23)) [0],
 oN 25 (.len (.t 24)) [1],
 oN 26 (.mv (cI 0)) []])
 (.block 0
 (.loop
 (.seq (.reg [
 oN 27 (.bin .lss (.t 26) (.t 25)) []])
 (.seq (.cond (.t 27)
 .skip
 (.exit 0))
 (.seq (.block 1
 (.seq (.reg [
 oN 28 (.ia 2 (.t 24) (.t 26)) [],
 oN 29 (.ld 2 true (.t 28)) [0],
 oN 11 (.box (.c (.agg [(.val (.string ⟨#[]⟩)), (vI 0)]))) [],
 eN (.st 2 (.t 11) (.t 29)) [2,1,0,1,2]])
 (.seq (.reg [
 oN 30 (.fa 1 (.t 2)) [],
 oN 31 (.ld 1 false (.t 30)) [0],
 oN 32 (.fa 0 (.t 11)) [],
 oN 33 (.ld 1 false (.t 32)) [2],
 oN 34 (.call 34 [(.t 31), (.t 33)]) [1,3],
 oN 12 (.mv (.t 34)) [4,4,0,1,2,3,4]])
 (.seq (.seq (.draw [
 oN 35 (.mv (.t 12)) [],
 oN 36 (.bin .lss (.t 35) (cI 0)) [0],
 oN 37 (.mv (.t 36)) [1],
 oG 38 (.fa 1 (.t 2)) [2] 37 false,
 oG 39 (.ld 1 false (.t 38)) [3,2] 37 false,
 oG 40 (.mv (.t 12)) [2] 37 false,
 oG 41 (.ia 2 (.t 39) (.t 40)) [4,5,2] 37 false,
 oG 42 (.ld 2 true (.t 41)) [6,2] 37 false,
 oG 43 (.ld 2 true (.t 11)) [2] 37 false,
 oG 44 (.eqst true [.str, .int] (.t 42) (.t 43)) [7,8,2] 37 false,
 oN 45 (.pick (.t 37) (cB true) (.t 44)) [2,9]])
 (.cond (.t 45)
 (.seq (.reg [
 oN 4 (.mv cN) [],
 oN 5 (.mv (cB false)) [0,0],
 oN 6 (.mv (cI 0)) [1,0,1]])
 .ret)
 .skip))
 (.reg [
 oN 46 (.mv (.t 9)) [],
 oN 47 (.mv (.t 12)) [],
 oN 48 (.bslice 1 [(.t 47)]) [1],
 oN 49 (.app 1 8 (.t 46) (.t 48)) [0,2],
 oN 9 (.mv (.t 49)) [3,3,0,1,2,3]])))))
 (.reg [
 oN 50 (.bin .add (.t 26) (cI 1)) [],
 oN 26 (.mv (.t 50)) [0]])))))))
 (.seq (.reg [
 oN 51 (.mv (.t 9)) [],
 oN 4 (.mv (.t 51)) [0,0],
 oN 5 (.mv (cB true)) [1,0,1],
 oN 6 (.mv (cI 0)) [2,0,1,2]])
 .ret))))))
theorem Trydp22 : (Tryd.f22.body.map (prep Tryd.prog 52)) = some Trydc22 := by kernel_rfl
def Trydc23 : ACode :=
 (.seq (.reg [
 oN 2 (.box (.t 0)) [],
 oN 3 (.box (.t 1)) [],
 oN 4 (.mv cN) [],
 oN 5 (.mv (cB false)) [2],
 oN 6 (.mv (cI 0)) [3]])
 (.seq (.seq (.reg [
 oN 12 (.ld 2 true (.t 2)) [],
 oN 13 (.call 16 [(.t 12)]) [0],
 oN 7 (.mv (.t 13)) [1,1,0,1]])
 (.seq (.reg [
 oN 14 (.mv (.t 7)) [],
 oN 15 (.bin .neq (.t 14) (cI 0)) [0]])
 (.cond (.t 15)
 (.seq (.reg [
 oN 16 (.mv (.t 7)) [],
 oN 4 (.mv cN) [],
 oN 5 (.mv (cB false)) [1,1],
 oN 6 (.mv (.t 16)) [0,2,0,1,2]])
 .ret)
 .skip)))
 (.seq (.seq (.reg [
 oN 17 (.ld 2 true (.t 3)) [],
 oN 18 (.call 16 [(.t 17)]) [0],
 oN 8 (.mv (.t 18)) [1,1,0,1]])
 (.seq (.reg [
 oN 19 (.mv (.t 8)) [],
 oN 20 (.bin .neq (.t 19) (cI 0)) [0]])
 (.cond (.t 20)
 (.seq (.reg [
 oN 21 (.mv (.t 8)) [],
 oN 4 (.mv cN) [],
 oN 5 (.mv (cB false)) [1,1],
 oN 6 (.mv (.t 21)) [0,2,0,1,2]])
 .ret)
 .skip)))
 (.seq (.reg [
 oN 9 (.mv cN) []])
 (.seq (.seq (.reg [
 oN 10 (.mv (cI 0)) []])
 (.block 0
 (.loop
 (.seq (.seq (.reg [
 oN 22 (.mv (.t 10)) [],
 oN 23 (.fa 1 (.t 3)) [],
 oN 24 (.ld 1 false (.t 23)) [1],
 oN 25 (.len (.t 24)) [2],
 oN 26 (.bin .lss (.t 22) (.t 25)) [0,3]])
 (.cond (.t 26)
 .skip
 (.exit 0)))
 (.seq (.block 1
 (.seq (.draw [
 oN 29 (.ld 2 true (.t 2)) [],
 oN 30 (.fa 1 (.t 3)) [],
 oN 31 (.ld 1 false (.t 30)) [1],
 oN 32 (.mv (.t 10)) [],
 oN 33 (.ia 2 (.t 31) (.t 32)) [2,3],
 oN 34 (.fa 0 (.t 33)) [4],
 oN 35 (.ld 1 false (.t 34)) [5],
 oN 36 (.call 35 [(.t 29), (.t 35)]) [0,6],
 oN 11 (.mv (.t 36)) [7,7,0,1,2,3,4,5,6,7]])
 (.seq (.seq (.draw [
 oN 37 (.mv (.t 11)) [],
 oN 38 (.bin .lss (.t 37) (cI 0)) [0],
 oN 39 (.mv (.t 38)) [1],
 oG 40 (.fa 1 (.t 2)) [2] 39 false,
 oG 41 (.ld 1 false (.t 40)) [3,2] 39 false,
 oG 42 (.mv (.t 11)) [2] 39 false,
 oG 43 (.ia 2 (.t 41) (.t 42)) [4,5,2] 39 false,
 oG 44 (.fa 1 (.t 43)) [6,2] 39 false,
 oG 45 (.ld 1 false (.t 44)) [7,2] 39 false,
 oG 46 (.fa 1 (.t 3)) [2] 39 false,
 oG 47 (.ld 1 false (.t 46)) [9,2] 39 false,
 oG 48 (.mv (.t 10)) [2] 39 false,
 oG 49 (.ia 2 (.t 47) (.t 48)) [10,11,2] 39 false,
 oG 50 (.fa 1 (.t 49)) [12,2] 39 false,
 oG 51 (.ld 1 false (.t 50)) [13,2] 39 false,
 oG 52 (.bin .neq (.t 45) (.t 51)) [8,14,2] 39 false,
 oN 53 (.pick (.t 39) (cB true) (.t 52)) [2,15]])
 (.cond (.t 53)
 (.seq (.reg [
 oN 4 (.mv cN) [],
 oN 5 (.mv (cB false)) [0,0],
 oN 6 (.mv (cI 0)) [1,0,1]])
 .ret)
 .skip))
 (.reg [
 oN 54 (.mv (.t 9)) [],
 oN 55 (.mv (.t 11)) [],
 oN 56 (.bslice 1 [(.t 55)]) [1],
 oN 57 (.app 1 8 (.t 54) (.t 56)) [0,2],
 oN 9 (.mv (.t 57)) [3,3,0,1,2,3]]))))
 (.reg [
 oN 27 (.mv (.t 10)) [],
 oN 28 (.bin .add (.t 27) (cI 1)) [0],
 oN 10 (.mv (.t 28)) [1,0,1]]))))))
 (.seq (.reg [
 oN 58 (.mv (.t 9)) [],
 oN 4 (.mv (.t 58)) [0,0],
 oN 5 (.mv (cB true)) [1,0,1],
 oN 6 (.mv (cI 0)) [2,0,1,2]])
 .ret))))))
theorem Trydp23 : (Tryd.f23.body.map (prep Tryd.prog 59)) = some Trydc23 := by kernel_rfl
def Trydc24 : ACode :=
 (.seq (.reg [
 oN 4 (.mv (cB false)) []])
 (.seq (.seq (.reg [
 oN 6 (.mv (.t 0)) [],
 oN 7 (.len (.t 6)) [0],
 oN 8 (.mv (.t 1)) [],
 oN 9 (.len (.t 8)) [2],
 oN 10 (.bin .neq (.t 7) (.t 9)) [1,3]])
 (.cond (.t 10)
 (.seq (.reg [
 oN 4 (.mv (cB false)) []])
 .ret)
 .skip))
 (.seq (.seq (.reg [
 oN 11 (.mv (.t 0)) [],
 oN 12 (.len (.t 11)) [0],
 oN 13 (.mv (cI 0)) []])
 (.block 0
 (.loop
 (.seq (.reg [
 oN 14 (.bin .lss (.t 13) (.t 12)) []])
 (.seq (.cond (.t 14)
 .skip
 (.exit 0))
 (.seq (.block 1
 (.seq (.reg [
 oN 15 (.mv (.t 13)) [],
 oN 5 (.mv (.t 15)) [0,0]])
 (.seq (.draw [
 oN 16 (.mv (.t 0)) [],
 oN 17 (.mv (.t 5)) [],
 oN 18 (.ia 1 (.t 16) (.t 17)) [0,1],
 oN 19 (.ld 1 false (.t 18)) [2],
 oN 20 (.mv (.t 1)) [],
 oN 21 (.mv (.t 5)) [],
 oN 22 (.ia 1 (.t 20) (.t 21)) [4,5],
 oN 23 (.ld 1 false (.t 22)) [6],
 oN 24 (.bin .neq (.t 19) (.t 23)) [3,7]])
 (.cond (.t 24)
 (.seq (.reg [
 oN 4 (.mv (cB false)) []])
 .ret)
 .skip))))
 (.reg [
 oN 25 (.bin .add (.t 13) (cI 1)) [],
 oN 13 (.mv (.t 25)) [0]])))))))
 (.seq (.reg [
 oN 4 (.mv (cB true)) []])
 .ret))))
theorem Trydp24 : (Tryd.f24.body.map (prep Tryd.prog 26)) = some Trydc24 := by kernel_rfl
def Trydc25 : ACode :=
 (.seq (.reg [
 oN 2 (.mv (cI 0)) []])
 (.seq (.seq (.reg [
 oN 7 (.mv (.t 0)) [],
 oN 8 (.len (.t 7)) [0],
 oN 9 (.bin .gtr (.t 8) (cI 16)) [1]])
 (.cond (.t 9)
 (.seq (.reg [
 oN 2 (.mv (cI 5)) []])
 .ret)
 .skip))
 (.seq (.reg [
 oN 10 (.mkmap) [],
 oN 3 (.mv (.t 10)) [0,0]])
 (.seq (.seq (.reg [
 oN 11 (.mv (.t 0)) [],
 oN 12 (.len (.t 11)) [0],
 oN 13 (.mv (cI 0)) []])
 (.block 0
 (.loop
 (.seq (.reg [
 oN 14 (.bin .lss (.t 13) (.t 12)) []])
 (.seq (.cond (.t 14)
 .skip
 (.exit 0))
 (.seq (.block 1
 (.seq (.reg [
 oN 15 (.ia 2 (.t 11) (.t 13)) [],
 oN 16 (.ld 2 true (.t 15)) [0],
 oN 5 (.box (.c (.agg [(.val (.string ⟨#[]⟩)), vN]))) [],
 eN (.st 2 (.t 5) (.t 16)) [2,1,0,1,2]])
 (.seq (.seq (.reg [
 oN 17 (.ld 2 true (.t 5)) [],
 oN 18 (.call 15 [(.t 17)]) [0],
 oN 6 (.mv (.t 18)) [1,1,0,1]])
 (.seq (.reg [
 oN 19 (.mv (.t 6)) [],
 oN 20 (.bin .neq (.t 19) (cI 0)) [0]])
 (.cond (.t 20)
 (.seq (.reg [
 oN 21 (.mv (.t 6)) [],
 oN 2 (.mv (.t 21)) [0,0]])
 .ret)
 .skip)))
 (.seq (.seq (.reg [
 oN 22 (.mv (.t 3)) [],
 oN 23 (.fa 0 (.t 5)) [],
 oN 24 (.ld 1 false (.t 23)) [1],
 oN 25 (.mlook true (.val (.bool false)) (.t 22) (.t 24) false) [0,2]])
 (.cond (.t 25)
 (.seq (.reg [
 oN 2 (.mv (cI 7)) []])
 .ret)
 .skip))
 (.reg [
 oN 26 (.mv (.t 3)) [],
 oN 27 (.fa 0 (.t 5)) [],
 oN 28 (.ld 1 false (.t 27)) [1],
 eN (.mput true (.t 26) (.t 28) (cB true)) [0,2,0,1,2]])))))
 (.reg [
 oN 29 (.bin .add (.t 13) (cI 1)) [],
 oN 13 (.mv (.t 29)) [0]])))))))
 (.seq (.reg [
 oN 2 (.mv (cI 0)) []])
 .ret)))))
theorem Trydp25 : (Tryd.f25.body.map (prep Tryd.prog 30)) = some Trydc25 := by kernel_rfl
def Trydc26 : ACode :=
 (.seq (.reg [
 oN 4 (.mv (cI 0)) [],
 oN 5 (.mv (cI 0)) [0]])
 (.seq (.seq (.reg [
 oN 9 (.mv (.t 0)) [],
 oN 10 (.call 25 [(.t 9)]) [0],
 oN 6 (.mv (.t 10)) [1,1,0,1]])
 (.seq (.reg [
 oN 11 (.mv (.t 6)) [],
 oN 12 (.bin .neq (.t 11) (cI 0)) [0]])
 (.cond (.t 12)
 (.seq (.reg [
 oN 13 (.mv (.t 6)) [],
 oN 4 (.mv (cI 0)) [],
 oN 5 (.mv (.t 13)) [0,1,0,1]])
 .ret)
 .skip)))
 (.seq (.seq (.reg [
 oN 14 (.mv (.t 0)) [],
 oN 15 (.len (.t 14)) [0],
 oN 16 (.mv (cI 0)) []])
 (.block 0
 (.loop
 (.seq (.reg [
 oN 17 (.bin .lss (.t 16) (.t 15)) []])
 (.seq (.cond (.t 17)
 .skip
 (.exit 0))
 (.seq (.block 1
 (.seq (.reg [
 oN 18 (.mv (.t 16)) [],
 oN 19 (.ia 2 (.t 14) (.t 16)) [],
 oN 20 (.ld 2 true (.t 19)) [1],
 oN 8 (.box (.c (.agg [(.val (.string ⟨#[]⟩)), vN]))) [],
 oN 7 (.mv (.t 18)) [0,0,1,2,3],
 eN (.st 2 (.t 8) (.t 20)) [3,2,4,0,1,2,3,4]])
 (.seq (.reg [
 oN 21 (.fa 0 (.t 8)) [],
 oN 22 (.ld 1 false (.t 21)) [0],
 oN 23 (.mv (.t 1)) [],
 oN 24 (.bin .eql (.t 22) (.t 23)) [1,2]])
 (.cond (.t 24)
 (.seq (.reg [
 oN 25 (.mv (.t 7)) [],
 oN 4 (.mv (.t 25)) [0,0],
 oN 5 (.mv (cI 0)) [1,0,1]])
 .ret)
 .skip))))
 (.reg [
 oN 26 (.bin .add (.t 16) (cI 1)) [],
 oN 16 (.mv (.t 26)) [0]])))))))
 (.seq (.reg [
 oN 4 (.mv (cI 0)) [],
 oN 5 (.mv (cI 6)) [0,0]])
 .ret))))
theorem Trydp26 : (Tryd.f26.body.map (prep Tryd.prog 27)) = some Trydc26 := by kernel_rfl
def Trydc27 : ACode :=
 (.seq (.reg [
 oN 4 (.mv (cI 0)) [],
 oN 5 (.mv (cI 0)) [0]])
 (.seq (.seq (.reg [
 oN 8 (.mv (.t 0)) [],
 oN 9 (.call 28 [(.t 8)]) [0],
 oN 6 (.mv (.t 9)) [1,1,0,1]])
 (.seq (.reg [
 oN 10 (.mv (.t 6)) [],
 oN 11 (.bin .neq (.t 10) (cI 0)) [0]])
 (.cond (.t 11)
 (.seq (.reg [
 oN 12 (.mv (.t 6)) [],
 oN 4 (.mv (cI 0)) [],
 oN 5 (.mv (.t 12)) [0,1,0,1]])
 .ret)
 .skip)))
 (.seq (.reg [
 oN 13 (.mv (.t 0)) [],
 oN 14 (.mv (.t 1)) [],
 oN 15 (.call 49 [(.t 13), (.t 14)]) [0,1],
 oN 7 (.mv (.t 15)) [2,2,0,1,2]])
 (.seq (.seq (.reg [
 oN 16 (.mv (.t 7)) [],
 oN 17 (.bin .lss (.t 16) (cI 0)) [0]])
 (.cond (.t 17)
 (.seq (.reg [
 oN 4 (.mv (cI 0)) [],
 oN 5 (.mv (cI 6)) [0,0]])
 .ret)
 .skip))
 (.seq (.reg [
 oN 18 (.mv (.t 7)) [],
 oN 4 (.mv (.t 18)) [0,0],
 oN 5 (.mv (cI 0)) [1,0,1]])
 .ret)))))
theorem Trydp27 : (Tryd.f27.body.map (prep Tryd.prog 19)) = some Trydc27 := by kernel_rfl
def Trydc28 : ACode :=
 (.seq (.reg [
 oN 2 (.mv (cI 0)) []])
 (.seq (.seq (.reg [
 oN 5 (.mv (.t 0)) [],
 oN 6 (.len (.t 5)) [0],
 oN 7 (.bin .gtr (.t 6) (cI 16)) [1]])
 (.cond (.t 7)
 (.seq (.reg [
 oN 2 (.mv (cI 5)) []])
 .ret)
 .skip))
 (.seq (.seq (.reg [
 oN 3 (.mv (cI 0)) []])
 (.block 0
 (.loop
 (.seq (.seq (.reg [
 oN 8 (.mv (.t 3)) [],
 oN 9 (.mv (.t 0)) [],
 oN 10 (.len (.t 9)) [1],
 oN 11 (.bin .lss (.t 8) (.t 10)) [0,2]])
 (.cond (.t 11)
 .skip
 (.exit 0)))
 (.seq (.block 1
 (.seq (.seq (.reg [
 oN 14 (.mv (.t 0)) [],
 oN 15 (.mv (.t 3)) [],
 oN 16 (.ia 2 (.t 14) (.t 15)) [0,1],
 oN 17 (.ld 2 true (.t 16)) [2],
 oN 18 (.call 16 [(.t 17)]) [3],
 oN 4 (.mv (.t 18)) [4,4,0,1,2,3,4]])
 (.seq (.reg [
 oN 19 (.mv (.t 4)) [],
 oN 20 (.bin .neq (.t 19) (cI 0)) [0]])
 (.cond (.t 20)
 (.seq (.reg [
 oN 21 (.mv (.t 4)) [],
 oN 2 (.mv (.t 21)) [0,0]])
 .ret)
 .skip)))
 (.seq (.reg [
 oN 22 (.mv (.t 0)) [],
 oN 23 (.mv (.t 0)) [],
 oN 24 (.mv (.t 3)) [],
 oN 25 (.ia 2 (.t 23) (.t 24)) [1,2],
 oN 26 (.fa 0 (.t 25)) [3],
 oN 27 (.ld 1 false (.t 26)) [4],
 oN 28 (.call 49 [(.t 22), (.t 27)]) [0,5],
 oN 29 (.mv (.t 3)) [],
 oN 30 (.bin .lss (.t 28) (.t 29)) [6,7]])
 (.cond (.t 30)
 (.seq (.reg [
 oN 2 (.mv (cI 7)) []])
 .ret)
 .skip))))
 (.reg [
 oN 12 (.mv (.t 3)) [],
 oN 13 (.bin .add (.t 12) (cI 1)) [0],
 oN 3 (.mv (.t 13)) [1,0,1]]))))))
 (.seq (.reg [
 oN 2 (.mv (cI 0)) []])
 .ret))))
theorem Trydp28 : (Tryd.f28.body.map (prep Tryd.prog 31)) = some Trydc28 := by kernel_rfl
def Trydc33 : ACode :=
 (.seq (.reg [
 oN 6 (.mv (cB false)) []])
 (.seq (.reg [
 oN 11 (.mv (.t 0)) [],
 oN 12 (.call 17 [(.t 11)]) [0],
 oN 10 (.mv (.t 12)) [1],
 oN 13 (.ext (.t 10) 0) [2],
 oN 14 (.ext (.t 10) 1) [2],
 oN 15 (.ext (.t 10) 2) [2],
 oN 7 (.mv (.t 13)) [3,1,0,1,2,3],
 oN 8 (.mv (.t 14)) [4,6,0,1,2,3,4,6],
 oN 9 (.mv (.t 15)) [5,7,0,1,2,3,4,5,6,7]])
 (.seq (.reg [
 oN 16 (.mv (.t 8)) [],
 oN 17 (.mv (.t 1)) [],
 oN 18 (.bin .eql (.t 16) (.t 17)) [0,1],
 oN 19 (.mv (.t 18)) [2],
 oG 20 (.mv (.t 9)) [3] 19 true,
 oG 21 (.mv (.t 2)) [3] 19 true,
 oG 22 (.bin .eql (.t 20) (.t 21)) [4,5,3] 19 true,
 oN 23 (.pick (.t 19) (.t 22) (cB false)) [3,6],
 oN 6 (.mv (.t 23)) [7,3,0,1,2,3,4,5,6,7]])
 .ret)))
theorem Trydp33 : (Tryd.f33.body.map (prep Tryd.prog 24)) = some Trydc33 := by kernel_rfl
def Trydc34 : ACode :=
 (.seq (.reg [
 oN 4 (.mv (cI 0)) []])
 (.seq (.seq (.reg [
 oN 7 (.mv (.t 0)) [],
 oN 8 (.len (.t 7)) [0],
 oN 9 (.mv (cI 0)) []])
 (.block 0
 (.loop
 (.seq (.reg [
 oN 10 (.bin .lss (.t 9) (.t 8)) []])
 (.seq (.cond (.t 10)
 .skip
 (.exit 0))
 (.seq (.block 1
 (.seq (.reg [
 oN 11 (.mv (.t 9)) [],
 oN 12 (.ia 2 (.t 7) (.t 9)) [],
 oN 13 (.ld 2 true (.t 12)) [1],
 oN 6 (.box (.c (.agg [(.val (.string ⟨#[]⟩)), (vI 0)]))) [],
 oN 5 (.mv (.t 11)) [0,0,1,2,3],
 eN (.st 2 (.t 6) (.t 13)) [3,2,4,0,1,2,3,4]])
 (.seq (.reg [
 oN 14 (.fa 0 (.t 6)) [],
 oN 15 (.ld 1 false (.t 14)) [0],
 oN 16 (.mv (.t 1)) [],
 oN 17 (.bin .eql (.t 15) (.t 16)) [1,2]])
 (.cond (.t 17)
 (.seq (.reg [
 oN 18 (.mv (.t 5)) [],
 oN 4 (.mv (.t 18)) [0,0]])
 .ret)
 .skip))))
 (.reg [
 oN 19 (.bin .add (.t 9) (cI 1)) [],
 oN 9 (.mv (.t 19)) [0]])))))))
 (.seq (.reg [
 oN 4 (.mv (cI (-1))) []])
 .ret)))
theorem Trydp34 : (Tryd.f34.body.map (prep Tryd.prog 20)) = some Trydc34 := by kernel_rfl
def Trydc35 : ACode :=
 (.seq (.reg [
 oN 2 (.box (.t 0)) [],
 oN 4 (.mv (cI 0)) []])
 (.seq (.seq (.reg [
 oN 5 (.mv (cI 0)) []])
 (.block 0
 (.loop
 (.seq (.seq (.reg [
 oN 6 (.mv (.t 5)) [],
 oN 7 (.fa 1 (.t 2)) [],
 oN 8 (.ld 1 false (.t 7)) [1],
 oN 9 (.len (.t 8)) [2],
 oN 10 (.bin .lss (.t 6) (.t 9)) [0,3]])
 (.cond (.t 10)
 .skip
 (.exit 0)))
 (.seq (.block 1
 (.seq (.reg [
 oN 13 (.fa 1 (.t 2)) [],
 oN 14 (.ld 1 false (.t 13)) [0],
 oN 15 (.mv (.t 5)) [],
 oN 16 (.ia 2 (.t 14) (.t 15)) [1,2],
 oN 17 (.fa 0 (.t 16)) [3],
 oN 18 (.ld 1 false (.t 17)) [4],
 oN 19 (.mv (.t 1)) [],
 oN 20 (.bin .eql (.t 18) (.t 19)) [5,6]])
 (.cond (.t 20)
 (.seq (.reg [
 oN 21 (.mv (.t 5)) [],
 oN 4 (.mv (.t 21)) [0,0]])
 .ret)
 .skip)))
 (.reg [
 oN 11 (.mv (.t 5)) [],
 oN 12 (.bin .add (.t 11) (cI 1)) [0],
 oN 5 (.mv (.t 12)) [1,0,1]]))))))
 (.seq (.reg [
 oN 4 (.mv (cI (-1))) []])
 .ret)))
theorem Trydp35 : (Tryd.f35.body.map (prep Tryd.prog 22)) = some Trydc35 := by kernel_rfl
def Trydc36 : ACode :=
 (.seq (.reg [
 oN 2 (.mv (cB false)) []])
 (.seq (.seq (.reg [
 oN 4 (.mv (.t 0)) [],
 oN 5 (.lens (.t 4)) [0],
 oN 6 (.bin .eql (.t 5) (cI 0)) [1],
 oN 7 (.mv (.t 6)) [2],
 oG 8 (.mv (.t 0)) [3] 7 false,
 oG 9 (.lens (.t 8)) [4,3] 7 false,
 oG 10 (.bin .gtr (.t 9) (cI 24)) [5,3] 7 false,
 oN 11 (.pick (.t 7) (cB true) (.t 10)) [3,6],
 oN 12 (.mv (.t 11)) [7,3],
 oG 13 (.mv (.t 0)) [8] 12 false,
 oG 14 (.ixS (.t 13) (cI 0)) [9,8] 12 false,
 oG 15 (.call 52 [(.t 14)]) [10,8,8] 12 false,
 oN 16 (.pick (.t 12) (cB true) (.t 15)) [8,11]])
 (.cond (.t 16)
 (.seq (.reg [
 oN 2 (.mv (cB false)) []])
 .ret)
 .skip))
 (.seq (.seq (.reg [
 oN 17 (.mv (.t 0)) [],
 oN 18 (.lens (.t 17)) [0],
 oN 19 (.mv (cI 0)) []])
 (.block 0
 (.loop
 (.seq (.reg [
 oN 20 (.bin .lss (.t 19) (.t 18)) []])
 (.seq (.cond (.t 20)
 .skip
 (.exit 0))
 (.seq (.block 1
 (.seq (.reg [
 oN 21 (.mv (.t 19)) [],
 oN 3 (.mv (.t 21)) [0,0]])
 (.seq (.reg [
 oN 22 (.mv (.t 0)) [],
 oN 23 (.mv (.t 3)) [],
 oN 24 (.ixS (.t 22) (.t 23)) [0,1],
 oN 25 (.call 53 [(.t 24)]) [2],
 oN 26 (.un .not (.t 25)) [3],
 oN 27 (.mv (.t 26)) [4,3],
 oG 28 (.mv (.t 0)) [5] 27 true,
 oG 29 (.mv (.t 3)) [5] 27 true,
 oG 30 (.ixS (.t 28) (.t 29)) [6,7,5] 27 true,
 oG 31 (.call 52 [(.t 30)]) [8,5,5] 27 true,
 oG 32 (.un .not (.t 31)) [9,5] 27 true,
 oN 33 (.pick (.t 27) (.t 32) (cB false)) [5,10]])
 (.cond (.t 33)
 (.seq (.reg [
 oN 2 (.mv (cB false)) []])
 .ret)
 .skip))))
 (.reg [
 oN 34 (.bin .add (.t 19) (cI 1)) [],
 oN 19 (.mv (.t 34)) [0]])))))))
 (.seq (.reg [
 oN 2 (.mv (cB true)) []])
 .ret))))
theorem Trydp36 : (Tryd.f36.body.map (prep Tryd.prog 35)) = some Trydc36 := by kernel_rfl
def Trydc37 : ACode :=
 (.seq (.reg [
 oN 2 (.mv (cB false)) []])
 (.seq (.reg [
 oN 3 (.mv (.t 0)) [],
 oN 4 (.call 36 [(.t 3)]) [0],
 oN 5 (.mv (.t 4)) [1,1],
 oG 6 (.mv (.t 0)) [2] 5 true,
 oG 7 (.bin .neq (.t 6) (.c (.val (.string ⟨#[116,105,109,101]⟩)))) [3,2] 5 true,
 oN 8 (.pick (.t 5) (.t 7) (cB false)) [2,4],
 oN 2 (.mv (.t 8)) [5,2,0,1,2,3,4,5]])
 .ret))
theorem Trydp37 : (Tryd.f37.body.map (prep Tryd.prog 9)) = some Trydc37 := by kernel_rfl
def Trydc38 : ACode :=
 (.seq (.reg [
 oN 2 (.mv (cB false)) []])
 (.seq (.seq (.reg [
 oN 4 (.mv (.t 0)) [],
 oN 5 (.lens (.t 4)) [0],
 oN 6 (.bin .eql (.t 5) (cI 0)) [1],
 oN 7 (.mv (.t 6)) [2],
 oG 8 (.mv (.t 0)) [3] 7 false,
 oG 9 (.lens (.t 8)) [4,3] 7 false,
 oG 10 (.bin .gtr (.t 9) (cI 24)) [5,3] 7 false,
 oN 11 (.pick (.t 7) (cB true) (.t 10)) [3,6],
 oN 12 (.mv (.t 11)) [7,3],
 oG 13 (.mv (.t 0)) [8] 12 false,
 oG 14 (.ixS (.t 13) (cI 0)) [9,8] 12 false,
 oG 15 (.call 54 [(.t 14)]) [10,8,8] 12 false,
 oG 16 (.un .not (.t 15)) [11,8] 12 false,
 oN 17 (.pick (.t 12) (cB true) (.t 16)) [8,12]])
 (.cond (.t 17)
 (.seq (.reg [
 oN 2 (.mv (cB false)) []])
 .ret)
 .skip))
 (.seq (.seq (.reg [
 oN 3 (.mv (cI 0)) []])
 (.block 0
 (.loop
 (.seq (.seq (.reg [
 oN 18 (.mv (.t 3)) [],
 oN 19 (.mv (.t 0)) [],
 oN 20 (.lens (.t 19)) [1],
 oN 21 (.bin .lss (.t 18) (.t 20)) [0,2]])
 (.cond (.t 21)
 .skip
 (.exit 0)))
 (.seq (.block 1
 (.seq (.reg [
 oN 24 (.mv (.t 0)) [],
 oN 25 (.mv (.t 3)) [],
 oN 26 (.ixS (.t 24) (.t 25)) [0,1],
 oN 27 (.call 54 [(.t 26)]) [2],
 oN 28 (.un .not (.t 27)) [3],
 oN 29 (.mv (.t 28)) [4,3],
 oG 30 (.mv (.t 0)) [5] 29 true,
 oG 31 (.mv (.t 3)) [5] 29 true,
 oG 32 (.ixS (.t 30) (.t 31)) [6,7,5] 29 true,
 oG 33 (.bin .lss (.t 32) (.c (.val (.int .u8 48)))) [8,5] 29 true,
 oG 34 (.mv (.t 33)) [9,5,5] 29 true,
 oG 35 (.mv (.t 0)) [10] 34 false,
 oG 36 (.mv (.t 3)) [10] 34 false,
 oG 37 (.ixS (.t 35) (.t 36)) [11,12,10] 34 false,
 oG 38 (.bin .gtr (.t 37) (.c (.val (.int .u8 57)))) [13,10] 34 false,
 oG 39 (.pick (.t 34) (cB true) (.t 38)) [10,14,5] 29 true,
 oN 40 (.pick (.t 29) (.t 39) (cB false)) [5,15]])
 (.cond (.t 40)
 (.seq (.reg [
 oN 2 (.mv (cB false)) []])
 .ret)
 .skip)))
 (.reg [
 oN 22 (.mv (.t 3)) [],
 oN 23 (.bin .add (.t 22) (cI 1)) [0],
 oN 3 (.mv (.t 23)) [1,0,1]]))))))
 (.seq (.reg [
 oN 2 (.mv (cB true)) []])
 .ret))))
theorem Trydp38 : (Tryd.f38.body.map (prep Tryd.prog 41)) = some Trydc38 := by kernel_rfl
def Trydc39 : ACode :=
 (.seq (.reg [
 oN 4 (.mv cN) []])
 (.seq (.reg [
 oN 5 (.mv (.t 0)) [],
 oN 6 (.mv (.t 1)) [],
 oN 7 (.call 55 [(.t 5), (.t 6), (cI 0), (cI (-1))]) [0,1],
 oN 4 (.mv (.t 7)) [2,2,0,1,2]])
 .ret))
theorem Trydp39 : (Tryd.f39.body.map (prep Tryd.prog 8)) = some Trydc39 := by kernel_rfl
def Trydc40 : ACode :=
 (.seq (.reg [
 oN 1 (.box (.t 0)) [],
 oN 2 (.mv (.c (.val .nilFunc))) []])
 (.seq (.reg [
 oN 3 (.mkfn 56 [(.t 1)]) [],
 oN 2 (.mv (.t 3)) [0,0]])
 .ret))
theorem Trydp40 : (Tryd.f40.body.map (prep Tryd.prog 4)) = some Trydc40 := by kernel_rfl
def Trydc41 : ACode :=
 (.seq (.reg [
 oN 4 (.mv cN) [],
 oN 5 (.mv (cI 0)) [0]])
 (.seq (.block 0
 (.seq (.reg [
 oN 7 (.mv (.t 1)) [],
 oN 8 (.call 58 [(.t 7), (.c (.val (.string ⟨#[58]⟩)))]) [0],
 oN 6 (.mv (.t 8)) [1,1]])
 (.cond (.t 6)
 (.seq (.reg [
 oN 4 (.mv cN) [],
 oN 5 (.mv (cI 4)) [0,0]])
 .ret)
 (.seq (.reg [
 oN 10 (.mv (.t 0)) [],
 oN 11 (.len (.t 10)) [0],
 oN 12 (.bin .eql (.t 11) (cI 16)) [1],
 oN 9 (.mv (.t 12)) [2]])
 (.cond (.t 9)
 (.seq (.reg [
 oN 4 (.mv cN) [],
 oN 5 (.mv (cI 5)) [0,0]])
 .ret)
 (.seq (.reg [
 oN 14 (.mv (.t 1)) [],
 oN 15 (.call 36 [(.t 14)]) [0],
 oN 16 (.un .not (.t 15)) [1],
 oN 13 (.mv (.t 16)) [2,1]])
 (.cond (.t 13)
 (.seq (.reg [
 oN 4 (.mv cN) [],
 oN 5 (.mv (cI 8)) [0,0]])
 .ret)
 (.seq (.reg [
 oN 18 (.mv (.t 0)) [],
 oN 19 (.mv (.t 1)) [],
 oN 20 (.call 59 [(.t 18), (.t 19)]) [0,1],
 oN 17 (.mv (.t 20)) [2,2]])
 (.cond (.t 17)
 (.seq (.reg [
 oN 4 (.mv cN) [],
 oN 5 (.mv (cI 7)) [0,0]])
 .ret)
 .skip)))))))))
 (.seq (.reg [
 oN 21 (.mv (.t 0)) [],
 oN 22 (.mv (.t 1)) [],
 oN 23 (.build [(.val (.string ⟨#[]⟩)), vN] [(0, 1, (.t 22))]) [1],
 oN 24 (.bslice 2 [(.t 23)]) [2],
 oN 25 (.app 2 40 (.t 21) (.t 24)) [0,3],
 oN 4 (.mv (.t 25)) [4,4,0,1,2,3,4],
 oN 5 (.mv (cI 0)) [5,0,1,2,3,4,5]])
 .ret)))
theorem Trydp41 : (Tryd.f41.body.map (prep Tryd.prog 26)) = some Trydc41 := by kernel_rfl
def Trydc42 : ACode :=
 (.seq (.reg [
 oN 4 (.mv (cI 0)) []])
 (.seq (.reg [
 oN 12 (.mv (.t 1)) [],
 oN 13 (.call 57 [(.t 12), (.c (.val (.string ⟨#[58]⟩)))]) [0],
 oN 11 (.mv (.t 13)) [1],
 oN 14 (.ext (.t 11) 0) [2],
 oN 15 (.ext (.t 11) 1) [2],
 oN 16 (.ext (.t 11) 2) [2],
 oN 5 (.mv (.t 14)) [3,1,0,1,2,3],
 oN 6 (.mv (.t 15)) [4,6,0,1,2,3,4,6],
 oN 7 (.mv (.t 16)) [5,7,0,1,2,3,4,5,6,7]])
 (.seq (.reg [
 oN 8 (.mv (cI (-1))) []])
 (.seq (.seq (.reg [
 oN 17 (.ld 3 true (.g 0)) [],
 oN 18 (.mv (cI 0)) []])
 (.block 0
 (.loop
 (.seq (.reg [
 oN 19 (.bin .lss (.t 18) (cI 3)) []])
 (.seq (.cond (.t 19)
 .skip
 (.exit 0))
 (.seq (.block 1
 (.seq (.reg [
 oN 20 (.mv (.t 18)) [],
 oN 21 (.ixA 1 3 false (.t 17) (.t 18)) [],
 oN 9 (.mv (.t 20)) [0,0,1],
 oN 10 (.mv (.t 21)) [1,2,0,1,2]])
 (.seq (.reg [
 oN 22 (.mv (.t 10)) [],
 oN 23 (.mv (.t 6)) [],
 oN 24 (.bin .eql (.t 22) (.t 23)) [0,1]])
 (.cond (.t 24)
 (.reg [
 oN 25 (.mv (.t 9)) [],
 oN 8 (.mv (.t 25)) [0,0]])
 .skip))))
 (.reg [
 oN 26 (.bin .add (.t 18) (cI 1)) [],
 oN 18 (.mv (.t 26)) [0]])))))))
 (.seq (.block 2
 (.seq (.reg [
 oN 28 (.mv (.t 8)) [],
 oN 29 (.bin .lss (.t 28) (cI 0)) [0],
 oN 27 (.mv (.t 29)) [1]])
 (.cond (.t 27)
 (.seq (.reg [
 oN 4 (.mv (cI 4)) []])
 .ret)
 (.seq (.reg [
 oN 31 (.mv (.t 0)) [],
 oN 32 (.nilchk (.t 31)) [0],
 oN 33 (.fa 1 (.t 32)) [1],
 oN 34 (.ld 1 false (.t 33)) [2],
 oN 35 (.len (.t 34)) [3],
 oN 36 (.bin .eql (.t 35) (cI 8)) [4],
 oN 30 (.mv (.t 36)) [5]])
 (.cond (.t 30)
 (.seq (.reg [
 oN 4 (.mv (cI 5)) []])
 .ret)
 (.seq (.reg [
 oN 38 (.mv (.t 5)) [],
 oN 39 (.call 37 [(.t 38)]) [0],
 oN 40 (.un .not (.t 39)) [1],
 oN 37 (.mv (.t 40)) [2,1]])
 (.cond (.t 37)
 (.seq (.reg [
 oN 4 (.mv (cI 8)) []])
 .ret)
 (.seq (.reg [
 oN 42 (.mv (.t 0)) [],
 oN 43 (.nilchk (.t 42)) [0],
 oN 44 (.fa 1 (.t 43)) [1],
 oN 45 (.ld 1 false (.t 44)) [2],
 oN 46 (.mv (.t 5)) [],
 oN 47 (.call 34 [(.t 45), (.t 46)]) [3,4],
 oN 48 (.bin .geq (.t 47) (cI 0)) [5],
 oN 41 (.mv (.t 48)) [6,5]])
 (.cond (.t 41)
 (.seq (.reg [
 oN 4 (.mv (cI 7)) []])
 .ret)
 .skip)))))))))
 (.seq (.reg [
 oN 49 (.mv (.t 0)) [],
 oN 50 (.mv (.t 0)) [],
 oN 51 (.nilchk (.t 50)) [1],
 oN 52 (.fa 1 (.t 51)) [2],
 oN 53 (.ld 1 false (.t 52)) [3],
 oN 54 (.mv (.t 5)) [],
 oN 55 (.mv (.t 8)) [],
 oN 56 (.build [(.val (.string ⟨#[]⟩)), (vI 0)] [(0, 1, (.t 54)), (1, 1, (.t 55))]) [5,6],
 oN 57 (.bslice 2 [(.t 56)]) [7],
 oN 58 (.app 2 24 (.t 53) (.t 57)) [4,8],
 oN 59 (.nilchk (.t 49)) [0,0,1,2,3,4,5,6,7,8,9],
 oN 60 (.fa 1 (.t 59)) [10,0,1,2,3,4,5,6,7,8,9],
 eN (.st 1 (.t 60) (.t 58)) [11,9,9,0,1,2,3,4,5,6,7,8,9]])
 (.seq (.reg [
 oN 4 (.mv (cI 0)) []])
 .ret)))))))
theorem Trydp42 : (Tryd.f42.body.map (prep Tryd.prog 61)) = some Trydc42 := by kernel_rfl
def Trydc43 : ACode :=
 (.seq (.reg [
 oN 4 (.mv (cI 0)) []])
 (.seq (.block 0
 (.loop
 (.seq (.seq (.reg [
 oN 5 (.mv (.t 1)) [],
 oN 6 (.mv (.t 0)) [],
 oN 7 (.lens (.t 6)) [1],
 oN 8 (.bin .lss (.t 5) (.t 7)) [0,2],
 oN 9 (.mv (.t 8)) [3],
 oG 10 (.mv (.t 0)) [4] 9 true,
 oG 11 (.mv (.t 1)) [4] 9 true,
 oG 12 (.ixS (.t 10) (.t 11)) [5,6,4] 9 true,
 oG 13 (.bin .neq (.t 12) (.c (.val (.int .u8 32)))) [7,4] 9 true,
 oN 14 (.pick (.t 9) (.t 13) (cB false)) [4,8],
 oN 15 (.mv (.t 14)) [9,4],
 oG 16 (.mv (.t 0)) [10] 15 true,
 oG 17 (.mv (.t 1)) [10] 15 true,
 oG 18 (.ixS (.t 16) (.t 17)) [11,12,10] 15 true,
 oG 19 (.bin .neq (.t 18) (.c (.val (.int .u8 10)))) [13,10] 15 true,
 oN 20 (.pick (.t 15) (.t 19) (cB false)) [10,14]])
 (.cond (.t 20)
 .skip
 (.exit 0)))
 (.block 1
 (.reg [
 oN 21 (.mv (.t 1)) [],
 oN 22 (.bin .add (.t 21) (cI 1)) [0],
 oN 1 (.mv (.t 22)) [1,0,1]])))))
 (.seq (.reg [
 oN 23 (.mv (.t 1)) [],
 oN 4 (.mv (.t 23)) [0,0]])
 .ret)))
theorem Trydp43 : (Tryd.f43.body.map (prep Tryd.prog 24)) = some Trydc43 := by kernel_rfl
def Trydc44 : ACode :=
 (.seq (.reg [
 oN 4 (.mv cN) [],
 oN 5 (.mv (cI 0)) [0]])
 (.seq (.seq (.reg [
 oN 6 (.mv (cI 0)) []])
 (.block 0
 (.loop
 (.seq (.seq (.reg [
 oN 7 (.mv (.t 6)) [],
 oN 8 (.mv (.t 1)) [],
 oN 9 (.lens (.t 8)) [1],
 oN 10 (.bin .lss (.t 7) (.t 9)) [0,2]])
 (.cond (.t 10)
 .skip
 (.exit 0)))
 (.seq (.block 1
 (.seq (.reg [
 oN 13 (.mv (.t 1)) [],
 oN 14 (.mv (.t 6)) [],
 oN 15 (.ixS (.t 13) (.t 14)) [0,1],
 oN 16 (.bin .eql (.t 15) (.c (.val (.int .u8 58)))) [2]])
 (.cond (.t 16)
 (.seq (.reg [
 oN 17 (.mv (.t 0)) [],
 oN 4 (.mv (.t 17)) [0,0],
 oN 5 (.mv (cI 4)) [1,0,1]])
 .ret)
 .skip)))
 (.reg [
 oN 11 (.mv (.t 6)) [],
 oN 12 (.bin .add (.t 11) (cI 1)) [0],
 oN 6 (.mv (.t 12)) [1,0,1]]))))))
 (.seq (.seq (.reg [
 oN 18 (.mv (.t 0)) [],
 oN 19 (.len (.t 18)) [0],
 oN 20 (.bin .geq (.t 19) (cI 16)) [1]])
 (.cond (.t 20)
 (.seq (.reg [
 oN 21 (.mv (.t 0)) [],
 oN 4 (.mv (.t 21)) [0,0],
 oN 5 (.mv (cI 5)) [1,0,1]])
 .ret)
 .skip))
 (.seq (.seq (.reg [
 oN 22 (.mv (.t 1)) [],
 oN 23 (.call 38 [(.t 22)]) [0],
 oN 24 (.un .not (.t 23)) [1]])
 (.cond (.t 24)
 (.seq (.reg [
 oN 25 (.mv (.t 0)) [],
 oN 4 (.mv (.t 25)) [0,0],
 oN 5 (.mv (cI 8)) [1,0,1]])
 .ret)
 .skip))
 (.seq (.seq (.reg [
 oN 26 (.mv (.t 0)) [],
 oN 27 (.mv (.t 1)) [],
 oN 28 (.call 49 [(.t 26), (.t 27)]) [0,1],
 oN 29 (.bin .geq (.t 28) (cI 0)) [2]])
 (.cond (.t 29)
 (.seq (.reg [
 oN 30 (.mv (.t 0)) [],
 oN 4 (.mv (.t 30)) [0,0],
 oN 5 (.mv (cI 7)) [1,0,1]])
 .ret)
 .skip))
 (.seq (.reg [
 oN 31 (.mv (.t 0)) [],
 oN 32 (.mv (.t 1)) [],
 oN 33 (.build [(.val (.string ⟨#[]⟩)), vN] [(0, 1, (.t 32))]) [1],
 oN 34 (.bslice 2 [(.t 33)]) [2],
 oN 35 (.app 2 40 (.t 31) (.t 34)) [0,3],
 oN 4 (.mv (.t 35)) [4,4,0,1,2,3,4],
 oN 5 (.mv (cI 0)) [5,0,1,2,3,4,5]])
 .ret))))))
theorem Trydp44 : (Tryd.f44.body.map (prep Tryd.prog 36)) = some Trydc44 := by kernel_rfl
def Trydc45 : ACode :=
 (.seq (.reg [
 oN 2 (.box (.t 0)) [],
 oN 4 (.box (.c (.agg [(.val (.string ⟨#[]⟩)), vN]))) [],
 oN 5 (.mv (cI 0)) []])
 (.seq (.reg [
 oN 8 (.mv (.t 1)) [],
 oN 9 (.call 60 [(.t 8)]) [0],
 oN 6 (.mv (.t 9)) [1,1,0,1]])
 (.seq (.seq (.reg [
 oN 10 (.mv (.t 6)) [],
 oN 11 (.bin .lss (.t 10) (cI 0)) [0],
 oN 12 (.mv (.t 11)) [1],
 oG 13 (.mv (.t 1)) [2] 12 false,
 oG 14 (.mv (.t 6)) [2] 12 false,
 oG 15 (.bin .add (.t 14) (cI 1)) [4,2] 12 false,
 oG 16 (.slcs (.t 13) (some (.t 15)) none) [3,5,2] 12 false,
 oG 17 (.call 61 [(.t 16)]) [6,2,2] 12 false,
 oG 18 (.bin .lss (.t 17) (cI 0)) [7,2] 12 false,
 oN 19 (.pick (.t 12) (cB true) (.t 18)) [2,8]])
 (.cond (.t 19)
 (.seq (.reg [
 oN 20 (.ld 2 true (.t 2)) [],
 eN (.st 2 (.t 4) (.t 20)) [0,0],
 oN 5 (.mv (cI 4)) [1,0,1]])
 .ret)
 .skip))
 (.seq (.seq (.reg [
 oN 21 (.fa 1 (.t 2)) [],
 oN 22 (.ld 1 false (.t 21)) [0],
 oN 23 (.len (.t 22)) [1],
 oN 24 (.bin .geq (.t 23) (cI 8)) [2]])
 (.cond (.t 24)
 (.seq (.reg [
 oN 25 (.ld 2 true (.t 2)) [],
 eN (.st 2 (.t 4) (.t 25)) [0,0],
 oN 5 (.mv (cI 5)) [1,0,1]])
 .ret)
 .skip))
 (.seq (.reg [
 oN 26 (.mv (.t 1)) [],
 oN 27 (.mv (.t 6)) [],
 oN 28 (.slcs (.t 26) none (some (.t 27))) [0,1],
 oN 7 (.mv (.t 28)) [2,0,1,2]])
 (.seq (.seq (.reg [
 oN 29 (.mv (.t 7)) [],
 oN 30 (.call 38 [(.t 29)]) [0],
 oN 31 (.un .not (.t 30)) [1],
 oN 32 (.mv (.t 31)) [2,1],
 oG 33 (.mv (.t 7)) [3] 32 false,
 oG 34 (.bin .eql (.t 33) (.c (.val (.string ⟨#[116,105,109,101]⟩)))) [4,3] 32 false,
 oN 35 (.pick (.t 32) (cB true) (.t 34)) [3,5]])
 (.cond (.t 35)
 (.seq (.reg [
 oN 36 (.ld 2 true (.t 2)) [],
 eN (.st 2 (.t 4) (.t 36)) [0,0],
 oN 5 (.mv (cI 8)) [1,0,1]])
 .ret)
 .skip))
 (.seq (.seq (.reg [
 oN 37 (.ld 2 true (.t 2)) [],
 oN 38 (.mv (.t 7)) [],
 oN 39 (.call 35 [(.t 37), (.t 38)]) [0,1],
 oN 40 (.bin .geq (.t 39) (cI 0)) [2]])
 (.cond (.t 40)
 (.seq (.reg [
 oN 41 (.ld 2 true (.t 2)) [],
 eN (.st 2 (.t 4) (.t 41)) [0,0],
 oN 5 (.mv (cI 7)) [1,0,1]])
 .ret)
 .skip))
 (.seq (.draw [
 oN 42 (.fa 1 (.t 2)) [],
 oN 43 (.ld 1 false (.t 42)) [0],
 oN 44 (.mv (.t 7)) [],
 oN 45 (.mv (.t 1)) [],
 oN 46 (.mv (.t 6)) [],
 oN 47 (.bin .add (.t 46) (cI 1)) [4],
 oN 48 (.slcs (.t 45) (some (.t 47)) none) [3,5],
 oN 49 (.call 61 [(.t 48)]) [6],
 oN 50 (.build [(.val (.string ⟨#[]⟩)), (vI 0)] [(0, 1, (.t 44)), (1, 1, (.t 49))]) [2,7],
 oN 51 (.bslice 2 [(.t 50)]) [8],
 oN 52 (.app 2 24 (.t 43) (.t 51)) [1,9,7],
 oN 53 (.fa 1 (.t 2)) [0,1,2,3,4,5,6,7,8,9,10],
 eN (.st 1 (.t 53) (.t 52)) [11,10,10,0,1,2,3,4,5,6,7,8,9,10]])
 (.seq (.reg [
 oN 54 (.ld 2 true (.t 2)) [],
 eN (.st 2 (.t 4) (.t 54)) [0,0],
 oN 5 (.mv (cI 0)) [1,0,1]])
 .ret)))))))))
theorem Trydp45 : (Tryd.f45.body.map (prep Tryd.prog 55)) = some Trydc45 := by kernel_rfl
def Trydc46 : ACode :=
 (.seq (.reg [
 oN 2 (.box (.t 0)) [],
 oN 3 (.box (.t 1)) [],
 oN 4 (.mv (cB false)) []])
 (.seq (.seq (.reg [
 oN 6 (.fa 0 (.t 2)) [],
 oN 7 (.ld 1 false (.t 6)) [0],
 oN 8 (.fa 0 (.t 3)) [],
 oN 9 (.ld 1 false (.t 8)) [2],
 oN 10 (.bin .neq (.t 7) (.t 9)) [1,3],
 oN 11 (.mv (.t 10)) [4],
 oG 12 (.fa 1 (.t 2)) [5] 11 false,
 oG 13 (.ld 1 false (.t 12)) [6,5] 11 false,
 oG 14 (.len (.t 13)) [7,5] 11 false,
 oG 15 (.fa 1 (.t 3)) [5] 11 false,
 oG 16 (.ld 1 false (.t 15)) [9,5] 11 false,
 oG 17 (.len (.t 16)) [10,5] 11 false,
 oG 18 (.bin .neq (.t 14) (.t 17)) [8,11,5] 11 false,
 oN 19 (.pick (.t 11) (cB true) (.t 18)) [5,12]])
 (.cond (.t 19)
 (.seq (.reg [
 oN 4 (.mv (cB false)) []])
 .ret)
 .skip))
 (.seq (.seq (.reg [
 oN 5 (.mv (cI 0)) []])
 (.block 0
 (.loop
 (.seq (.seq (.reg [
 oN 20 (.mv (.t 5)) [],
 oN 21 (.fa 1 (.t 2)) [],
 oN 22 (.ld 1 false (.t 21)) [1],
 oN 23 (.len (.t 22)) [2],
 oN 24 (.bin .lss (.t 20) (.t 23)) [0,3]])
 (.cond (.t 24)
 .skip
 (.exit 0)))
 (.seq (.block 1
 (.seq (.draw [
 oN 27 (.fa 1 (.t 2)) [],
 oN 28 (.ld 1 false (.t 27)) [0],
 oN 29 (.mv (.t 5)) [],
 oN 30 (.ia 2 (.t 28) (.t 29)) [1,2],
 oN 31 (.ld 2 true (.t 30)) [3],
 oN 32 (.fa 1 (.t 3)) [],
 oN 33 (.ld 1 false (.t 32)) [5],
 oN 34 (.mv (.t 5)) [],
 oN 35 (.ia 2 (.t 33) (.t 34)) [6,7],
 oN 36 (.ld 2 true (.t 35)) [8],
 oN 37 (.eqst true [.str, .int] (.t 31) (.t 36)) [4,9]])
 (.cond (.t 37)
 (.seq (.reg [
 oN 4 (.mv (cB false)) []])
 .ret)
 .skip)))
 (.reg [
 oN 25 (.mv (.t 5)) [],
 oN 26 (.bin .add (.t 25) (cI 1)) [0],
 oN 5 (.mv (.t 26)) [1,0,1]]))))))
 (.seq (.reg [
 oN 4 (.mv (cB true)) []])
 .ret))))
theorem Trydp46 : (Tryd.f46.body.map (prep Tryd.prog 38)) = some Trydc46 := by kernel_rfl
def Trydc47 : ACode :=
 (.seq (.reg [
 oN 4 (.mv (cI 0)) [],
 oN 5 (.mv (.c (.val .nilIface))) [0]])
 (.seq (.reg [
 oN 6 (.mv (.t 0)) [],
 oN 7 (.call 62 [(.t 6)]) [0]])
 (.seq (.reg [
 oN 8 (.mv (.t 0)) [],
 oN 9 (.mv (.t 0)) [],
 oN 10 (.nilchk (.t 9)) [1],
 oN 11 (.fa 1 (.t 10)) [2],
 oN 12 (.ld 1 false (.t 11)) [3],
 oN 13 (.mv (.t 1)) [],
 oN 14 (.appb 5 1 (.t 12) (.t 13)) [4,5],
 oN 15 (.nilchk (.t 8)) [0,0,1,2,3,4,5,6],
 oN 16 (.fa 1 (.t 15)) [7,0,1,2,3,4,5,6],
 eN (.st 1 (.t 16) (.t 14)) [8,6,6,0,1,2,3,4,5,6]])
 (.seq (.reg [
 oN 17 (.mv (.t 1)) [],
 oN 18 (.lens (.t 17)) [0],
 oN 4 (.mv (.t 18)) [1,0,1],
 oN 5 (.mv (.c (.val .nilIface))) [2,0,1,2]])
 .ret))))
theorem Trydp47 : (Tryd.f47.body.map (prep Tryd.prog 19)) = some Trydc47 := by kernel_rfl
def Trydc48 : ACode :=
 (.seq (.reg [
 oN 2 (.mv (.c (.val (.string ⟨#[]⟩)))) []])
 (.seq (.draw [
 oN 3 (.mv (.t 0)) [],
 oN 4 (.nilchk (.t 3)) [0],
 oN 5 (.fa 1 (.t 4)) [1],
 oN 6 (.ld 1 false (.t 5)) [2],
 oN 7 (.bad) [3],
 oN 8 (.mv (.t 0)) [],
 oN 9 (.nilchk (.t 8)) [5],
 oN 10 (.fa 1 (.t 9)) [6],
 oN 11 (.ld 1 false (.t 10)) [7],
 oN 12 (.len (.t 11)) [8],
 oN 13 (.bad) [4,9],
 oN 2 (.mv (.t 13)) [10,0,1,2,3,4,5,6,7,8,9,10]])
 .ret))
theorem Trydp48 : (Tryd.f48.body.map (prep Tryd.prog 14)) = some Trydc48 := by kernel_rfl
def Trydc49 : ACode :=
 (.seq (.reg [
 oN 4 (.mv (cI 0)) []])
 (.seq (.seq (.reg [
 oN 5 (.mv (cI 0)) []])
 (.block 0
 (.loop
 (.seq (.seq (.reg [
 oN 6 (.mv (.t 5)) [],
 oN 7 (.mv (.t 0)) [],
 oN 8 (.len (.t 7)) [1],
 oN 9 (.bin .lss (.t 6) (.t 8)) [0,2]])
 (.cond (.t 9)
 .skip
 (.exit 0)))
 (.seq (.block 1
 (.seq (.reg [
 oN 12 (.mv (.t 0)) [],
 oN 13 (.mv (.t 5)) [],
 oN 14 (.ia 2 (.t 12) (.t 13)) [0,1],
 oN 15 (.fa 0 (.t 14)) [2],
 oN 16 (.ld 1 false (.t 15)) [3],
 oN 17 (.mv (.t 1)) [],
 oN 18 (.bin .eql (.t 16) (.t 17)) [4,5]])
 (.cond (.t 18)
 (.seq (.reg [
 oN 19 (.mv (.t 5)) [],
 oN 4 (.mv (.t 19)) [0,0]])
 .ret)
 .skip)))
 (.reg [
 oN 10 (.mv (.t 5)) [],
 oN 11 (.bin .add (.t 10) (cI 1)) [0],
 oN 5 (.mv (.t 11)) [1,0,1]]))))))
 (.seq (.reg [
 oN 4 (.mv (cI (-1))) []])
 .ret)))
theorem Trydp49 : (Tryd.f49.body.map (prep Tryd.prog 20)) = some Trydc49 := by kernel_rfl
def Trydc52 : ACode :=
 (.seq (.reg [
 oN 2 (.mv (cB false)) []])
 (.seq (.reg [
 oN 3 (.mv (.t 0)) [],
 oN 4 (.bin .geq (.t 3) (.c (.val (.int .u8 48)))) [0],
 oN 5 (.mv (.t 4)) [1],
 oG 6 (.mv (.t 0)) [2] 5 true,
 oG 7 (.bin .leq (.t 6) (.c (.val (.int .u8 57)))) [3,2] 5 true,
 oN 8 (.pick (.t 5) (.t 7) (cB false)) [2,4],
 oN 2 (.mv (.t 8)) [5,2,0,1,2,3,4,5]])
 .ret))
theorem Trydp52 : (Tryd.f52.body.map (prep Tryd.prog 9)) = some Trydc52 := by kernel_rfl
def Trydc53 : ACode :=
 (.seq (.reg [
 oN 2 (.mv (cB false)) []])
 (.seq (.reg [
 oN 3 (.mv (.t 0)) [],
 oN 4 (.bin .eql (.t 3) (.c (.val (.int .u8 95)))) [0],
 oN 5 (.mv (.t 4)) [1],
 oG 6 (.mv (.t 0)) [2] 5 false,
 oG 7 (.bin .geq (.t 6) (.c (.val (.int .u8 97)))) [3,2] 5 false,
 oG 8 (.mv (.t 7)) [4,2,2] 5 false,
 oG 9 (.mv (.t 0)) [5] 8 true,
 oG 10 (.bin .leq (.t 9) (.c (.val (.int .u8 122)))) [6,5] 8 true,
 oG 11 (.pick (.t 8) (.t 10) (cB false)) [5,7,2] 5 false,
 oN 12 (.pick (.t 5) (cB true) (.t 11)) [2,8],
 oN 13 (.mv (.t 12)) [9,5],
 oG 14 (.mv (.t 0)) [10] 13 false,
 oG 15 (.bin .geq (.t 14) (.c (.val (.int .u8 65)))) [11,10] 13 false,
 oG 16 (.mv (.t 15)) [12,10,10] 13 false,
 oG 17 (.mv (.t 0)) [13] 16 true,
 oG 18 (.bin .leq (.t 17) (.c (.val (.int .u8 90)))) [14,13] 16 true,
 oG 19 (.pick (.t 16) (.t 18) (cB false)) [13,15,10] 13 false,
 oN 20 (.pick (.t 13) (cB true) (.t 19)) [10,16],
 oN 2 (.mv (.t 20)) [17,13,0,1,2,3,4,5,6,7,8,9,10,11,12,13,14,15,16,17]])
 .ret))
theorem Trydp53 : (Tryd.f53.body.map (prep Tryd.prog 21)) = some Trydc53 := by kernel_rfl
def Trydc54 : ACode :=
 (.seq (.reg [
 oN 2 (.mv (cB false)) []])
 (.seq (.reg [
 oN 3 (.mv (.t 0)) [],
 oN 4 (.bin .geq (.t 3) (.c (.val (.int .u8 97)))) [0],
 oN 5 (.mv (.t 4)) [1],
 oG 6 (.mv (.t 0)) [2] 5 true,
 oG 7 (.bin .leq (.t 6) (.c (.val (.int .u8 122)))) [3,2] 5 true,
 oN 8 (.pick (.t 5) (.t 7) (cB false)) [2,4],
 oN 9 (.mv (.t 8)) [5,2],
 oG 10 (.mv (.t 0)) [6] 9 false,
 oG 11 (.bin .geq (.t 10) (.c (.val (.int .u8 65)))) [7,6] 9 false,
 oG 12 (.mv (.t 11)) [8,6,6] 9 false,
 oG 13 (.mv (.t 0)) [9] 12 true,
 oG 14 (.bin .leq (.t 13) (.c (.val (.int .u8 90)))) [10,9] 12 true,
 oG 15 (.pick (.t 12) (.t 14) (cB false)) [9,11,6] 9 false,
 oN 16 (.pick (.t 9) (cB true) (.t 15)) [6,12],
 oN 17 (.mv (.t 16)) [13,9],
 oG 18 (.mv (.t 0)) [14] 17 false,
 oG 19 (.bin .eql (.t 18) (.c (.val (.int .u8 95)))) [15,14] 17 false,
 oN 20 (.pick (.t 17) (cB true) (.t 19)) [14,16],
 oN 2 (.mv (.t 20)) [17,14,0,1,2,3,4,5,6,7,8,9,10,11,12,13,14,15,16,17]])
 .ret))
theorem Trydp54 : (Tryd.f54.body.map (prep Tryd.prog 21)) = some Trydc54 := by kernel_rfl
def Trydc56 : ACode :=
 (.seq (.reg [
 oN 3 (.mv (cI 0)) []])
 (.block 0
 (.loop
 (.seq (.seq (.reg [
 oN 7 (.mv (.t 3)) [],
 oN 8 (.ld 1 false (.t 1)) [],
 oN 9 (.lens (.t 8)) [1],
 oN 10 (.bin .lss (.t 7) (.t 9)) [0,2]])
 (.cond (.t 10)
 .skip
 (.exit 0)))
 (.block 1
 (.seq (.seq (.reg [
 oN 11 (.ld 1 false (.t 1)) [],
 oN 12 (.mv (.t 3)) [],
 oN 13 (.ixS (.t 11) (.t 12)) [0,1],
 oN 14 (.bin .eql (.t 13) (.c (.val (.int .u8 32)))) [2]])
 (.cond (.t 14)
 (.seq (.reg [
 oN 15 (.mv (.t 3)) [],
 oN 16 (.bin .add (.t 15) (cI 1)) [0],
 oN 3 (.mv (.t 16)) [1,0,1]])
 (.exit 1))
 .skip))
 (.seq (.reg [
 oN 18 (.ld 1 false (.t 1)) [],
 oN 19 (.mv (.t 3)) [],
 oN 20 (.slcs (.t 18) (some (.t 19)) none) [0,1],
 oN 21 (.call 57 [(.t 20), (.c (.val (.string ⟨#[32]⟩)))]) [2],
 oN 17 (.mv (.t 21)) [3],
 oN 22 (.ext (.t 17) 0) [4],
 oN 23 (.ext (.t 17) 1) [4],
 oN 24 (.ext (.t 17) 2) [4],
 oN 4 (.mv (.t 22)) [5,3,0,1,2,3,4,5],
 oN 5 (.mv (.t 23)) [6,8,0,1,2,3,4,5,6,8],
 oN 6 (.mv (.t 24)) [7,9,0,1,2,3,4,5,6,7,8,9]])
 (.seq (.seq (.reg [
 oN 25 (.mv (.t 0)) [],
 oN 26 (.mv (.t 3)) [],
 oN 27 (.mv (.t 4)) [],
 oN 28 (.callv (.t 25) [(.t 26), (.t 27)]) [0,1,2],
 oN 29 (.un .not (.t 28)) [3]])
 (.cond (.t 29)
 .ret
 .skip))
 (.reg [
 oN 30 (.mv (.t 3)) [],
 oN 31 (.mv (.t 4)) [],
 oN 32 (.lens (.t 31)) [1],
 oN 33 (.bin .add (.t 30) (.t 32)) [0,2],
 oN 3 (.mv (.t 33)) [3,0,1,2,3]])))))))))
theorem Trydp56 : (Tryd.f56.body.map (prep Tryd.prog 34)) = some Trydc56 := by kernel_rfl
def Trydc57 : ACode :=
 (.seq (.reg [
 oN 4 (.mv (.c (.val (.string ⟨#[]⟩)))) [],
 oN 5 (.mv (.c (.val (.string ⟨#[]⟩)))) [0],
 oN 6 (.mv (cB false)) [1]])
 (.seq (.reg [
 oN 7 (.mv (.t 0)) [],
 oN 8 (.mv (.t 1)) [],
 oN 9 (.call 69 [(.t 7), (.t 8)]) [0,1],
 oN 10 (.ext (.t 9) 0) [2],
 oN 11 (.ext (.t 9) 1) [2],
 oN 12 (.ext (.t 9) 2) [2],
 oN 4 (.mv (.t 10)) [3,2,0,1,2,3,4,5],
 oN 5 (.mv (.t 11)) [4,6,0,1,2,3,4,5,6],
 oN 6 (.mv (.t 12)) [5,7,0,1,2,3,4,5,6,7]])
 .ret))
theorem Trydp57 : (Tryd.f57.body.map (prep Tryd.prog 13)) = some Trydc57 := by kernel_rfl
def Trydc58 : ACode :=
 (.seq (.reg [
 oN 4 (.mv (cB false)) []])
 (.seq (.reg [
 oN 5 (.mv (.t 0)) [],
 oN 6 (.mv (.t 1)) [],
 oN 7 (.call 65 [(.t 5), (.t 6)]) [0,1],
 oN 8 (.bin .geq (.t 7) (cI 0)) [2],
 oN 4 (.mv (.t 8)) [3,2,0,1,2,3]])
 .ret))
theorem Trydp58 : (Tryd.f58.body.map (prep Tryd.prog 9)) = some Trydc58 := by kernel_rfl
def Trydc59 : ACode :=
 (.seq (.reg [
 oN 4 (.mv (cB false)) []])
 (.seq (.seq (.reg [
 oN 7 (.mv (.t 0)) [],
 oN 8 (.len (.t 7)) [0],
 oN 9 (.mv (cI 0)) []])
 (.block 0
 (.loop
 (.seq (.reg [
 oN 10 (.bin .lss (.t 9) (.t 8)) []])
 (.seq (.cond (.t 10)
 .skip
 (.exit 0))
 (.seq (.block 1
 (.seq (.reg [
 oN 11 (.ia 2 (.t 7) (.t 9)) [],
 oN 12 (.ld 2 true (.t 11)) [0],
 oN 6 (.box (.c (.agg [(.val (.string ⟨#[]⟩)), vN]))) [],
 eN (.st 2 (.t 6) (.t 12)) [2,1,0,1,2]])
 (.seq (.reg [
 oN 13 (.fa 0 (.t 6)) [],
 oN 14 (.ld 1 false (.t 13)) [0],
 oN 15 (.mv (.t 1)) [],
 oN 16 (.bin .eql (.t 14) (.t 15)) [1,2]])
 (.cond (.t 16)
 (.seq (.reg [
 oN 4 (.mv (cB true)) []])
 .ret)
 .skip))))
 (.reg [
 oN 17 (.bin .add (.t 9) (cI 1)) [],
 oN 9 (.mv (.t 17)) [0]])))))))
 (.seq (.reg [
 oN 4 (.mv (cB false)) []])
 .ret)))
theorem Trydp59 : (Tryd.f59.body.map (prep Tryd.prog 18)) = some Trydc59 := by kernel_rfl
def Trydc60 : ACode :=
 (.seq (.reg [
 oN 2 (.mv (cI 0)) []])
 (.seq (.reg [
 oN 3 (.mv (cI (-1))) []])
 (.seq (.seq (.reg [
 oN 4 (.mv (cI 0)) []])
 (.block 0
 (.loop
 (.seq (.seq (.reg [
 oN 5 (.mv (.t 4)) [],
 oN 6 (.mv (.t 0)) [],
 oN 7 (.lens (.t 6)) [1],
 oN 8 (.bin .lss (.t 5) (.t 7)) [0,2]])
 (.cond (.t 8)
 .skip
 (.exit 0)))
 (.seq (.block 1
 (.seq (.seq (.reg [
 oN 11 (.mv (.t 0)) [],
 oN 12 (.mv (.t 4)) [],
 oN 13 (.ixS (.t 11) (.t 12)) [0,1],
 oN 14 (.bin .eql (.t 13) (.c (.val (.int .u8 58)))) [2],
 oN 15 (.mv (.t 14)) [3],
 oG 16 (.mv (.t 3)) [4] 15 true,
 oG 17 (.bin .geq (.t 16) (cI 0)) [5,4] 15 true,
 oN 18 (.pick (.t 15) (.t 17) (cB false)) [4,6]])
 (.cond (.t 18)
 (.seq (.reg [
 oN 2 (.mv (cI (-1))) []])
 .ret)
 .skip))
 (.seq (.reg [
 oN 19 (.mv (.t 0)) [],
 oN 20 (.mv (.t 4)) [],
 oN 21 (.ixS (.t 19) (.t 20)) [0,1],
 oN 22 (.bin .eql (.t 21) (.c (.val (.int .u8 58)))) [2]])
 (.cond (.t 22)
 (.reg [
 oN 23 (.mv (.t 4)) [],
 oN 3 (.mv (.t 23)) [0,0]])
 .skip))))
 (.reg [
 oN 9 (.mv (.t 4)) [],
 oN 10 (.bin .add (.t 9) (cI 1)) [0],
 oN 4 (.mv (.t 10)) [1,0,1]]))))))
 (.seq (.reg [
 oN 24 (.mv (.t 3)) [],
 oN 2 (.mv (.t 24)) [0,0]])
 .ret))))
theorem Trydp60 : (Tryd.f60.body.map (prep Tryd.prog 25)) = some Trydc60 := by kernel_rfl
def Trydc61 : ACode :=
 (.seq (.reg [
 oN 2 (.mv (cI 0)) []])
 (.seq (.seq (.reg [
 oN 3 (.mv (cI 0)) []])
 (.block 0
 (.loop
 (.seq (.seq (.reg [
 oN 4 (.mv (.t 3)) [],
 oN 5 (.ld 1 false (.g 1)) [],
 oN 6 (.len (.t 5)) [1],
 oN 7 (.bin .lss (.t 4) (.t 6)) [0,2]])
 (.cond (.t 7)
 .skip
 (.exit 0)))
 (.seq (.block 1
 (.seq (.reg [
 oN 10 (.ld 1 false (.g 1)) [],
 oN 11 (.mv (.t 3)) [],
 oN 12 (.ia 1 (.t 10) (.t 11)) [0,1],
 oN 13 (.ld 1 false (.t 12)) [2],
 oN 14 (.mv (.t 0)) [],
 oN 15 (.bin .eql (.t 13) (.t 14)) [3,4]])
 (.cond (.t 15)
 (.seq (.reg [
 oN 16 (.mv (.t 3)) [],
 oN 2 (.mv (.t 16)) [0,0]])
 .ret)
 .skip)))
 (.reg [
 oN 8 (.mv (.t 3)) [],
 oN 9 (.bin .add (.t 8) (cI 1)) [0],
 oN 3 (.mv (.t 9)) [1,0,1]]))))))
 (.seq (.reg [
 oN 2 (.mv (cI (-1))) []])
 .ret)))
theorem Trydp61 : (Tryd.f61.body.map (prep Tryd.prog 17)) = some Trydc61 := by kernel_rfl
def Trydc62 : ACode :=
 (.seq (.reg [
 oN 2 (.mv (.t 0)) [],
 oN 3 (.nilchk (.t 2)) [0],
 oN 4 (.fa 0 (.t 3)) [1],
 oN 5 (.ld 1 false (.t 4)) [2],
 oN 6 (.bad) [3]])
 (.cond (.t 6)
 (.reg [
 oN 7 (.mv (.t 0)) [],
 oN 8 (.mv (.t 0)) [],
 oN 9 (.bad) [1],
 oN 10 (.call 70 [(.t 9)]) [2],
 oN 11 (.bad) [3],
 oN 12 (.nilchk (.t 7)) [0,0,1,2,3,4],
 oN 13 (.fa 0 (.t 12)) [5,0,1,2,3,4],
 eN (.st 1 (.t 13) (.t 11)) [6,4,3,0,1,2,3,4]])
 (.seq (.reg [
 oN 14 (.mv (.t 0)) [],
 oN 15 (.nilchk (.t 14)) [0],
 oN 16 (.fa 0 (.t 15)) [1],
 oN 17 (.ld 1 false (.t 16)) [2],
 oN 18 (.mv (.t 0)) [],
 oN 19 (.bad) [3,4]])
 (.cond (.t 19)
 .bad
 .skip))))
theorem Trydp62 : (Tryd.f62.body.map (prep Tryd.prog 20)) = some Trydc62 := by kernel_rfl
end Go.Am
end
section
set_option maxHeartbeats 16000000
set_option maxRecDepth 100000
namespace Go.Proofs
open Go.RowKit
theorem copyCheck_used (b : Nat) (w : World) (h0 : w.cell? ⟨b, 0, none⟩ = some (.pointer (some ⟨b, 0, none⟩))) :
 Calls Tryd.prog 62 #[.pointer (some ⟨b, 0, none⟩)] w fun e w' => e = .returned (.tuple #[]) ∧ w' = w := by
 obtain ⟨j, hj, _⟩ := Option.map_eq_some_iff.1 (show (Tryd.prog.info? 87).map (·.size) = some 2 by kernel_rfl)
 go_enter Tryd.func62, Tryd.ntmps62
 go_wp2
 rw [Lib.run_neq_ptr_same w _ Tryd.underlying84 hj]
 go_wp2
 go_end0
 exact ⟨rfl, rfl⟩
theorem copyCheck_fresh (b : Nat) (w : World) (h0 : w.cell? ⟨b, 0, none⟩ = some (.pointer none)) (hsh : w.shape? b = some (87, 2)) (hfz : w.frozen? ⟨b, 0, none⟩ = false) :
 Calls Tryd.prog 62 #[.pointer (some ⟨b, 0, none⟩)] w fun e w' => e = .returned (.tuple #[]) ∧ w' = w.setCell ⟨b, 0, none⟩ (.pointer (some ⟨b, 0, none⟩)) := by
 obtain ⟨j, hj, hjs⟩ := Option.map_eq_some_iff.1 (show (Tryd.prog.info? 87).map (·.size) = some 2 by kernel_rfl)
 go_enter Tryd.func62, Tryd.ntmps62
 go_wp2
 rw [Lib.run_to_unsafe w ⟨b, 0, none⟩ Tryd.underlying84 Tryd.underlying109 hj (by rw [hjs]; decide) hsh (Nat.zero_lt_succ 1)]
 simp only [Result.andThen]
 rw [Oper.upon_value]
 go_wp2
 rw [run_callFunc_extern Tryd.func70 (by kernel_rfl) (by kernel_rfl) (by kernel_rfl) (e := Extern.AbiNoEscape.same) (by kernel_rfl)]
 rw [Lib.run_noEscape]
 simp only [Result.andThen]
 rw [Oper.upon_value]
 go_wp2
 rw [Lib.run_from_unsafe w ⟨b, 0, none⟩ Tryd.underlying109 Tryd.underlying84 hj hsh (by kernel_rfl)]
 simp only [Result.andThen]
 rw [Oper.upon_value]
 go_wp2
 go_end0
 exact ⟨rfl, rfl⟩
end Go.Proofs
end
section
set_option maxHeartbeats 16000000
set_option maxRecDepth 100000
namespace Go.Am
open Go.Proofs
abbrev int (n : Int) : AV := .val (.int .i64 n)
abbrev bool (b : Bool) : AV := .val (.bool b)
abbrev str (s : ByteArray) : AV := .val (.string s)
abbrev u8 (n : Int) : AV := .val (.int .u8 n)
abbrev Bs := List UInt8
structure BaBox where
 f : Bs → ByteArray
 h : ∀ l, f l = ⟨l.toArray⟩
theorem baBox_ne : Nonempty BaBox := ⟨⟨fun l => ⟨l.toArray⟩, fun _ => rfl⟩⟩
noncomputable def ba (l : Bs) : ByteArray := (Classical.choice baBox_ne).f l
theorem ba_eq (l : Bs) : ba l = ⟨l.toArray⟩ := (Classical.choice baBox_ne).h l
theorem ba_data (l : Bs) : (ba l).data.toList = l := by rw [ba_eq]
theorem ba_list (l : Bs) : (ba l).toList = l := by rw [ByteArray.toList_eq, ba_data]
theorem ba_size (l : Bs) : (ba l).size = l.length := by rw [ba_eq]; simp [ByteArray.size]
theorem ba_of (s : ByteArray) : s = ba s.data.toList := by rw [ba_eq]
theorem ba_inj {a b : Bs} (h : ba a = ba b) : a = b := by rw [← ba_data a, ← ba_data b, h]
theorem ba_app (a b : Bs) : ba a ++ ba b = ba (a ++ b) := by
 rw [ba_of (ba a ++ ba b)]; congr 1
 simp [ba_data]
theorem ba_cut (l : Bs) (i j : Nat) : (ba l).extract i j = ba ((l.take j).drop i) := by
 rw [ba_of ((ba l).extract i j)]; congr 1
 simp [ByteArray.data_extract, ba_data, List.drop_take]
def ch (b : UInt8) : Int := b.toNat
theorem ch_inj {a b : UInt8} (h : ch a = ch b) : a = b := by unfold ch at h; exact UInt8.toNat_inj.1 (by omega)
theorem ba_get (l d r : Bs) (c : UInt8) (h : l = d ++ c :: r) : ((ba l).data.getD d.length 0).toNat = c.toNat := by
 have : (ba l).data = l.toArray := by rw [ba_eq]
 rw [this, h]; simp
structure Fld where
 nm : Bs
 kd : Int
structure Sch where
 nm : Bs
 fs : List Fld
structure EncBox where
 fld : Fld → AV
 sch : Sch → AV
 hf : ∀ f, fld f = .agg [str (ba f.nm), int f.kd]
 hs : ∀ s, sch s = .agg [str (ba s.nm), .isl 2 (mapE fld s.fs)]
theorem encBox_ne : Nonempty EncBox := ⟨⟨fun f => .agg [str (ba f.nm), int f.kd], fun s => .agg [str (ba s.nm), .isl 2 (mapE (fun f => .agg [str (ba f.nm), int f.kd]) s.fs)], fun _ => rfl, fun _ => rfl⟩⟩
noncomputable def Fld.enc (f : Fld) : AV := (Classical.choice encBox_ne).fld f
noncomputable def Sch.enc (s : Sch) : AV := (Classical.choice encBox_ne).sch s
theorem Fld.enc_eq (f : Fld) : f.enc = .agg [str (ba f.nm), int f.kd] := (Classical.choice encBox_ne).hf f
theorem Sch.enc_eq (s : Sch) : s.enc = .agg [str (ba s.nm), .isl 2 (mapE Fld.enc s.fs)] := (Classical.choice encBox_ne).hs s
theorem Fld.closed (f : Fld) : f.enc.closed = true := by rw [Fld.enc_eq]; rfl
theorem Fld.closedL (l : List Fld) : AV.closedL (mapE Fld.enc l) = true := closed_mapE Fld.closed l
theorem Fld.closedI (l : List Fld) : (AV.isl 2 (mapE Fld.enc l)).closed = true := by simp [AV.closed, Fld.closedL]
theorem Sch.closed (s : Sch) : s.enc.closed = true := by rw [Sch.enc_eq]; simp [AV.closed, AV.closedL, Fld.closedL]
theorem Sch.closedL (l : List Sch) : AV.closedL (mapE Sch.enc l) = true := closed_mapE Sch.closed l
theorem Sch.closedI (l : List Sch) : (AV.isl 2 (mapE Sch.enc l)).closed = true := by simp [AV.closed, Sch.closedL]
theorem closedL_int (l : List Int) : AV.closedL (mapE int l) = true := closed_mapE (fun _ => rfl) l
theorem closedI_int (l : List Int) : (AV.isl 1 (mapE int l)).closed = true := by simp [AV.closed, closedL_int]
def bInt : Bs := [105, 110, 116]
def bBool : Bs := [98, 111, 111, 108]
def bStr : Bs := [115, 116, 114, 105, 110, 103]
structure KwBox where
 i : ByteArray
 b : ByteArray
 s : ByteArray
 hi : i = ba bInt
 hb : b = ba bBool
 hs : s = ba bStr
theorem kwBox_ne : Nonempty KwBox := ⟨⟨_, _, _, rfl, rfl, rfl⟩⟩
noncomputable def EE : Env := ⟨Tryd.prog, fun n => cond (Nat.beq n 0) (.iptr [str (Classical.choice kwBox_ne).i, str (Classical.choice kwBox_ne).b, str (Classical.choice kwBox_ne).s]) .undef⟩
noncomputable def EK : Env := ⟨Tryd.prog, fun n => cond (Nat.beq n 0) (.iptr [str (Classical.choice kwBox_ne).i, str (Classical.choice kwBox_ne).b, str (Classical.choice kwBox_ne).s]) (cond (Nat.beq n 1) (.iptr [.isl 1 [str (Classical.choice kwBox_ne).i, str (Classical.choice kwBox_ne).b, str (Classical.choice kwBox_ne).s]]) .undef)⟩
theorem PCall.toK {f : FuncId} {args : List AV} {v : AV} (h : PCall EE f args v) : PCall EK f args v := by
 refine ⟨h.1, fun K w ys hh hv => ?_⟩
 have hh2 : HRep EE K w [] := ⟨by simp, by simp, hh.disj, hh.low, fun g => by
  have hg := hh.glob g
  revert hg
  show VRep K 0 w (cond (Nat.beq g 0) _ (cond _ _ _)) _ → VRep K 0 w (cond (Nat.beq g 0) _ .undef) _
  cases Nat.beq g 0 with
  | true => exact fun h => h
  | false => exact fun _ => .undef _⟩
 refine (h.2 K w ys hh2 hv).mono ?_
 rintro e w' ⟨v', y, H', K', h1, ⟨h2, rfl⟩, h3, h4, h5⟩
 have hm := h5.mv hh2
 exact ⟨v', y, [], K', h1, ⟨h2, rfl⟩, ⟨by simp, by simp, h3.disj, h3.low, fun g => VRep.mono (K := K) (K' := K') (fun b hb => absurd hb (Nat.not_lt_zero _)) (Nat.le_refl _) h5.I hm.wc hm.cells (hh.glob g)⟩, h4, h5⟩
def isLet (n : Int) : Bool := decide (n = 95 ∨ (97 ≤ n ∧ n ≤ 122) ∨ (65 ≤ n ∧ n ≤ 90))
def isDig (n : Int) : Bool := decide (48 ≤ n ∧ n ≤ 57)
def okCh (b : UInt8) : Bool := isLet (ch b) || isDig (ch b)
def nameB (l : Bs) : Bool := decide (l.length ≤ 24) && (match l with
 | [] => false
 | c :: _ => !isDig (ch c) && l.all okCh)
def bTime : Bs := [116, 105, 109, 101]
def fnameB (l : Bs) : Bool := nameB l && decide (l ≠ bTime)
theorem P_letter (n : Int) : PCall EE 53 [u8 n] (bool (isLet n)) := by
 obtain ⟨b, hb⟩ : ∃ b, b = isLet n := ⟨_, rfl⟩
 rw [← hb]
 simp only [isLet] at hb
 refine wordsN ?_; unhygienic intros
 refine fn_body (fn := Tryd.f53) (n := 21) (ac := Trydc53) (rvs := [.t 2]) rfl (by decide) Trydp53 rfl rfl rfl ?_
 refine goA 0 ?_
 refine nsB hX (by conv => lhs; cbv) ?_
 refine goA 0 ?_
 refine nsB hX (by conv => lhs; cbv) ?_
 refine goA 60 ?_
 refine fn_ret rfl rfl (.val ?_)
 (clear hX; subst hb; exact congrArg Value.bool (by simp only [ee] at *; grind))
theorem P_refletter (n : Int) : PCall EE 54 [u8 n] (bool (isLet n)) := by
 obtain ⟨b, hb⟩ : ∃ b, b = isLet n := ⟨_, rfl⟩
 rw [← hb]
 simp only [isLet] at hb
 refine wordsN ?_; unhygienic intros
 refine fn_body (fn := Tryd.f54) (n := 21) (ac := Trydc54) (rvs := [.t 2]) rfl (by decide) Trydp54 rfl rfl rfl ?_
 refine goA 0 ?_
 refine nsB hX (by conv => lhs; cbv) ?_
 refine goA 60 ?_
 refine fn_ret rfl rfl (.val ?_)
 (clear hX; subst hb; exact congrArg Value.bool (by simp only [ee] at *; grind))
theorem P_digit (n : Int) : PCall EE 52 [u8 n] (bool (isDig n)) := by
 obtain ⟨b, hb⟩ : ∃ b, b = isDig n := ⟨_, rfl⟩
 rw [← hb]
 simp only [isDig] at hb
 refine wordsN ?_; unhygienic intros
 refine fn_body (fn := Tryd.f52) (n := 9) (ac := Trydc52) (rvs := [.t 2]) rfl (by decide) Trydp52 rfl rfl rfl ?_
 refine goA 60 ?_
 refine fn_ret rfl rfl (.val ?_)
 (clear hX; subst hb; exact congrArg Value.bool (by simp only [ee] at *; grind))
theorem all_cons {p : UInt8 → Bool} {l d r : Bs} {c : UInt8} (h : l = d ++ c :: r) (hc : p c = false) : l.all p = false := by
 rw [h]; simp [hc]
theorem P_name (l : Bs) (hl : l.length < 1152921504606846976) : PCall EE 36 [str (ba l)] (bool (nameB l)) := by
 have hsz := ba_size l
 have hget := fun d c r h => ba_get l d r c h
 generalize ba l = s at *
 refine wordsN ?_; unhygienic intros
 have hn : sLen s = (l.length : Int) := by simp only [ee]; rw [hsz]
 have hat : ∀ d c r, l = d ++ c :: r → ∀ i : Int, i = d.length → sAt s i = ch c := fun d c r h i hi => by
  subst hi; simp only [ee, ch]; rw [Int.toNat_natCast, hget d c r h]
 refine fn_body (fn := Tryd.f36) (n := 35) (ac := Trydc36) (rvs := [.t 2]) rfl (by decide) Trydp36 rfl rfl rfl ?_
 cases l with
 | nil =>
  have k0 : iEq (sLen s) 0 = true := by rw [hn]; simp only [ee]; rfl
  refine goB hX 0 (by conv => lhs; cbv; try simp only [k0]; cbv; try simp only [k0]; cbv; try simp only [k0]; cbv; try simp only [k0]; cbv) ?_
  refine on_guard rfl rfl (fun c1 => ?_) (fun c1 => ?_)
  ·
   simp [ee] at c1
   refine goA 60 ?_
   refine fn_ret rfl rfl (.val ?_)
   rfl
  ·
   simp [ee] at c1
 | cons c0 r0 =>
 have k0 : iEq (sLen s) 0 = false := by rw [hn]; simp only [ee]; simp; omega
 by_cases h24 : (c0 :: r0).length ≤ 24
 rotate_left
 · have k1 : iLt 24 (sLen s) = true := by rw [hn]; simp only [ee]; simp at h24 ⊢; omega
   have hnb : nameB (c0 :: r0) = false := by unfold nameB; rw [decide_eq_false h24, Bool.false_and]
   rw [hnb]
   refine goB hX 0 (by conv => lhs; cbv; try simp only [k0, k1]; cbv; try simp only [k0, k1]; cbv; try simp only [k0, k1]; cbv; try simp only [k0, k1]; cbv) ?_
   refine on_guard rfl rfl (fun c1 => ?_) (fun c1 => ?_)
   ·
    simp [ee] at c1
    refine goA 60 ?_
    refine fn_ret rfl rfl (.val ?_)
    rfl
   ·
    simp [ee] at c1
 have k1 : iLt 24 (sLen s) = false := by rw [hn]; simp only [ee]; simp at h24 ⊢; omega
 have qd : PCall EE 52 [u8 (sAt s 0)] (bool (isDig (ch c0))) := by rw [← hat [] c0 r0 rfl 0 rfl]; exact P_digit _
 have hp : 0 < sLen s := by rw [hn]; simp
 have hnb : nameB (c0 :: r0) = (!isDig (ch c0) && (c0 :: r0).all okCh) := by simp only [nameB, decide_eq_true h24, Bool.true_and]
 rw [hnb]
 generalize isDig (ch c0) = b0 at *
 cases b0 with
 | true =>
  refine goB hX 0 (by conv => lhs; cbv; try simp only [k0, k1]; cbv; try simp only [k0, k1]; cbv; try simp only [k0, k1]; cbv; try simp only [k0, k1]; cbv) ?_
  refine on_guard rfl rfl (fun c1 => ?_) (fun c1 => ?_)
  ·
   simp [ee] at c1
  ·
   simp [ee] at c1
   refine goA 60 ?_
   refine oPG qd ?_
   refine goA 60 ?_
   refine fn_ret rfl rfl (.val ?_)
   rfl
 | false =>
 clear hnb
 generalize hL : c0 :: r0 = L at *
 refine goB hX 0 (by conv => lhs; cbv; try simp only [k0, k1]; cbv; try simp only [k0, k1]; cbv; try simp only [k0, k1]; cbv; try simp only [k0, k1]; cbv) ?_
 refine on_guard rfl rfl (fun c1 => ?_) (fun c1 => ?_)
 ·
  simp [ee] at c1
 simp [ee] at c1
 refine goA 60 ?_
 refine oPG qd ?_
 refine goA 60 ?_
 refine on_loopP (ι := Bs × Bs × Int) (fun p => ([(19, int p.2.2), (18, int (sLen s)), (0, str s)], [])) (fun p => L = p.1 ++ p.2.1 ∧ p.2.2 = p.1.length ∧ p.1.all okCh = true) (fun p => p.2.1.length) ([], L, 0) ⟨rfl, rfl, rfl⟩ ?_ ?_
 · exact (ent_sub [] [] trivial trivial ⟨.refl _, .refl _, .refl _, trivial⟩)
 rintro ⟨d, r, i⟩ ⟨g1, gi, ga⟩
 dsimp only at g1 gi ga ⊢
 cases r with
 | nil =>
  have hc : iLt i (sLen s) = false := by rw [hn, g1]; simp only [ee]; simp; omega
  have hall : L.all okCh = true := by rw [g1, List.append_nil]; exact ga
  rw [hall]
  refine goB hX 0 (by conv => lhs; cbv; try simp only [hc]; cbv; try simp only [hc]; cbv; try simp only [hc]; cbv; try simp only [hc]; cbv) ?_
  refine goA 60 ?_
  refine loopP_exit ?_
  refine goA 60 ?_
  refine fn_ret rfl rfl (.val ?_)
  rfl
 | cons c r =>
  have L1 := len_split g1
  try simp only [List.length] at L1
  have hc : iLt i (sLen s) = true := by rw [hn]; simp only [ee]; simp; omega
  have hb : i < sLen s := by rw [hn]; omega
  have hi2 : iAdd .i64 i 1 = ((d ++ [c]).length : Int) := by rw [List.length_append]; exact inc_w e_iAdd gi (by omega)
  have ql : PCall EE 53 [u8 (sAt s i)] (bool (isLet (ch c))) := by rw [← hat d c r g1 i gi]; exact P_letter _
  have qg : PCall EE 52 [u8 (sAt s i)] (bool (isDig (ch c))) := by rw [← hat d c r g1 i gi]; exact P_digit _
  have hok : okCh c = (isLet (ch c) || isDig (ch c)) := rfl
  have n0 : bNot false = true := by simp only [ee]; rfl
  have n1 : bNot true = false := by simp only [ee]; rfl
  generalize isLet (ch c) = b1 at *
  generalize isDig (ch c) = b2 at *
  cases b1 with
  | true =>
   have h2 : (d ++ [c]).all okCh = true := by simp [ga, hok]
   refine goB hX 0 (by conv => lhs; cbv; try simp only [hc, n1]; cbv; try simp only [hc, n1]; cbv; try simp only [hc, n1]; cbv; try simp only [hc, n1]; cbv) ?_
   refine goA 60 ?_
   refine oPA ql ?_
   refine goB hX 0 (by conv => lhs; cbv; try simp only [hc, n1]; cbv; try simp only [hc, n1]; cbv; try simp only [hc, n1]; cbv; try simp only [hc, n1]; cbv) ?_
   refine goA 60 ?_
   refine on_gskip rfl rfl ?_
   refine goA 60 ?_
   refine loopP_next (d ++ [c], r, iAdd .i64 i 1) ⟨by simp [g1], hi2, h2⟩ (by simp) (ent_sub [] [] trivial trivial ⟨.refl _, .refl _, .refl _, trivial⟩)
  | false =>
   cases b2 with
   | true =>
    have h2 : (d ++ [c]).all okCh = true := by simp [ga, hok]
    refine goB hX 0 (by conv => lhs; cbv; try simp only [hc, n0, n1]; cbv; try simp only [hc, n0, n1]; cbv; try simp only [hc, n0, n1]; cbv; try simp only [hc, n0, n1]; cbv) ?_
    refine goA 60 ?_
    refine oPA ql ?_
    refine goB hX 0 (by conv => lhs; cbv; try simp only [hc, n0, n1]; cbv; try simp only [hc, n0, n1]; cbv; try simp only [hc, n0, n1]; cbv; try simp only [hc, n0, n1]; cbv) ?_
    refine goA 60 ?_
    refine oPG qg ?_
    refine goB hX 0 (by conv => lhs; cbv; try simp only [hc, n0, n1]; cbv; try simp only [hc, n0, n1]; cbv; try simp only [hc, n0, n1]; cbv; try simp only [hc, n0, n1]; cbv) ?_
    refine on_cond rfl (fun c1 => ?_) (fun c1 => ?_)
    ·
     simp [ee] at c1
    ·
     simp [ee] at c1
     refine goA 60 ?_
     refine loopP_next (d ++ [c], r, iAdd .i64 i 1) ⟨by simp [g1], hi2, h2⟩ (by simp) (ent_sub [] [] trivial trivial ⟨.refl _, .refl _, .refl _, trivial⟩)
   | false =>
    rw [all_cons g1 (by rw [hok]; rfl)]
    refine goB hX 0 (by conv => lhs; cbv; try simp only [hc, n0]; cbv; try simp only [hc, n0]; cbv; try simp only [hc, n0]; cbv; try simp only [hc, n0]; cbv) ?_
    refine goA 60 ?_
    refine oPA ql ?_
    refine goB hX 0 (by conv => lhs; cbv; try simp only [hc, n0]; cbv; try simp only [hc, n0]; cbv; try simp only [hc, n0]; cbv; try simp only [hc, n0]; cbv) ?_
    refine goA 60 ?_
    refine oPG qg ?_
    refine goB hX 0 (by conv => lhs; cbv; try simp only [hc, n0]; cbv; try simp only [hc, n0]; cbv; try simp only [hc, n0]; cbv; try simp only [hc, n0]; cbv) ?_
    refine on_cond rfl (fun c1 => ?_) (fun c1 => ?_)
    ·
     simp [ee] at c1
     refine goA 60 ?_
     refine loopP_ret ?_
     refine goA 60 ?_
     refine fn_ret rfl rfl (.val ?_)
     rfl
    ·
     simp [ee] at c1
theorem ba_lit (l : Bs) : (⟨l.toArray⟩ : ByteArray) = ba l := (ba_eq l).symm
theorem ba_eqB (a b : Bs) : ((ba a).toList == (ba b).toList) = decide (a = b) := by
 rw [ba_list, ba_list, Bool.eq_iff_iff]; simp
theorem P_fieldName (l : Bs) (hl : l.length < 1152921504606846976) : PCall EE 37 [str (ba l)] (bool (fnameB l)) := by
 have q1 := P_name l hl
 have e1 : ((ba l).toList == (ByteArray.mk #[116, 105, 109, 101]).toList) = decide (l = bTime) := by
  rw [show (ByteArray.mk #[116, 105, 109, 101]) = ba bTime from ba_lit bTime, ba_eqB]
 have hf : fnameB l = (nameB l && decide (l ≠ bTime)) := rfl
 rw [hf]
 generalize nameB l = b0 at *
 generalize ba l = s at *
 refine wordsN ?_; unhygienic intros
 have h1 : sNe s ⟨#[116, 105, 109, 101]⟩ = decide (l ≠ bTime) := by simp only [ee]; rw [e1]; simp
 clear e1 hf
 generalize decide (l ≠ bTime) = b1 at *
 refine fn_body (fn := Tryd.f37) (n := 9) (ac := Trydc37) (rvs := [.t 2]) rfl (by decide) Trydp37 rfl rfl rfl ?_
 have hand : ∀ a b, bAnd a b = (a && b) := fun a b => by simp only [ee]
 refine goA 60 ?_
 refine oPA q1 ?_
 refine goA 60 ?_
 refine fn_ret rfl rfl (.val ?_)
 exact congrArg Value.bool (by rw [hand]; exact congrArg (fun x => b0 && x) h1)
theorem P_refName (l : Bs) (hl : l.length < 1152921504606846976) : PCall EE 38 [str (ba l)] (bool (nameB l)) := by
 have hsz := ba_size l
 have hget := fun d c r h => ba_get l d r c h
 generalize ba l = s at *
 refine wordsN ?_; unhygienic intros
 have hn : sLen s = (l.length : Int) := by simp only [ee]; rw [hsz]
 have hat : ∀ d c r, l = d ++ c :: r → ∀ i : Int, i = d.length → sAt s i = ch c := fun d c r h i hi => by
  subst hi; simp only [ee, ch]; rw [Int.toNat_natCast, hget d c r h]
 have n0 : bNot false = true := by simp only [ee]; rfl
 have n1 : bNot true = false := by simp only [ee]; rfl
 refine fn_body (fn := Tryd.f38) (n := 41) (ac := Trydc38) (rvs := [.t 2]) rfl (by decide) Trydp38 rfl rfl rfl ?_
 cases l with
 | nil =>
  have k0 : iEq (sLen s) 0 = true := by rw [hn]; simp only [ee]; rfl
  refine goB hX 0 (by conv => lhs; cbv; try simp only [k0]; cbv; try simp only [k0]; cbv; try simp only [k0]; cbv; try simp only [k0]; cbv) ?_
  refine on_guard rfl rfl (fun c1 => ?_) (fun c1 => ?_)
  ·
   simp [ee] at c1
   refine goA 60 ?_
   refine on_gskip rfl rfl ?_
   refine goA 60 ?_
   refine fn_ret rfl rfl (.val ?_)
   rfl
  ·
   simp [ee] at c1
 | cons c0 r0 =>
 have k0 : iEq (sLen s) 0 = false := by rw [hn]; simp only [ee]; simp; omega
 by_cases h24 : (c0 :: r0).length ≤ 24
 rotate_left
 · have k1 : iLt 24 (sLen s) = true := by rw [hn]; simp only [ee]; simp at h24 ⊢; omega
   have hnb : nameB (c0 :: r0) = false := by unfold nameB; rw [decide_eq_false h24, Bool.false_and]
   rw [hnb]
   refine goB hX 0 (by conv => lhs; cbv; try simp only [k0, k1]; cbv; try simp only [k0, k1]; cbv; try simp only [k0, k1]; cbv; try simp only [k0, k1]; cbv) ?_
   refine on_guard rfl rfl (fun c1 => ?_) (fun c1 => ?_)
   ·
    simp [ee] at c1
    refine goA 60 ?_
    refine on_gskip rfl rfl ?_
    refine goA 60 ?_
    refine fn_ret rfl rfl (.val ?_)
    rfl
   ·
    simp [ee] at c1
 have k1 : iLt 24 (sLen s) = false := by rw [hn]; simp only [ee]; simp at h24 ⊢; omega
 have hL0 := hat [] c0 r0 rfl 0 rfl
 have qd : PCall EE 54 [u8 (sAt s 0)] (bool (isLet (ch c0))) := by rw [← hL0]; exact P_refletter _
 have hp : 0 < sLen s := by rw [hn]; simp
 have hnb : nameB (c0 :: r0) = (isLet (ch c0) && (c0 :: r0).all okCh) := by
  simp only [nameB, decide_eq_true h24, Bool.true_and, List.all_cons, okCh]
  have hx : ¬ (isLet (ch c0) = true ∧ isDig (ch c0) = true) := by simp only [isLet, isDig]; simp; omega
  generalize isLet (ch c0) = x at *
  generalize isDig (ch c0) = y at *
  cases x <;> cases y <;> simp_all
 rw [hnb]
 generalize isLet (ch c0) = b0 at *
 cases b0 with
 | false =>
  refine goB hX 0 (by conv => lhs; cbv; try simp only [k0, k1, n0]; cbv; try simp only [k0, k1, n0]; cbv; try simp only [k0, k1, n0]; cbv; try simp only [k0, k1, n0]; cbv) ?_
  refine on_guard rfl rfl (fun c1 => ?_) (fun c1 => ?_)
  ·
   simp [ee] at c1
  ·
   simp [ee] at c1
   refine goA 60 ?_
   refine oPG qd ?_
   refine goB hX 0 (by conv => lhs; cbv; try simp only [k0, k1, n0]; cbv; try simp only [k0, k1, n0]; cbv; try simp only [k0, k1, n0]; cbv; try simp only [k0, k1, n0]; cbv) ?_
   refine on_cond rfl (fun c2 => ?_) (fun c2 => ?_)
   ·
    simp [ee] at c2
    refine goA 60 ?_
    refine fn_ret rfl rfl (.val ?_)
    rfl
   ·
    simp [ee] at c2
 | true =>
 clear hnb hL0
 generalize hL : c0 :: r0 = L at *
 refine goB hX 0 (by conv => lhs; cbv; try simp only [k0, k1, n1]; cbv; try simp only [k0, k1, n1]; cbv; try simp only [k0, k1, n1]; cbv; try simp only [k0, k1, n1]; cbv) ?_
 refine on_guard rfl rfl (fun c1 => ?_) (fun c1 => ?_)
 ·
  simp [ee] at c1
 simp [ee] at c1
 refine goA 60 ?_
 refine oPG qd ?_
 refine goB hX 0 (by conv => lhs; cbv; try simp only [k0, k1, n1]; cbv; try simp only [k0, k1, n1]; cbv; try simp only [k0, k1, n1]; cbv; try simp only [k0, k1, n1]; cbv) ?_
 refine on_cond rfl (fun c2 => ?_) (fun c2 => ?_)
 ·
  simp [ee] at c2
 simp [ee] at c2
 refine goA 60 ?_
 refine on_loopP (ι := Bs × Bs × Int) (fun p => ([(3, int p.2.2), (0, str s)], [])) (fun p => L = p.1 ++ p.2.1 ∧ p.2.2 = p.1.length ∧ p.1.all okCh = true) (fun p => p.2.1.length) ([], L, 0) ⟨rfl, rfl, rfl⟩ ?_ ?_
 · exact (ent_sub [] [] trivial trivial ⟨.refl _, .refl _, trivial⟩)
 rintro ⟨d, r, i⟩ ⟨g1, gi, ga⟩
 dsimp only at g1 gi ga ⊢
 cases r with
 | nil =>
  have hc : iLt i (sLen s) = false := by rw [hn, g1]; simp only [ee]; simp; omega
  have hall : L.all okCh = true := by rw [g1, List.append_nil]; exact ga
  rw [hall]
  refine goB hX 0 (by conv => lhs; cbv; try simp only [hc]; cbv; try simp only [hc]; cbv; try simp only [hc]; cbv; try simp only [hc]; cbv) ?_
  refine goA 60 ?_
  refine loopP_exit ?_
  refine goA 60 ?_
  refine fn_ret rfl rfl (.val ?_)
  rfl
 | cons c r =>
  have L1 := len_split g1
  try simp only [List.length] at L1
  have hc : iLt i (sLen s) = true := by rw [hn]; simp only [ee]; simp; omega
  have hb : i < sLen s := by rw [hn]; omega
  have hi2 : iAdd .i64 i 1 = ((d ++ [c]).length : Int) := by rw [List.length_append]; exact inc_w e_iAdd gi (by omega)
  have hx := hat d c r g1 i gi
  have ql : PCall EE 54 [u8 (sAt s i)] (bool (isLet (ch c))) := by rw [← hx]; exact P_refletter _
  have hok : okCh c = (isLet (ch c) || isDig (ch c)) := rfl
  have hdg : isDig (ch c) = decide (48 ≤ sAt s i ∧ sAt s i ≤ 57) := by rw [hx]; rfl
  clear hx
  generalize isLet (ch c) = b1 at *
  generalize isDig (ch c) = b2 at *
  generalize hv : sAt s i = v at *
  cases b1 with
  | true =>
   have h2 : (d ++ [c]).all okCh = true := by simp [ga, hok]
   subst hv
   refine goB hX 0 (by conv => lhs; cbv; try simp only [hc, n1]; cbv; try simp only [hc, n1]; cbv; try simp only [hc, n1]; cbv; try simp only [hc, n1]; cbv) ?_
   refine goA 60 ?_
   refine oPA ql ?_
   refine goB hX 0 (by conv => lhs; cbv; try simp only [hc, n1]; cbv; try simp only [hc, n1]; cbv; try simp only [hc, n1]; cbv; try simp only [hc, n1]; cbv) ?_
   refine goA 60 ?_
   refine on_gskip rfl rfl ?_
   refine goA 60 ?_
   refine loopP_next (d ++ [c], r, iAdd .i64 i 1) ⟨by simp [g1], hi2, h2⟩ (by simp) (ent_sub [] [] trivial trivial ⟨.refl _, .refl _, trivial⟩)
  | false =>
   by_cases h48 : v < 48
   · have k4 : iLt v 48 = true := by simp only [ee]; simpa using h48
     have hf : okCh c = false := by rw [hok, hdg]; simp; omega
     rw [all_cons g1 hf]
     subst hv
     refine goB hX 0 (by conv => lhs; cbv; try simp only [hc, n0, k4]; cbv; try simp only [hc, n0, k4]; cbv; try simp only [hc, n0, k4]; cbv; try simp only [hc, n0, k4]; cbv) ?_
     refine goA 60 ?_
     refine oPA ql ?_
     refine goB hX 0 (by conv => lhs; cbv; try simp only [hc, n0, k4]; cbv; try simp only [hc, n0, k4]; cbv; try simp only [hc, n0, k4]; cbv; try simp only [hc, n0, k4]; cbv) ?_
     refine goB hX 1 (by conv => lhs; cbv; try simp only [hc, n0, k4]; cbv; try simp only [hc, n0, k4]; cbv; try simp only [hc, n0, k4]; cbv; try simp only [hc, n0, k4]; cbv) ?_
     refine goB hX 1 (by conv => lhs; cbv; try simp only [hc, n0, k4]; cbv; try simp only [hc, n0, k4]; cbv; try simp only [hc, n0, k4]; cbv; try simp only [hc, n0, k4]; cbv) ?_
     refine goB hX 1 (by conv => lhs; cbv; try simp only [hc, n0, k4]; cbv; try simp only [hc, n0, k4]; cbv; try simp only [hc, n0, k4]; cbv; try simp only [hc, n0, k4]; cbv) ?_
     refine goB hX 1 (by conv => lhs; cbv; try simp only [hc, n0, k4]; cbv; try simp only [hc, n0, k4]; cbv; try simp only [hc, n0, k4]; cbv; try simp only [hc, n0, k4]; cbv) ?_
     refine goB hX 1 (by conv => lhs; cbv; try simp only [hc, n0, k4]; cbv; try simp only [hc, n0, k4]; cbv; try simp only [hc, n0, k4]; cbv; try simp only [hc, n0, k4]; cbv) ?_
     refine goB hX 1 (by conv => lhs; cbv; try simp only [hc, n0, k4]; cbv; try simp only [hc, n0, k4]; cbv; try simp only [hc, n0, k4]; cbv; try simp only [hc, n0, k4]; cbv) ?_
     refine goB hX 1 (by conv => lhs; cbv; try simp only [hc, n0, k4]; cbv; try simp only [hc, n0, k4]; cbv; try simp only [hc, n0, k4]; cbv; try simp only [hc, n0, k4]; cbv) ?_
     refine goB hX 1 (by conv => lhs; cbv; try simp only [hc, n0, k4]; cbv; try simp only [hc, n0, k4]; cbv; try simp only [hc, n0, k4]; cbv; try simp only [hc, n0, k4]; cbv) ?_
     refine goB hX 1 (by conv => lhs; cbv; try simp only [hc, n0, k4]; cbv; try simp only [hc, n0, k4]; cbv; try simp only [hc, n0, k4]; cbv; try simp only [hc, n0, k4]; cbv) ?_
     refine on_cond rfl (fun c1 => ?_) (fun c1 => ?_)
     ·
      simp [ee] at c1
      refine goA 60 ?_
      refine loopP_ret ?_
      refine goA 60 ?_
      refine fn_ret rfl rfl (.val ?_)
      rfl
     ·
      simp [ee] at c1
   have k4 : iLt v 48 = false := by simp only [ee]; simpa using h48
   by_cases h57 : 57 < v
   · have k5 : iLt 57 v = true := by simp only [ee]; simpa using h57
     have hf : okCh c = false := by rw [hok, hdg]; simp; omega
     rw [all_cons g1 hf]
     subst hv
     refine goB hX 0 (by conv => lhs; cbv; try simp only [hc, n0, k4, k5]; cbv; try simp only [hc, n0, k4, k5]; cbv; try simp only [hc, n0, k4, k5]; cbv; try simp only [hc, n0, k4, k5]; cbv) ?_
     refine goA 60 ?_
     refine oPA ql ?_
     refine goB hX 0 (by conv => lhs; cbv; try simp only [hc, n0, k4, k5]; cbv; try simp only [hc, n0, k4, k5]; cbv; try simp only [hc, n0, k4, k5]; cbv; try simp only [hc, n0, k4, k5]; cbv) ?_
     refine goB hX 1 (by conv => lhs; cbv; try simp only [hc, n0, k4, k5]; cbv; try simp only [hc, n0, k4, k5]; cbv; try simp only [hc, n0, k4, k5]; cbv; try simp only [hc, n0, k4, k5]; cbv) ?_
     refine goB hX 1 (by conv => lhs; cbv; try simp only [hc, n0, k4, k5]; cbv; try simp only [hc, n0, k4, k5]; cbv; try simp only [hc, n0, k4, k5]; cbv; try simp only [hc, n0, k4, k5]; cbv) ?_
     refine goB hX 1 (by conv => lhs; cbv; try simp only [hc, n0, k4, k5]; cbv; try simp only [hc, n0, k4, k5]; cbv; try simp only [hc, n0, k4, k5]; cbv; try simp only [hc, n0, k4, k5]; cbv) ?_
     refine goB hX 1 (by conv => lhs; cbv; try simp only [hc, n0, k4, k5]; cbv; try simp only [hc, n0, k4, k5]; cbv; try simp only [hc, n0, k4, k5]; cbv; try simp only [hc, n0, k4, k5]; cbv) ?_
     refine goB hX 1 (by conv => lhs; cbv; try simp only [hc, n0, k4, k5]; cbv; try simp only [hc, n0, k4, k5]; cbv; try simp only [hc, n0, k4, k5]; cbv; try simp only [hc, n0, k4, k5]; cbv) ?_
     refine goB hX 1 (by conv => lhs; cbv; try simp only [hc, n0, k4, k5]; cbv; try simp only [hc, n0, k4, k5]; cbv; try simp only [hc, n0, k4, k5]; cbv; try simp only [hc, n0, k4, k5]; cbv) ?_
     refine goB hX 1 (by conv => lhs; cbv; try simp only [hc, n0, k4, k5]; cbv; try simp only [hc, n0, k4, k5]; cbv; try simp only [hc, n0, k4, k5]; cbv; try simp only [hc, n0, k4, k5]; cbv) ?_
     refine goB hX 1 (by conv => lhs; cbv; try simp only [hc, n0, k4, k5]; cbv; try simp only [hc, n0, k4, k5]; cbv; try simp only [hc, n0, k4, k5]; cbv; try simp only [hc, n0, k4, k5]; cbv) ?_
     refine goB hX 1 (by conv => lhs; cbv; try simp only [hc, n0, k4, k5]; cbv; try simp only [hc, n0, k4, k5]; cbv; try simp only [hc, n0, k4, k5]; cbv; try simp only [hc, n0, k4, k5]; cbv) ?_
     refine on_cond rfl (fun c1 => ?_) (fun c1 => ?_)
     ·
      simp [ee] at c1
      refine goA 60 ?_
      refine loopP_ret ?_
      refine goA 60 ?_
      refine fn_ret rfl rfl (.val ?_)
      rfl
     ·
      simp [ee] at c1
   have k5 : iLt 57 v = false := by simp only [ee]; simpa using h57
   have hf : okCh c = true := by rw [hok, hdg]; simp; omega
   have h2 : (d ++ [c]).all okCh = true := by simp [ga, hf]
   subst hv
   refine goB hX 0 (by conv => lhs; cbv; try simp only [hc, n0, k4, k5]; cbv; try simp only [hc, n0, k4, k5]; cbv; try simp only [hc, n0, k4, k5]; cbv; try simp only [hc, n0, k4, k5]; cbv) ?_
   refine goA 60 ?_
   refine oPA ql ?_
   refine goB hX 0 (by conv => lhs; cbv; try simp only [hc, n0, k4, k5]; cbv; try simp only [hc, n0, k4, k5]; cbv; try simp only [hc, n0, k4, k5]; cbv; try simp only [hc, n0, k4, k5]; cbv) ?_
   refine goB hX 1 (by conv => lhs; cbv; try simp only [hc, n0, k4, k5]; cbv; try simp only [hc, n0, k4, k5]; cbv; try simp only [hc, n0, k4, k5]; cbv; try simp only [hc, n0, k4, k5]; cbv) ?_
   refine goB hX 1 (by conv => lhs; cbv; try simp only [hc, n0, k4, k5]; cbv; try simp only [hc, n0, k4, k5]; cbv; try simp only [hc, n0, k4, k5]; cbv; try simp only [hc, n0, k4, k5]; cbv) ?_
   refine goB hX 1 (by conv => lhs; cbv; try simp only [hc, n0, k4, k5]; cbv; try simp only [hc, n0, k4, k5]; cbv; try simp only [hc, n0, k4, k5]; cbv; try simp only [hc, n0, k4, k5]; cbv) ?_
   refine goB hX 1 (by conv => lhs; cbv; try simp only [hc, n0, k4, k5]; cbv; try simp only [hc, n0, k4, k5]; cbv; try simp only [hc, n0, k4, k5]; cbv; try simp only [hc, n0, k4, k5]; cbv) ?_
   refine goB hX 1 (by conv => lhs; cbv; try simp only [hc, n0, k4, k5]; cbv; try simp only [hc, n0, k4, k5]; cbv; try simp only [hc, n0, k4, k5]; cbv; try simp only [hc, n0, k4, k5]; cbv) ?_
   refine goB hX 1 (by conv => lhs; cbv; try simp only [hc, n0, k4, k5]; cbv; try simp only [hc, n0, k4, k5]; cbv; try simp only [hc, n0, k4, k5]; cbv; try simp only [hc, n0, k4, k5]; cbv) ?_
   refine goB hX 1 (by conv => lhs; cbv; try simp only [hc, n0, k4, k5]; cbv; try simp only [hc, n0, k4, k5]; cbv; try simp only [hc, n0, k4, k5]; cbv; try simp only [hc, n0, k4, k5]; cbv) ?_
   refine goB hX 1 (by conv => lhs; cbv; try simp only [hc, n0, k4, k5]; cbv; try simp only [hc, n0, k4, k5]; cbv; try simp only [hc, n0, k4, k5]; cbv; try simp only [hc, n0, k4, k5]; cbv) ?_
   refine goB hX 1 (by conv => lhs; cbv; try simp only [hc, n0, k4, k5]; cbv; try simp only [hc, n0, k4, k5]; cbv; try simp only [hc, n0, k4, k5]; cbv; try simp only [hc, n0, k4, k5]; cbv) ?_
   refine on_cond rfl (fun c1 => ?_) (fun c1 => ?_)
   ·
    simp [ee] at c1
   ·
    simp [ee] at c1
    refine goA 60 ?_
    refine loopP_next (d ++ [c], r, iAdd .i64 i 1) ⟨by simp [g1], hi2, h2⟩ (by simp) (ent_sub [] [] trivial trivial ⟨.refl _, .refl _, trivial⟩)
def posF (nm : Bs) : List Fld → Int → Int
 | [], _ => -1
 | f :: r, i => if f.nm = nm then i else posF nm r (i + 1)
def Fld.pos (l : List Fld) (nm : Bs) : Int := posF nm l 0
theorem posF_app {nm : Bs} : ∀ (d r : List Fld) (i : Int), (∀ f ∈ d, f.nm ≠ nm) → posF nm (d ++ r) i = posF nm r (i + d.length)
 | [], r, i, _ => by simp
 | f :: d, r, i, h => by
  rw [List.cons_append, posF, if_neg (h f (by simp)), posF_app d r (i + 1) fun x hx => h x (by simp [hx])]
  congr 1; simp; omega
theorem pos_hit {nm : Bs} {l d r : List Fld} {f : Fld} (h : l = d ++ f :: r) (hd : ∀ f ∈ d, f.nm ≠ nm) (hf : f.nm = nm) : Fld.pos l nm = d.length := by
 rw [Fld.pos, h, posF_app d _ 0 hd, posF, if_pos hf]; omega
theorem pos_miss {nm : Bs} {l : List Fld} (hd : ∀ f ∈ l, f.nm ≠ nm) : Fld.pos l nm = -1 := by
 have := posF_app l [] 0 hd
 rw [List.append_nil] at this
 rw [Fld.pos, this, posF]
theorem P_position (l : List Fld) (nm : Bs) (hl : l.length < 1152921504606846976) : PCall EE 34 [.isl 2 (mapE Fld.enc l), str (ba nm)] (int (Fld.pos l nm)) := by
 have kcl := Fld.closedI l
 obtain ⟨P, hP⟩ : ∃ P, P = Fld.pos l nm := ⟨_, rfl⟩
 rw [← hP]
 have heq : ∀ f : Fld, ((ba f.nm).toList == (ba nm).toList) = decide (f.nm = nm) := fun f => ba_eqB _ _
 generalize hs : ba nm = s at *
 refine wordsN ?_; unhygienic intros
 generalize hes : mapE Fld.enc l = es at *
 have hel : es.length = l.length := by rw [← hes, mapE_len]
 refine fn_body (fn := Tryd.f34) (n := 20) (ac := Trydc34) (rvs := [.t 4]) rfl (by decide) Trydp34 rfl rfl rfl ?_
 refine goA 60 ?_
 refine on_loopP (ι := List Fld × List Fld × Int) (fun p => ([(9, int p.2.2), (8, int (lenA es)), (7, .isl 2 es), (1, str s)], [])) (fun p => l = p.1 ++ p.2.1 ∧ p.2.2 = p.1.length ∧ ∀ f ∈ p.1, f.nm ≠ nm) (fun p => p.2.1.length) ([], l, 0) ⟨rfl, rfl, by simp⟩ ?_ ?_
 · exact (ent_sub [] [] trivial trivial ⟨.refl _, .refl _, .cl kcl, .refl _, trivial⟩)
 rintro ⟨d, r, i⟩ ⟨g1, gi, gd⟩
 dsimp only at g1 gi gd ⊢
 cases r with
 | nil =>
  have L1 := len_split g1
  try simp only [List.length] at L1
  have hc : iLt i (lenA es) = false := lt_f e_iLt e_lenA (by omega)
  have hp : P = -1 := by rw [hP]; exact pos_miss (by rw [g1, List.append_nil]; exact gd)
  subst hp
  refine goB hX 0 (by conv => lhs; cbv; try simp only [hc]; cbv; try simp only [hc]; cbv; try simp only [hc]; cbv; try simp only [hc]; cbv) ?_
  refine goA 60 ?_
  refine loopP_exit ?_
  refine goA 60 ?_
  refine fn_ret rfl rfl (.val ?_)
  rfl
 | cons f r =>
  have L1 := len_split g1
  try simp only [List.length] at L1
  have hc : iLt i (lenA es) = true := lt_t e_iLt e_lenA (by omega)
  have hat := el_at e_atA hes g1 gi
  rw [Fld.enc_eq] at hat
  have hi2 : iAdd .i64 i 1 = ((d ++ [f]).length : Int) := by rw [List.length_append]; exact inc_w e_iAdd gi (by omega)
  have hq : sEq (ba f.nm) s = decide (f.nm = nm) := by simp only [ee]; exact heq f
  by_cases h : f.nm = nm
  · rw [decide_eq_true h] at hq
    have hp : P = i := by rw [hP, gi]; exact pos_hit g1 gd h
    generalize ba f.nm = fs at *
    generalize f.kd = fk at *
    subst hp
    refine goB hX 0 (by conv => lhs; cbv; try simp only [hc, hat, hq]; cbv; try simp only [hc, hat, hq]; cbv; try simp only [hc, hat, hq]; cbv; try simp only [hc, hat, hq]; cbv) ?_
    refine goB hX 1 (by conv => lhs; cbv; try simp only [hc, hat, hq]; cbv; try simp only [hc, hat, hq]; cbv; try simp only [hc, hat, hq]; cbv; try simp only [hc, hat, hq]; cbv) ?_
    refine goA 60 ?_
    refine loopP_ret ?_
    refine goA 60 ?_
    refine fn_ret rfl rfl (.val ?_)
    rfl
  rw [decide_eq_false h] at hq
  have gd2 : ∀ x ∈ d ++ [f], x.nm ≠ nm := fun x hx => by
   rcases List.mem_append.1 hx with hx | hx
   · exact gd x hx
   · simp at hx; rw [hx]; exact h
  generalize ba f.nm = fs at *
  generalize f.kd = fk at *
  refine goB hX 0 (by conv => lhs; cbv; try simp only [hc, hat, hq]; cbv; try simp only [hc, hat, hq]; cbv; try simp only [hc, hat, hq]; cbv; try simp only [hc, hat, hq]; cbv) ?_
  refine goB hX 1 (by conv => lhs; cbv; try simp only [hc, hat, hq]; cbv; try simp only [hc, hat, hq]; cbv; try simp only [hc, hat, hq]; cbv; try simp only [hc, hat, hq]; cbv) ?_
  refine goA 60 ?_
  refine loopP_next (d ++ [f], r, iAdd .i64 i 1) ⟨by simp [g1], hi2, gd2⟩ (by simp) (ent_sub [.gone] [] ⟨trivial, trivial⟩ trivial ⟨.refl _, .refl _, .cl kcl, .refl _, trivial⟩)
theorem P_refPosition (q : Sch) (nm : Bs) (hl : q.fs.length < 1152921504606846976) : PCall EE 35 [q.enc, str (ba nm)] (int (Fld.pos q.fs nm)) := by
 have kcl := Fld.closedI q.fs
 rw [Sch.enc_eq]
 generalize q.fs = l at *
 obtain ⟨P, hP⟩ : ∃ P, P = Fld.pos l nm := ⟨_, rfl⟩
 rw [← hP]
 have heq : ∀ f : Fld, ((ba f.nm).toList == (ba nm).toList) = decide (f.nm = nm) := fun f => ba_eqB _ _
 generalize hs : ba nm = s at *
 generalize ba q.nm = qn at *
 refine wordsN ?_; unhygienic intros
 generalize hes : mapE Fld.enc l = es at *
 have hel : es.length = l.length := by rw [← hes, mapE_len]
 have kcA : AV.closedL [str qn, .isl 2 es] = true := by simp [AV.closedL, closed_v, kcl]
 refine fn_body (fn := Tryd.f35) (n := 22) (ac := Trydc35) (rvs := [.t 4]) rfl (by decide) Trydp35 rfl rfl rfl ?_
 refine goA 60 ?_
 refine on_loopP (ι := List Fld × List Fld × Int) (fun p => ([(5, int p.2.2), (2, .iptr [str qn, .isl 2 es]), (1, str s)], [])) (fun p => l = p.1 ++ p.2.1 ∧ p.2.2 = p.1.length ∧ ∀ f ∈ p.1, f.nm ≠ nm) (fun p => p.2.1.length) ([], l, 0) ⟨rfl, rfl, by simp⟩ ?_ ?_
 · exact (ent_sub [.icells ([str qn, AV.isl 2 es])] [] ⟨⟨_, rfl, (subL_closed _ kcA).symm⟩, trivial⟩ trivial ⟨.refl _, .refl _, .refl _, trivial⟩)
 rintro ⟨d, r, i⟩ ⟨g1, gi, gd⟩
 dsimp only at g1 gi gd ⊢
 cases r with
 | nil =>
  have L1 := len_split g1
  try simp only [List.length] at L1
  have hc : iLt i (lenA es) = false := lt_f e_iLt e_lenA (by omega)
  have hp : P = -1 := by rw [hP]; exact pos_miss (by rw [g1, List.append_nil]; exact gd)
  subst hp
  refine goB hX 0 (by conv => lhs; cbv; try simp only [hc]; cbv; try simp only [hc]; cbv; try simp only [hc]; cbv; try simp only [hc]; cbv) ?_
  refine goA 60 ?_
  refine loopP_exit ?_
  refine goA 60 ?_
  refine fn_ret rfl rfl (.val ?_)
  rfl
 | cons f r =>
  have L1 := len_split g1
  try simp only [List.length] at L1
  have hc : iLt i (lenA es) = true := lt_t e_iLt e_lenA (by omega)
  have hat := el_at e_atA hes g1 gi
  rw [Fld.enc_eq] at hat
  have hi2 : iAdd .i64 i 1 = ((d ++ [f]).length : Int) := by rw [List.length_append]; exact inc_w e_iAdd gi (by omega)
  have hq : sEq (ba f.nm) s = decide (f.nm = nm) := by simp only [ee]; exact heq f
  by_cases h : f.nm = nm
  · rw [decide_eq_true h] at hq
    have hp : P = i := by rw [hP, gi]; exact pos_hit g1 gd h
    generalize ba f.nm = fs at *
    generalize f.kd = fk at *
    subst hp
    refine goB hX 0 (by conv => lhs; cbv; try simp only [hc, hat, hq]; cbv; try simp only [hc, hat, hq]; cbv; try simp only [hc, hat, hq]; cbv; try simp only [hc, hat, hq]; cbv) ?_
    refine goB hX 1 (by conv => lhs; cbv; try simp only [hc, hat, hq]; cbv; try simp only [hc, hat, hq]; cbv; try simp only [hc, hat, hq]; cbv; try simp only [hc, hat, hq]; cbv) ?_
    refine goA 60 ?_
    refine loopP_ret ?_
    refine goA 60 ?_
    refine fn_ret rfl rfl (.val ?_)
    rfl
  rw [decide_eq_false h] at hq
  have gd2 : ∀ x ∈ d ++ [f], x.nm ≠ nm := fun x hx => by
   rcases List.mem_append.1 hx with hx | hx
   · exact gd x hx
   · simp at hx; rw [hx]; exact h
  generalize ba f.nm = fs at *
  generalize f.kd = fk at *
  refine goB hX 0 (by conv => lhs; cbv; try simp only [hc, hat, hq]; cbv; try simp only [hc, hat, hq]; cbv; try simp only [hc, hat, hq]; cbv; try simp only [hc, hat, hq]; cbv) ?_
  refine goB hX 1 (by conv => lhs; cbv; try simp only [hc, hat, hq]; cbv; try simp only [hc, hat, hq]; cbv; try simp only [hc, hat, hq]; cbv; try simp only [hc, hat, hq]; cbv) ?_
  refine goA 60 ?_
  refine loopP_next (d ++ [f], r, iAdd .i64 i 1) ⟨by simp [g1], hi2, gd2⟩ (by simp) (ent_sub [] [] trivial trivial ⟨.refl _, .cl kcA, .refl _, trivial⟩)
def whF (nm : Bs) : List Sch → Int → Int
 | [], _ => -1
 | f :: r, i => if f.nm = nm then i else whF nm r (i + 1)
def Sch.wh (l : List Sch) (nm : Bs) : Int := whF nm l 0
theorem whF_app {nm : Bs} : ∀ (d r : List Sch) (i : Int), (∀ f ∈ d, f.nm ≠ nm) → whF nm (d ++ r) i = whF nm r (i + d.length)
 | [], r, i, _ => by simp
 | f :: d, r, i, h => by
  rw [List.cons_append, whF, if_neg (h f (by simp)), whF_app d r (i + 1) fun x hx => h x (by simp [hx])]
  congr 1; simp; omega
theorem wh_hit {nm : Bs} {l d r : List Sch} {f : Sch} (h : l = d ++ f :: r) (hd : ∀ f ∈ d, f.nm ≠ nm) (hf : f.nm = nm) : Sch.wh l nm = d.length := by
 rw [Sch.wh, h, whF_app d _ 0 hd, whF, if_pos hf]; omega
theorem wh_miss {nm : Bs} {l : List Sch} (hd : ∀ f ∈ l, f.nm ≠ nm) : Sch.wh l nm = -1 := by
 have := whF_app l [] 0 hd
 rw [List.append_nil] at this
 rw [Sch.wh, this, whF]
theorem P_Where (l : List Sch) (nm : Bs) (hl : l.length < 1152921504606846976) : PCall EE 49 [.isl 2 (mapE Sch.enc l), str (ba nm)] (int (Sch.wh l nm)) := by
 have kcl := Sch.closedI l
 obtain ⟨P, hP⟩ : ∃ P, P = Sch.wh l nm := ⟨_, rfl⟩
 rw [← hP]
 have heq : ∀ f : Sch, ((ba f.nm).toList == (ba nm).toList) = decide (f.nm = nm) := fun f => ba_eqB _ _
 generalize hs : ba nm = s at *
 refine wordsN ?_; unhygienic intros
 generalize hes : mapE Sch.enc l = es at *
 have hel : es.length = l.length := by rw [← hes, mapE_len]
 refine fn_body (fn := Tryd.f49) (n := 20) (ac := Trydc49) (rvs := [.t 4]) rfl (by decide) Trydp49 rfl rfl rfl ?_
 refine goA 60 ?_
 refine on_loopP (ι := List Sch × List Sch × Int) (fun p => ([(5, int p.2.2), (0, .isl 2 es), (1, str s)], [])) (fun p => l = p.1 ++ p.2.1 ∧ p.2.2 = p.1.length ∧ ∀ f ∈ p.1, f.nm ≠ nm) (fun p => p.2.1.length) ([], l, 0) ⟨rfl, rfl, by simp⟩ ?_ ?_
 · exact (ent_sub [] [] trivial trivial ⟨.refl _, .cl kcl, .refl _, trivial⟩)
 rintro ⟨d, r, i⟩ ⟨g1, gi, gd⟩
 dsimp only at g1 gi gd ⊢
 cases r with
 | nil =>
  have L1 := len_split g1
  try simp only [List.length] at L1
  have hc : iLt i (lenA es) = false := lt_f e_iLt e_lenA (by omega)
  have hp : P = -1 := by rw [hP]; exact wh_miss (by rw [g1, List.append_nil]; exact gd)
  subst hp
  refine goB hX 0 (by conv => lhs; cbv; try simp only [hc]; cbv; try simp only [hc]; cbv; try simp only [hc]; cbv; try simp only [hc]; cbv) ?_
  refine goA 60 ?_
  refine loopP_exit ?_
  refine goA 60 ?_
  refine fn_ret rfl rfl (.val ?_)
  rfl
 | cons f r =>
  have L1 := len_split g1
  try simp only [List.length] at L1
  have hc : iLt i (lenA es) = true := lt_t e_iLt e_lenA (by omega)
  have hat := el_at e_atA hes g1 gi
  rw [Sch.enc_eq] at hat
  have hi2 : iAdd .i64 i 1 = ((d ++ [f]).length : Int) := by rw [List.length_append]; exact inc_w e_iAdd gi (by omega)
  have hq : sEq (ba f.nm) s = decide (f.nm = nm) := by simp only [ee]; exact heq f
  by_cases h : f.nm = nm
  · rw [decide_eq_true h] at hq
    have hp : P = i := by rw [hP, gi]; exact wh_hit g1 gd h
    generalize ba f.nm = fs at *
    generalize mapE Fld.enc f.fs = fk at *
    subst hp
    refine goB hX 0 (by conv => lhs; cbv; try simp only [hc, hat, hq]; cbv; try simp only [hc, hat, hq]; cbv; try simp only [hc, hat, hq]; cbv; try simp only [hc, hat, hq]; cbv) ?_
    refine goB hX 1 (by conv => lhs; cbv; try simp only [hc, hat, hq]; cbv; try simp only [hc, hat, hq]; cbv; try simp only [hc, hat, hq]; cbv; try simp only [hc, hat, hq]; cbv) ?_
    refine goA 60 ?_
    refine loopP_ret ?_
    refine goA 60 ?_
    refine fn_ret rfl rfl (.val ?_)
    rfl
  rw [decide_eq_false h] at hq
  have gd2 : ∀ x ∈ d ++ [f], x.nm ≠ nm := fun x hx => by
   rcases List.mem_append.1 hx with hx | hx
   · exact gd x hx
   · simp at hx; rw [hx]; exact h
  generalize ba f.nm = fs at *
  generalize mapE Fld.enc f.fs = fk at *
  refine goB hX 0 (by conv => lhs; cbv; try simp only [hc, hat, hq]; cbv; try simp only [hc, hat, hq]; cbv; try simp only [hc, hat, hq]; cbv; try simp only [hc, hat, hq]; cbv) ?_
  refine goB hX 1 (by conv => lhs; cbv; try simp only [hc, hat, hq]; cbv; try simp only [hc, hat, hq]; cbv; try simp only [hc, hat, hq]; cbv; try simp only [hc, hat, hq]; cbv) ?_
  refine goA 60 ?_
  refine loopP_next (d ++ [f], r, iAdd .i64 i 1) ⟨by simp [g1], hi2, gd2⟩ (by simp) (ent_sub [] [] trivial trivial ⟨.refl _, .cl kcl, .refl _, trivial⟩)
theorem P_taken (l : List Sch) (nm : Bs) (hl : l.length < 1152921504606846976) : PCall EE 59 [.isl 2 (mapE Sch.enc l), str (ba nm)] (bool (decide (0 ≤ Sch.wh l nm))) := by
 have kcl := Sch.closedI l
 obtain ⟨P, hP⟩ : ∃ P, P = decide (0 ≤ Sch.wh l nm) := ⟨_, rfl⟩
 rw [← hP]
 have heq : ∀ f : Sch, ((ba f.nm).toList == (ba nm).toList) = decide (f.nm = nm) := fun f => ba_eqB _ _
 generalize hs : ba nm = s at *
 refine wordsN ?_; unhygienic intros
 generalize hes : mapE Sch.enc l = es at *
 have hel : es.length = l.length := by rw [← hes, mapE_len]
 refine fn_body (fn := Tryd.f59) (n := 18) (ac := Trydc59) (rvs := [.t 4]) rfl (by decide) Trydp59 rfl rfl rfl ?_
 refine goA 60 ?_
 refine on_loopP (ι := List Sch × List Sch × Int) (fun p => ([(9, int p.2.2), (8, int (lenA es)), (7, .isl 2 es), (1, str s)], [])) (fun p => l = p.1 ++ p.2.1 ∧ p.2.2 = p.1.length ∧ ∀ f ∈ p.1, f.nm ≠ nm) (fun p => p.2.1.length) ([], l, 0) ⟨rfl, rfl, by simp⟩ ?_ ?_
 · exact (ent_sub [] [] trivial trivial ⟨.refl _, .refl _, .cl kcl, .refl _, trivial⟩)
 rintro ⟨d, r, i⟩ ⟨g1, gi, gd⟩
 dsimp only at g1 gi gd ⊢
 cases r with
 | nil =>
  have L1 := len_split g1
  try simp only [List.length] at L1
  have hc : iLt i (lenA es) = false := lt_f e_iLt e_lenA (by omega)
  have hp : P = false := by rw [hP, wh_miss (by rw [g1, List.append_nil]; exact gd)]; rfl
  subst hp
  refine goB hX 0 (by conv => lhs; cbv; try simp only [hc]; cbv; try simp only [hc]; cbv; try simp only [hc]; cbv; try simp only [hc]; cbv) ?_
  refine goA 60 ?_
  refine loopP_exit ?_
  refine goA 60 ?_
  refine fn_ret rfl rfl (.val ?_)
  rfl
 | cons f r =>
  have L1 := len_split g1
  try simp only [List.length] at L1
  have hc : iLt i (lenA es) = true := lt_t e_iLt e_lenA (by omega)
  have hat := el_at e_atA hes g1 gi
  rw [Sch.enc_eq] at hat
  have hi2 : iAdd .i64 i 1 = ((d ++ [f]).length : Int) := by rw [List.length_append]; exact inc_w e_iAdd gi (by omega)
  have hq : sEq (ba f.nm) s = decide (f.nm = nm) := by simp only [ee]; exact heq f
  by_cases h : f.nm = nm
  · rw [decide_eq_true h] at hq
    have hp : P = true := by rw [hP, wh_hit g1 gd h]; exact decide_eq_true (by omega)
    generalize ba f.nm = fs at *
    generalize mapE Fld.enc f.fs = fk at *
    subst hp
    refine goB hX 0 (by conv => lhs; cbv; try simp only [hc, hat, hq]; cbv; try simp only [hc, hat, hq]; cbv; try simp only [hc, hat, hq]; cbv; try simp only [hc, hat, hq]; cbv) ?_
    refine goB hX 1 (by conv => lhs; cbv; try simp only [hc, hat, hq]; cbv; try simp only [hc, hat, hq]; cbv; try simp only [hc, hat, hq]; cbv; try simp only [hc, hat, hq]; cbv) ?_
    refine goA 60 ?_
    refine loopP_ret ?_
    refine goA 60 ?_
    refine fn_ret rfl rfl (.val ?_)
    rfl
  rw [decide_eq_false h] at hq
  have gd2 : ∀ x ∈ d ++ [f], x.nm ≠ nm := fun x hx => by
   rcases List.mem_append.1 hx with hx | hx
   · exact gd x hx
   · simp at hx; rw [hx]; exact h
  generalize ba f.nm = fs at *
  generalize mapE Fld.enc f.fs = fk at *
  refine goB hX 0 (by conv => lhs; cbv; try simp only [hc, hat, hq]; cbv; try simp only [hc, hat, hq]; cbv; try simp only [hc, hat, hq]; cbv; try simp only [hc, hat, hq]; cbv) ?_
  refine goB hX 1 (by conv => lhs; cbv; try simp only [hc, hat, hq]; cbv; try simp only [hc, hat, hq]; cbv; try simp only [hc, hat, hq]; cbv; try simp only [hc, hat, hq]; cbv) ?_
  refine goA 60 ?_
  refine loopP_next (d ++ [f], r, iAdd .i64 i 1) ⟨by simp [g1], hi2, gd2⟩ (by simp) (ent_sub [.gone] [] ⟨trivial, trivial⟩ trivial ⟨.refl _, .refl _, .cl kcl, .refl _, trivial⟩)
end Go.Am
end
