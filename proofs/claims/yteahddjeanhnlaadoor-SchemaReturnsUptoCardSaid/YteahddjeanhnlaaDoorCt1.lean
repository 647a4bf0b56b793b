/- Contracts of the program's functions, for every argument that meets the conditions that each theorem names. -/
import Derived.Test.YteahddjeanhnlaaDoorAm6
import Derived.Test.YteahddjeanhnlaaDoorAm4
import Derived.Test.YteahddjeanhnlaaDoorProg
import Derived.Test.YteahddjeanhnlaaDoorAm5
import Derived.Shelf.Strings.Builder1
import Derived.Shelf.Strings.Builder2
import Derived.Shelf.Strings.BuilderF
import Derived.Shelf.Strings.BuilderK
import Derived.Shelf.Utf8.RuneCount
import Derived.Shelf.Strings.Builder2Cap
import Derived.Shelf.Strings.Search1
import Derived.Shelf.Strings.Search2
import Derived.Shelf.Strings.Search3
import Derived.Shelf.Strings.Cut
import Derived.Shelf.Strings.Count
import Derived.Shelf.LaysM
import Derived.Shelf.Strings.Shaped
import Derived.Shelf.Strings.Prefix
import Derived.Shelf.Strings.Split
import Derived.Shelf.Strings.Replace
import Derived.Shelf.Strings.SplitShaped
import Derived.Shelf.Unicode.Decode
import Derived.Shelf.Strings.RuneCount
import Derived.Shelf.Strings.Explode
import Derived.Shelf.Unicode.DecodeSlow
import Derived.Shelf.Unicode.DecodeAny
import Derived.Shelf.Strings.BuilderCap
import Derived.Shelf.Slices.Equal
import Derived.Shelf.Slices.Empties2
section
set_option maxHeartbeats 16000000
set_option maxRecDepth 100000
namespace Go.Am
open Go.Proofs
abbrev oN (d : Nat) (o : AOp) (a : List Nat) : AOper := ⟨some d, o, a, none⟩
abbrev oG (d : Nat) (o : AOp) (a : List Nat) (g : Nat) (b : Bool) : AOper := ⟨some d, o, a, some (g, b)⟩
abbrev eN (o : AOp) (a : List Nat) : AOper := ⟨none, o, a, none⟩
abbrev eG (o : AOp) (a : List Nat) (g : Nat) (b : Bool) : AOper := ⟨none, o, a, some (g, b)⟩
abbrev cI (n : Int) : Opd := .c (.val (.int .i64 n))
abbrev cB (b : Bool) : Opd := .c (.val (.bool b))
abbrev cN : Opd := .c (.val (.slice none 0 0))
abbrev vI (n : Int) : AV := .val (.int .i64 n)
abbrev vN : AV := .val (.slice none 0 0)
abbrev zE : List AV := [vI 0, vN, vI 0, vI 0, vI 0, vI 0, vI 0, .val (.string ⟨#[]⟩)]
abbrev zP : List AV := [vI 0, vN, vI 0, vI 0, vI 0, vI 0, vI 0, vN, vI 0, vI 0, vI 0, vI 0, vI 0, .val (.string ⟨#[]⟩)]
def Trydc9 : ACode :=
 (.seq (.reg [
 oN 3 (.box (.t 0)) [],
 oN 4 (.box (.t 1)) [],
 oN 5 (.box (.t 2)) [],
 oN 6 (.mv (cB false)) []])
 (.seq (.seq (.reg [
 oN 29 (.ld 2 true (.t 3)) [],
 oN 30 (.ld 2 true (.t 4)) [],
 oN 31 (.ld 2 true (.t 5)) [],
 oN 32 (.bslice 2 [(.t 29), (.t 30), (.t 31)]) [0,1,2],
 oN 33 (.call 11 [(.t 32)]) [3],
 oN 34 (.un .not (.t 33)) [4],
 oN 35 (.mv (.t 34)) [5,4],
 oG 36 (.ld 2 true (.t 3)) [6] 35 false,
 oG 37 (.bslice 2 [(.t 36)]) [7,6] 35 false,
 oG 38 (.call 25 [(.t 37)]) [8,6,6] 35 false,
 oG 39 (.bin .neq (.t 38) (cI 0)) [9,6] 35 false,
 oN 40 (.pick (.t 35) (cB true) (.t 39)) [6,10],
 oN 41 (.mv (.t 40)) [11,9],
 oG 42 (.ld 2 true (.t 4)) [12] 41 false,
 oG 43 (.call 15 [(.t 42)]) [13,12,12] 41 false,
 oG 44 (.bin .neq (.t 43) (cI 0)) [14,12] 41 false,
 oN 45 (.pick (.t 41) (cB true) (.t 44)) [12,15],
 oN 46 (.mv (.t 45)) [16,14],
 oG 47 (.ld 2 true (.t 5)) [17] 46 false,
 oG 48 (.call 15 [(.t 47)]) [18,17,17] 46 false,
 oG 49 (.bin .neq (.t 48) (cI 0)) [19,17] 46 false,
 oN 50 (.pick (.t 46) (cB true) (.t 49)) [17,20]])
 (.cond (.t 50)
 (.seq (.reg [
 oN 51 (.call 12 []) [],
 oN 6 (.mv (.t 51)) [0,0,0]])
 .ret)
 .skip))
 (.seq (.reg [
 oN 53 (.ld 2 true (.t 3)) [],
 oN 54 (.ld 2 true (.t 4)) [],
 oN 55 (.call 22 [(.t 53), (.t 54)]) [0,1],
 oN 52 (.mv (.t 55)) [2],
 oN 56 (.ext (.t 52) 0) [3],
 oN 57 (.ext (.t 52) 1) [3],
 oN 58 (.ext (.t 52) 2) [3],
 oN 7 (.mv (.t 56)) [4,2,0,1,2,3,4],
 oN 8 (.mv (.t 57)) [5,7,0,1,2,3,4,5,7],
 oN 9 (.mv (.t 58)) [6,8,0,1,2,3,4,5,6,7,8]])
 (.seq (.reg [
 oN 60 (.ld 2 true (.t 4)) [],
 oN 61 (.ld 2 true (.t 5)) [],
 oN 62 (.call 22 [(.t 60), (.t 61)]) [0,1],
 oN 59 (.mv (.t 62)) [2],
 oN 63 (.ext (.t 59) 0) [3],
 oN 64 (.ext (.t 59) 1) [3],
 oN 65 (.ext (.t 59) 2) [3],
 oN 10 (.mv (.t 63)) [4,2,0,1,2,3,4],
 oN 11 (.mv (.t 64)) [5,7,0,1,2,3,4,5,7],
 oN 12 (.mv (.t 65)) [6,8,0,1,2,3,4,5,6,7,8]])
 (.seq (.reg [
 oN 67 (.ld 2 true (.t 3)) [],
 oN 68 (.ld 2 true (.t 5)) [],
 oN 69 (.call 22 [(.t 67), (.t 68)]) [0,1],
 oN 66 (.mv (.t 69)) [2],
 oN 70 (.ext (.t 66) 0) [3],
 oN 71 (.ext (.t 66) 1) [3],
 oN 72 (.ext (.t 66) 2) [3],
 oN 13 (.mv (.t 70)) [4,2,0,1,2,3,4],
 oN 14 (.mv (.t 71)) [5,7,0,1,2,3,4,5,7],
 oN 15 (.mv (.t 72)) [6,8,0,1,2,3,4,5,6,7,8]])
 (.seq (.reg [
 oN 74 (.ld 2 true (.t 3)) [],
 oN 75 (.ld 2 true (.t 3)) [],
 oN 76 (.call 22 [(.t 74), (.t 75)]) [0,1],
 oN 73 (.mv (.t 76)) [2],
 oN 77 (.ext (.t 73) 0) [3],
 oN 78 (.ext (.t 73) 1) [3],
 oN 79 (.ext (.t 73) 2) [3],
 oN 16 (.mv (.t 77)) [4,2,0,1,2,3,4],
 oN 17 (.mv (.t 78)) [5,7,0,1,2,3,4,5,7],
 oN 18 (.mv (.t 79)) [6,8,0,1,2,3,4,5,6,7,8]])
 (.seq (.seq (.reg [
 oN 80 (.mv (.t 9)) [],
 oN 81 (.mv (.t 12)) [],
 oN 82 (.bin .add (.t 80) (.t 81)) [0,1],
 oN 83 (.mv (.t 15)) [],
 oN 84 (.bin .add (.t 82) (.t 83)) [2,3],
 oN 85 (.mv (.t 18)) [],
 oN 86 (.bin .add (.t 84) (.t 85)) [4,5],
 oN 87 (.bin .neq (.t 86) (cI 0)) [6],
 oN 88 (.mv (.t 87)) [7],
 oG 89 (.mv (.t 17)) [8] 88 false,
 oG 90 (.un .not (.t 89)) [9,8] 88 false,
 oN 91 (.pick (.t 88) (cB true) (.t 90)) [8,10],
 oN 92 (.mv (.t 91)) [11,8],
 oG 93 (.mv (.t 16)) [12] 92 false,
 oG 94 (.len (.t 93)) [13,12] 92 false,
 oG 95 (.fa 1 (.t 3)) [12] 92 false,
 oG 96 (.ld 1 false (.t 95)) [15,12] 92 false,
 oG 97 (.len (.t 96)) [16,12] 92 false,
 oG 98 (.bin .neq (.t 94) (.t 97)) [14,17,12] 92 false,
 oN 99 (.pick (.t 92) (cB true) (.t 98)) [12,18]])
 (.cond (.t 99)
 (.seq (.reg [
 oN 6 (.mv (cB false)) []])
 .ret)
 .skip))
 (.seq (.seq (.reg [
 oN 100 (.mv (.t 16)) [],
 oN 101 (.len (.t 100)) [0],
 oN 102 (.mv (cI 0)) []])
 (.block 0
 (.loop
 (.seq (.reg [
 oN 103 (.bin .lss (.t 102) (.t 101)) []])
 (.seq (.cond (.t 103)
 .skip
 (.exit 0))
 (.seq (.block 1
 (.seq (.reg [
 oN 104 (.mv (.t 102)) [],
 oN 105 (.ia 1 (.t 100) (.t 102)) [],
 oN 106 (.ld 1 false (.t 105)) [1],
 oN 19 (.mv (.t 104)) [0,0,1,2],
 oN 20 (.mv (.t 106)) [2,3,0,1,2,3]])
 (.seq (.reg [
 oN 107 (.mv (.t 19)) [],
 oN 108 (.mv (.t 20)) [],
 oN 109 (.bin .neq (.t 107) (.t 108)) [0,1]])
 (.cond (.t 109)
 (.seq (.reg [
 oN 6 (.mv (cB false)) []])
 .ret)
 .skip))))
 (.reg [
 oN 110 (.bin .add (.t 102) (cI 1)) [],
 oN 102 (.mv (.t 110)) [0]])))))))
 (.seq (.seq (.reg [
 oN 111 (.mv (.t 8)) [],
 oN 112 (.mv (.t 111)) [0],
 oG 113 (.mv (.t 11)) [1] 112 true,
 oN 114 (.pick (.t 112) (.t 113) (cB false)) [1,2]])
 (.cond (.t 114)
 (.seq (.seq (.reg [
 oN 115 (.mv (.t 14)) [],
 oN 116 (.un .not (.t 115)) [0],
 oN 117 (.mv (.t 116)) [1],
 oG 118 (.mv (.t 13)) [2] 117 false,
 oG 119 (.len (.t 118)) [3,2] 117 false,
 oG 120 (.mv (.t 10)) [2] 117 false,
 oG 121 (.len (.t 120)) [5,2] 117 false,
 oG 122 (.bin .neq (.t 119) (.t 121)) [4,6,2] 117 false,
 oN 123 (.pick (.t 117) (cB true) (.t 122)) [2,7],
 oN 124 (.mv (.t 123)) [8,2],
 oG 125 (.mv (.t 7)) [9] 124 false,
 oG 126 (.len (.t 125)) [10,9] 124 false,
 oG 127 (.fa 1 (.t 4)) [9] 124 false,
 oG 128 (.ld 1 false (.t 127)) [12,9] 124 false,
 oG 129 (.len (.t 128)) [13,9] 124 false,
 oG 130 (.bin .neq (.t 126) (.t 129)) [11,14,9] 124 false,
 oN 131 (.pick (.t 124) (cB true) (.t 130)) [9,15]])
 (.cond (.t 131)
 (.seq (.reg [
 oN 6 (.mv (cB false)) []])
 .ret)
 .skip))
 (.seq (.reg [
 oN 132 (.mv (.t 10)) [],
 oN 133 (.len (.t 132)) [0],
 oN 134 (.mv (cI 0)) []])
 (.block 2
 (.loop
 (.seq (.reg [
 oN 135 (.bin .lss (.t 134) (.t 133)) []])
 (.seq (.cond (.t 135)
 .skip
 (.exit 2))
 (.seq (.block 3
 (.seq (.reg [
 oN 136 (.mv (.t 134)) [],
 oN 137 (.ia 1 (.t 132) (.t 134)) [],
 oN 138 (.ld 1 false (.t 137)) [1],
 oN 21 (.mv (.t 136)) [0,0,1,2],
 oN 22 (.mv (.t 138)) [2,3,0,1,2,3]])
 (.seq (.draw [
 oN 139 (.mv (.t 22)) [],
 oN 140 (.bin .lss (.t 139) (cI 0)) [0],
 oN 141 (.mv (.t 140)) [1],
 oG 142 (.mv (.t 22)) [2] 141 false,
 oG 143 (.mv (.t 7)) [2] 141 false,
 oG 144 (.len (.t 143)) [4,2] 141 false,
 oG 145 (.bin .geq (.t 142) (.t 144)) [3,5,2] 141 false,
 oN 146 (.pick (.t 141) (cB true) (.t 145)) [2,6],
 oN 147 (.mv (.t 146)) [7,2],
 oG 148 (.mv (.t 13)) [8] 147 false,
 oG 149 (.mv (.t 21)) [8] 147 false,
 oG 150 (.ia 1 (.t 148) (.t 149)) [9,10,8] 147 false,
 oG 151 (.ld 1 false (.t 150)) [11,8] 147 false,
 oG 152 (.mv (.t 7)) [8] 147 false,
 oG 153 (.mv (.t 22)) [8] 147 false,
 oG 154 (.ia 1 (.t 152) (.t 153)) [13,14,8] 147 false,
 oG 155 (.ld 1 false (.t 154)) [15,8] 147 false,
 oG 156 (.bin .neq (.t 151) (.t 155)) [12,16,8] 147 false,
 oN 157 (.pick (.t 147) (cB true) (.t 156)) [8,17]])
 (.cond (.t 157)
 (.seq (.reg [
 oN 6 (.mv (cB false)) []])
 .ret)
 .skip))))
 (.reg [
 oN 158 (.bin .add (.t 134) (cI 1)) [],
 oN 134 (.mv (.t 158)) [0]]))))))))
 .skip))
 (.seq (.draw [
 oN 159 (.fa 0 (.t 3)) [],
 oN 160 (.ld 1 false (.t 159)) [0],
 oN 161 (.fa 1 (.t 3)) [],
 oN 162 (.ld 1 false (.t 161)) [2],
 oN 163 (.fa 1 (.t 3)) [],
 oN 164 (.ld 1 false (.t 163)) [4],
 oN 165 (.len (.t 164)) [5],
 oN 166 (.bin .quo (.t 165) (cI 2)) [6],
 oN 167 (.slc 2 (.t 162) (some (.t 166)) none) [3,7],
 oN 168 (.call 29 [(.t 167)]) [8],
 oN 169 (.build [(.val (.string ⟨#[]⟩)), vN] [(0, 1, (.t 160)), (1, 1, (.t 168))]) [1,9],
 oN 23 (.box (.c (.agg [(.val (.string ⟨#[]⟩)), vN]))) [],
 eN (.st 2 (.t 23) (.t 169)) [11,10,9,0,1,2,3,4,5,6,7,8,9,10,11]])
 (.seq (.reg [
 oN 170 (.fa 1 (.t 23)) [],
 oN 171 (.ld 1 false (.t 170)) [0],
 oN 172 (.call 30 [(.t 171)]) [1]])
 (.seq (.reg [
 oN 174 (.ld 2 true (.t 3)) [],
 oN 175 (.ld 2 true (.t 23)) [],
 oN 176 (.call 22 [(.t 174), (.t 175)]) [0,1],
 oN 173 (.mv (.t 176)) [2],
 oN 177 (.ext (.t 173) 0) [3],
 oN 178 (.ext (.t 173) 1) [3],
 oN 179 (.ext (.t 173) 2) [3],
 oN 24 (.mv (.t 177)) [4,2,0,1,2,3,4],
 oN 25 (.mv (.t 178)) [5,7,0,1,2,3,4,5,7],
 oN 26 (.mv (.t 179)) [6,8,0,1,2,3,4,5,6,7,8]])
 (.seq (.seq (.reg [
 oN 180 (.mv (.t 26)) [],
 oN 181 (.bin .neq (.t 180) (cI 0)) [0],
 oN 182 (.mv (.t 181)) [1],
 oG 183 (.mv (.t 25)) [2] 182 false,
 oG 184 (.un .not (.t 183)) [3,2] 182 false,
 oN 185 (.pick (.t 182) (cB true) (.t 184)) [2,4],
 oN 186 (.mv (.t 185)) [5,2],
 oG 187 (.mv (.t 24)) [6] 186 false,
 oG 188 (.len (.t 187)) [7,6] 186 false,
 oG 189 (.fa 1 (.t 23)) [6] 186 false,
 oG 190 (.ld 1 false (.t 189)) [9,6] 186 false,
 oG 191 (.len (.t 190)) [10,6] 186 false,
 oG 192 (.bin .neq (.t 188) (.t 191)) [8,11,6] 186 false,
 oN 193 (.pick (.t 186) (cB true) (.t 192)) [6,12]])
 (.cond (.t 193)
 (.seq (.reg [
 oN 6 (.mv (cB false)) []])
 .ret)
 .skip))
 (.seq (.seq (.reg [
 oN 194 (.mv (.t 24)) [],
 oN 195 (.len (.t 194)) [0],
 oN 196 (.mv (cI 0)) []])
 (.block 4
 (.loop
 (.seq (.reg [
 oN 197 (.bin .lss (.t 196) (.t 195)) []])
 (.seq (.cond (.t 197)
 .skip
 (.exit 4))
 (.seq (.block 5
 (.seq (.reg [
 oN 198 (.mv (.t 196)) [],
 oN 199 (.ia 1 (.t 194) (.t 196)) [],
 oN 200 (.ld 1 false (.t 199)) [1],
 oN 27 (.mv (.t 198)) [0,0,1,2],
 oN 28 (.mv (.t 200)) [2,3,0,1,2,3]])
 (.seq (.reg [
 oN 201 (.mv (.t 28)) [],
 oN 202 (.fa 1 (.t 3)) [],
 oN 203 (.ld 1 false (.t 202)) [1],
 oN 204 (.len (.t 203)) [2],
 oN 205 (.bin .sub (.t 204) (cI 1)) [3],
 oN 206 (.mv (.t 27)) [],
 oN 207 (.bin .sub (.t 205) (.t 206)) [4,5],
 oN 208 (.bin .neq (.t 201) (.t 207)) [0,6]])
 (.cond (.t 208)
 (.seq (.reg [
 oN 6 (.mv (cB false)) []])
 .ret)
 .skip))))
 (.reg [
 oN 209 (.bin .add (.t 196) (cI 1)) [],
 oN 196 (.mv (.t 209)) [0]])))))))
 (.seq (.reg [
 oN 210 (.call 12 []) [],
 oN 6 (.mv (.t 210)) [0,0,0]])
 .ret)))))))))))))))
theorem Trydp9 : (Tryd.f9.body.map (prep Tryd.prog 211)) = some Trydc9 := by kernel_rfl
def Trydc10 : ACode :=
 (.seq (.reg [
 oN 2 (.mv (cB false)) []])
 (.seq (.seq (.reg [
 oN 14 (.mv (.t 0)) [],
 oN 15 (.call 11 [(.t 14)]) [0],
 oN 16 (.un .not (.t 15)) [1]])
 (.cond (.t 16)
 (.seq (.reg [
 oN 17 (.call 12 []) [],
 oN 2 (.mv (.t 17)) [0,0,0]])
 .ret)
 .skip))
 (.seq (.reg [
 oN 19 (.mv (.t 0)) [],
 oN 20 (.call 20 [(.t 19)]) [0],
 oN 18 (.mv (.t 20)) [1],
 oN 21 (.ext (.t 18) 0) [2],
 oN 22 (.ext (.t 18) 1) [2],
 oN 3 (.mv (.t 21)) [3,1,0,1,2,3],
 oN 4 (.mv (.t 22)) [4,5,0,1,2,3,4,5]])
 (.seq (.seq (.reg [
 oN 23 (.mv (.t 4)) [],
 oN 24 (.bin .neq (.t 23) (cI 0)) [0]])
 (.cond (.t 24)
 (.seq (.reg [
 oN 25 (.mv (.t 4)) [],
 oN 26 (.mv (.t 0)) [],
 oN 27 (.call 25 [(.t 26)]) [1],
 oN 28 (.bin .eql (.t 25) (.t 27)) [0,2],
 oN 29 (.mv (.t 28)) [3,2],
 oG 30 (.call 12 []) [4,4] 29 true,
 oN 31 (.pick (.t 29) (.t 30) (cB false)) [4,5],
 oN 2 (.mv (.t 31)) [6,5,0,1,2,3,4,5,6]])
 .ret)
 .skip))
 (.seq (.reg [
 oN 33 (.mv (.t 3)) [],
 oN 34 (.call 17 [(.t 33)]) [0],
 oN 32 (.mv (.t 34)) [1],
 oN 35 (.ext (.t 32) 0) [2],
 oN 36 (.ext (.t 32) 1) [2],
 oN 37 (.ext (.t 32) 2) [2],
 oN 5 (.mv (.t 35)) [3,1,0,1,2,3],
 oN 6 (.mv (.t 36)) [4,6,0,1,2,3,4,6],
 oN 7 (.mv (.t 37)) [5,7,0,1,2,3,4,5,6,7]])
 (.seq (.reg [
 oN 39 (.mv (.t 3)) [],
 oN 40 (.call 31 [(.t 39), (.c (.val (.string ⟨#[32]⟩))), (.c (.val (.string ⟨#[32,32,32]⟩)))]) [0],
 oN 41 (.call 31 [(.t 40), (.c (.val (.string ⟨#[10]⟩))), (.c (.val (.string ⟨#[32,10,32,10]⟩)))]) [1,1],
 oN 42 (.bin .add (.c (.val (.string ⟨#[32,10,10]⟩))) (.t 41)) [2],
 oN 43 (.call 17 [(.t 42)]) [3,2],
 oN 38 (.mv (.t 43)) [4],
 oN 44 (.ext (.t 38) 0) [5],
 oN 45 (.ext (.t 38) 1) [5],
 oN 46 (.ext (.t 38) 2) [5],
 oN 8 (.mv (.t 44)) [6,4,0,1,2,3,4,5,6],
 oN 9 (.mv (.t 45)) [7,9,0,1,2,3,4,5,6,7,9],
 oN 10 (.mv (.t 46)) [8,10,0,1,2,3,4,5,6,7,8,9,10]])
 (.seq (.reg [
 oN 48 (.mv (.t 3)) [],
 oN 49 (.call 32 [(.t 48), (.c (.val (.string ⟨#[10]⟩)))]) [0],
 oN 50 (.call 17 [(.t 49)]) [1,1],
 oN 47 (.mv (.t 50)) [2],
 oN 51 (.ext (.t 47) 0) [3],
 oN 52 (.ext (.t 47) 1) [3],
 oN 53 (.ext (.t 47) 2) [3],
 oN 11 (.mv (.t 51)) [4,2,0,1,2,3,4],
 oN 12 (.mv (.t 52)) [5,7,0,1,2,3,4,5,7],
 oN 13 (.mv (.t 53)) [6,8,0,1,2,3,4,5,6,7,8]])
 (.seq (.reg [
 oN 54 (.call 12 []) [],
 oN 55 (.mv (.t 54)) [0,0],
 oG 56 (.mv (.t 7)) [1] 55 true,
 oG 57 (.mv (.t 10)) [1] 55 true,
 oG 58 (.bin .add (.t 56) (.t 57)) [2,3,1] 55 true,
 oG 59 (.mv (.t 13)) [1] 55 true,
 oG 60 (.bin .add (.t 58) (.t 59)) [4,5,1] 55 true,
 oG 61 (.bin .eql (.t 60) (cI 0)) [6,1] 55 true,
 oN 62 (.pick (.t 55) (.t 61) (cB false)) [1,7],
 oN 63 (.mv (.t 62)) [8,1],
 oG 64 (.mv (.t 5)) [9] 63 true,
 oG 65 (.mv (.t 0)) [9] 63 true,
 oG 66 (.call 19 [(.t 64), (.t 65)]) [10,11,9,9] 63 true,
 oN 67 (.pick (.t 63) (.t 66) (cB false)) [9,12],
 oN 68 (.mv (.t 67)) [13,12],
 oG 69 (.mv (.t 8)) [14] 68 true,
 oG 70 (.mv (.t 0)) [14] 68 true,
 oG 71 (.call 19 [(.t 69), (.t 70)]) [15,16,14,14] 68 true,
 oN 72 (.pick (.t 68) (.t 71) (cB false)) [14,17],
 oN 73 (.mv (.t 72)) [18,17],
 oG 74 (.mv (.t 11)) [19] 73 true,
 oG 75 (.mv (.t 0)) [19] 73 true,
 oG 76 (.call 19 [(.t 74), (.t 75)]) [20,21,19,19] 73 true,
 oN 77 (.pick (.t 73) (.t 76) (cB false)) [19,22],
 oN 2 (.mv (.t 77)) [23,22,0,1,2,3,4,5,6,7,8,9,10,11,12,13,14,15,16,17,18,19,20,21,22,23]])
 .ret))))))))
theorem Trydp10 : (Tryd.f10.body.map (prep Tryd.prog 78)) = some Trydc10 := by kernel_rfl
def Trydc11 : ACode :=
 (.seq (.reg [
 oN 2 (.mv (cB false)) []])
 (.seq (.seq (.reg [
 oN 3 (.mv (cI 0)) []])
 (.block 0
 (.loop
 (.seq (.seq (.reg [
 oN 4 (.mv (.t 3)) [],
 oN 5 (.mv (.t 0)) [],
 oN 6 (.len (.t 5)) [1],
 oN 7 (.bin .lss (.t 4) (.t 6)) [0,2]])
 (.cond (.t 7)
 .skip
 (.exit 0)))
 (.seq (.block 1
 (.seq (.reg [
 oN 10 (.mv (.t 0)) [],
 oN 11 (.mv (.t 3)) [],
 oN 12 (.ia 2 (.t 10) (.t 11)) [0,1],
 oN 13 (.fa 1 (.t 12)) [2],
 oN 14 (.ld 1 false (.t 13)) [3],
 oN 15 (.len (.t 14)) [4],
 oN 16 (.bin .gtr (.t 15) (cI 20)) [5],
 oN 17 (.mv (.t 16)) [6],
 oG 18 (.mv (.t 0)) [7] 17 false,
 oG 19 (.mv (.t 3)) [7] 17 false,
 oG 20 (.ia 2 (.t 18) (.t 19)) [8,9,7] 17 false,
 oG 21 (.fa 0 (.t 20)) [10,7] 17 false,
 oG 22 (.ld 1 false (.t 21)) [11,7] 17 false,
 oG 23 (.lens (.t 22)) [12,7] 17 false,
 oG 24 (.bin .gtr (.t 23) (cI 100)) [13,7] 17 false,
 oN 25 (.pick (.t 17) (cB true) (.t 24)) [7,14]])
 (.cond (.t 25)
 (.seq (.reg [
 oN 2 (.mv (cB false)) []])
 .ret)
 .skip)))
 (.reg [
 oN 8 (.mv (.t 3)) [],
 oN 9 (.bin .add (.t 8) (cI 1)) [0],
 oN 3 (.mv (.t 9)) [1,0,1]]))))))
 (.seq (.reg [
 oN 26 (.mv (.t 0)) [],
 oN 27 (.len (.t 26)) [0],
 oN 28 (.bin .leq (.t 27) (cI 20)) [1],
 oN 2 (.mv (.t 28)) [2,0,1,2]])
 .ret)))
theorem Trydp11 : (Tryd.f11.body.map (prep Tryd.prog 29)) = some Trydc11 := by kernel_rfl
def Trydc12 : ACode :=
 (.seq (.reg [
 oN 0 (.mv (cB false)) []])
 (.seq (.reg [
 oN 18 (.call 17 [(.c (.val (.string ⟨#[116,114,97,100,101,32,115,121,109,98,111,108,58,115,116,114,105,110,103,32,112,114,105,99,101,58,105,110,116,10,99,108,111,99,107,10]⟩)))]) [],
 oN 17 (.mv (.t 18)) [0],
 oN 19 (.ext (.t 17) 0) [1],
 oN 20 (.ext (.t 17) 1) [1],
 oN 21 (.ext (.t 17) 2) [1],
 oN 1 (.mv (.t 19)) [2,0,0,1,2],
 oN 2 (.mv (.t 20)) [3,5,0,1,2,3,5],
 oN 3 (.mv (.t 21)) [4,6,0,1,2,3,4,5,6]])
 (.seq (.seq (.reg [
 oN 22 (.mv (.t 3)) [],
 oN 23 (.bin .neq (.t 22) (cI 0)) [0],
 oN 24 (.mv (.t 23)) [1],
 oG 25 (.mv (.t 1)) [2] 24 false,
 oG 26 (.len (.t 25)) [3,2] 24 false,
 oG 27 (.bin .neq (.t 26) (cI 2)) [4,2] 24 false,
 oN 28 (.pick (.t 24) (cB true) (.t 27)) [2,5]])
 (.cond (.t 28)
 (.seq (.reg [
 oN 0 (.mv (cB false)) []])
 .ret)
 .skip))
 (.seq (.reg [
 oN 30 (.mv (.t 1)) [],
 oN 31 (.ia 2 (.t 30) (cI 0)) [0],
 oN 32 (.ld 2 true (.t 31)) [1],
 oN 33 (.call 13 [(.t 32), (.c (.val (.string ⟨#[112,114,105,99,101]⟩)))]) [2],
 oN 29 (.mv (.t 33)) [3],
 oN 34 (.ext (.t 29) 0) [4],
 oN 35 (.ext (.t 29) 1) [4],
 oN 4 (.mv (.t 34)) [5,3,0,1,2,3,4,5],
 oN 5 (.mv (.t 35)) [6,7,0,1,2,3,4,5,6,7]])
 (.seq (.reg [
 oN 37 (.mv (.t 1)) [],
 oN 38 (.call 20 [(.t 37)]) [0],
 oN 36 (.mv (.t 38)) [1],
 oN 39 (.ext (.t 36) 0) [2],
 oN 40 (.ext (.t 36) 1) [2],
 oN 6 (.mv (.t 39)) [3,1,0,1,2,3],
 oN 7 (.mv (.t 40)) [4,5,0,1,2,3,4,5]])
 (.seq (.reg [
 oN 8 (.mv (.c (.fn 33 []))) []])
 (.seq (.reg [
 oN 41 (.build [(.val (.string ⟨#[]⟩)), (vI 0)] [(0, 1, (.c (.val (.string ⟨#[112,114,105,99,101]⟩))))]) [],
 oN 42 (.build [(.val (.string ⟨#[]⟩)), (vI 0)] [(0, 1, (.c (.val (.string ⟨#[115,121,109,98,111,108]⟩)))), (1, 1, (cI 2))]) [],
 oN 9 (.box (.c (.agg [(.val (.string ⟨#[]⟩)), (vI 0)]))) [],
 oN 10 (.box (.c (.agg [(.val (.string ⟨#[]⟩)), (vI 0)]))) [],
 eN (.st 2 (.t 9) (.t 41)) [2,0,0,2,3],
 eN (.st 2 (.t 10) (.t 42)) [3,1,4,0,1,2,3,4]])
 (.seq (.draw [
 oN 44 (.mv (.t 1)) [],
 oN 45 (.ia 2 (.t 44) (cI 0)) [0],
 oN 46 (.ld 2 true (.t 45)) [1],
 oN 47 (.ld 2 true (.t 9)) [],
 oN 48 (.ld 2 true (.t 10)) [],
 oN 49 (.bslice 2 [(.t 47), (.t 48)]) [3,4],
 oN 50 (.build [(.val (.string ⟨#[]⟩)), vN] [(0, 1, (.c (.val (.string ⟨#[116]⟩)))), (1, 1, (.t 49))]) [5],
 oN 51 (.call 22 [(.t 46), (.t 50)]) [2,6],
 oN 43 (.mv (.t 51)) [7],
 oN 52 (.ext (.t 43) 0) [8],
 oN 53 (.ext (.t 43) 1) [8],
 oN 54 (.ext (.t 43) 2) [8],
 oN 11 (.mv (.t 52)) [9,7,0,1,2,3,4,5,6,7,8,9],
 oN 12 (.mv (.t 53)) [10,12,0,1,2,3,4,5,6,7,8,9,10,12],
 oN 13 (.mv (.t 54)) [11,13,0,1,2,3,4,5,6,7,8,9,10,11,12,13]])
 (.seq (.reg [
 oN 56 (.mv (.t 1)) [],
 oN 57 (.ia 2 (.t 56) (cI 0)) [0],
 oN 58 (.ld 2 true (.t 57)) [1],
 oN 59 (.build [(.val (.string ⟨#[]⟩)), (vI 0)] [(0, 1, (.c (.val (.string ⟨#[112,114,105,99,101]⟩)))), (1, 1, (cI 1))]) [],
 oN 60 (.bslice 2 [(.t 59)]) [3],
 oN 61 (.build [(.val (.string ⟨#[]⟩)), vN] [(0, 1, (.c (.val (.string ⟨#[116]⟩)))), (1, 1, (.t 60))]) [4],
 oN 62 (.call 22 [(.t 58), (.t 61)]) [2,5],
 oN 55 (.mv (.t 62)) [6],
 oN 63 (.ext (.t 55) 0) [7],
 oN 64 (.ext (.t 55) 1) [7],
 oN 65 (.ext (.t 55) 2) [7],
 oN 14 (.mv (.t 63)) [8,6,0,1,2,3,4,5,6,7,8],
 oN 15 (.mv (.t 64)) [9,11,0,1,2,3,4,5,6,7,8,9,11],
 oN 16 (.mv (.t 65)) [10,12,0,1,2,3,4,5,6,7,8,9,10,11,12]])
 (.seq (.reg [
 oN 66 (.mv (.t 5)) [],
 oN 67 (.mv (.t 7)) [],
 oN 68 (.bin .add (.t 66) (.t 67)) [0,1],
 oN 69 (.mv (.t 13)) [],
 oN 70 (.bin .add (.t 68) (.t 69)) [2,3],
 oN 71 (.mv (.t 16)) [],
 oN 72 (.bin .add (.t 70) (.t 71)) [4,5],
 oN 73 (.bin .eql (.t 72) (cI 0)) [6],
 oN 74 (.mv (.t 73)) [7],
 oG 75 (.mv (.t 4)) [8] 74 true,
 oG 76 (.bin .eql (.t 75) (cI 1)) [9,8] 74 true,
 oN 77 (.pick (.t 74) (.t 76) (cB false)) [8,10],
 oN 78 (.mv (.t 77)) [11,8],
 oG 79 (.mv (.t 6)) [12] 78 true,
 oG 80 (.bin .eql (.t 79) (.c (.val (.string ⟨#[116,114,97,100,101,32,115,121,109,98,111,108,58,115,116,114,105,110,103,32,112,114,105,99,101,58,105,110,116,10,99,108,111,99,107,10]⟩)))) [13,12] 78 true,
 oN 81 (.pick (.t 78) (.t 80) (cB false)) [12,14],
 oN 82 (.mv (.t 81)) [15,12],
 oG 83 (.mv (.t 12)) [16] 82 true,
 oN 84 (.pick (.t 82) (.t 83) (cB false)) [16,17],
 oN 85 (.mv (.t 84)) [18,16],
 oG 86 (.mv (.t 11)) [19] 85 true,
 oG 87 (.bslice 1 [(cI 1), (cI 0)]) [19] 85 true,
 oG 88 (.call 24 [(.t 86), (.t 87)]) [20,21,19,19] 85 true,
 oN 89 (.pick (.t 85) (.t 88) (cB false)) [19,22],
 oN 90 (.mv (.t 89)) [23,22],
 oG 91 (.mv (.t 15)) [24] 90 true,
 oG 92 (.un .not (.t 91)) [25,24] 90 true,
 oN 93 (.pick (.t 90) (.t 92) (cB false)) [24,26],
 oN 94 (.mv (.t 93)) [27,24],
 oG 95 (.mv (.t 8)) [28] 94 true,
 oG 96 (.callv (.t 95) [(.c (.val (.string ⟨#[116,114,97,100,101,32,112,114,105,99,101,58,105,110,116,32,112,114,105,99,101,58,98,111,111,108]⟩))), (cI 16), (cI 7)]) [29,28,28] 94 true,
 oN 97 (.pick (.t 94) (.t 96) (cB false)) [28,30],
 oN 98 (.mv (.t 97)) [31,30],
 oG 99 (.mv (.t 8)) [32] 98 true,
 oG 100 (.callv (.t 99) [(.c (.val (.string ⟨#[116,114,97,100,101,32,112,114,105,99,101]⟩))), (cI 6), (cI 4)]) [33,32,32] 98 true,
 oN 101 (.pick (.t 98) (.t 100) (cB false)) [32,34],
 oN 102 (.mv (.t 101)) [35,34],
 oG 103 (.mv (.t 8)) [36] 102 true,
 oG 104 (.callv (.t 103) [(.c (.val (.string ⟨#[116,114,97,100,101,32,116,105,109,101,58,105,110,116]⟩))), (cI 6), (cI 8)]) [37,36,36] 102 true,
 oN 105 (.pick (.t 102) (.t 104) (cB false)) [36,38],
 oN 106 (.mv (.t 105)) [39,38],
 oG 107 (.mv (.t 8)) [40] 106 true,
 oG 108 (.callv (.t 107) [(.c (.val (.string ⟨#[57,32,120]⟩))), (cI 0), (cI 8)]) [41,40,40] 106 true,
 oN 109 (.pick (.t 106) (.t 108) (cB false)) [40,42],
 oN 0 (.mv (.t 109)) [43,42,0,1,2,3,4,5,6,7,8,9,10,11,12,13,14,15,16,17,18,19,20,21,22,23,24,25,26,27,28,29,30,31,32,33,34,35,36,37,38,39,40,41,42,43]])
 .ret))))))))))
theorem Trydp12 : (Tryd.f12.body.map (prep Tryd.prog 110)) = some Trydc12 := by kernel_rfl
def Trydc13 : ACode :=
 (.seq (.reg [
 oN 2 (.box (.t 0)) [],
 oN 4 (.mv (cI 0)) [],
 oN 5 (.mv (cI 0)) [1]])
 (.seq (.seq (.reg [
 oN 8 (.ld 2 true (.t 2)) [],
 oN 9 (.call 15 [(.t 8)]) [0],
 oN 6 (.mv (.t 9)) [1,1,0,1]])
 (.seq (.reg [
 oN 10 (.mv (.t 6)) [],
 oN 11 (.bin .neq (.t 10) (cI 0)) [0]])
 (.cond (.t 11)
 (.seq (.reg [
 oN 12 (.mv (.t 6)) [],
 oN 4 (.mv (cI 0)) [],
 oN 5 (.mv (.t 12)) [0,1,0,1]])
 .ret)
 .skip)))
 (.seq (.seq (.reg [
 oN 13 (.fa 1 (.t 2)) [],
 oN 14 (.ld 1 false (.t 13)) [0],
 oN 15 (.mv (.t 1)) [],
 oN 16 (.call 34 [(.t 14), (.t 15)]) [1,2],
 oN 7 (.mv (.t 16)) [3,3,0,1,2,3]])
 (.seq (.reg [
 oN 17 (.mv (.t 7)) [],
 oN 18 (.bin .geq (.t 17) (cI 0)) [0]])
 (.cond (.t 18)
 (.seq (.reg [
 oN 19 (.mv (.t 7)) [],
 oN 4 (.mv (.t 19)) [0,0],
 oN 5 (.mv (cI 0)) [1,0,1]])
 .ret)
 .skip)))
 (.seq (.reg [
 oN 4 (.mv (cI 0)) [],
 oN 5 (.mv (cI 6)) [0,0]])
 .ret))))
theorem Trydp13 : (Tryd.f13.body.map (prep Tryd.prog 20)) = some Trydc13 := by kernel_rfl
def Trydc15 : ACode :=
 (.seq (.reg [
 oN 1 (.box (.t 0)) [],
 oN 2 (.mv (cI 0)) []])
 (.seq (.seq (.reg [
 oN 6 (.fa 0 (.t 1)) [],
 oN 7 (.ld 1 false (.t 6)) [0],
 oN 8 (.call 36 [(.t 7)]) [1],
 oN 9 (.un .not (.t 8)) [2]])
 (.cond (.t 9)
 (.seq (.reg [
 oN 2 (.mv (cI 8)) []])
 .ret)
 .skip))
 (.seq (.seq (.reg [
 oN 10 (.fa 1 (.t 1)) [],
 oN 11 (.ld 1 false (.t 10)) [0],
 oN 12 (.len (.t 11)) [1],
 oN 13 (.bin .gtr (.t 12) (cI 8)) [2]])
 (.cond (.t 13)
 (.seq (.reg [
 oN 2 (.mv (cI 5)) []])
 .ret)
 .skip))
 (.seq (.reg [
 oN 14 (.mkmap) [],
 oN 3 (.mv (.t 14)) [0,0]])
 (.seq (.seq (.reg [
 oN 15 (.fa 1 (.t 1)) [],
 oN 16 (.ld 1 false (.t 15)) [0],
 oN 17 (.len (.t 16)) [1],
 oN 18 (.mv (cI 0)) []])
 (.block 0
 (.loop
 (.seq (.reg [
 oN 19 (.bin .lss (.t 18) (.t 17)) []])
 (.seq (.cond (.t 19)
 .skip
 (.exit 0))
 (.seq (.block 1
 (.seq (.reg [
 oN 20 (.ia 2 (.t 16) (.t 18)) [],
 oN 21 (.ld 2 true (.t 20)) [0],
 oN 5 (.box (.c (.agg [(.val (.string ⟨#[]⟩)), (vI 0)]))) [],
 eN (.st 2 (.t 5) (.t 21)) [2,1,0,1,2]])
 (.seq (.block 2
 (.seq (.reg [
 oN 23 (.fa 0 (.t 5)) [],
 oN 24 (.ld 1 false (.t 23)) [0],
 oN 25 (.call 37 [(.t 24)]) [1],
 oN 26 (.un .not (.t 25)) [2],
 oN 22 (.mv (.t 26)) [3,2]])
 (.cond (.t 22)
 (.seq (.reg [
 oN 2 (.mv (cI 8)) []])
 .ret)
 (.seq (.reg [
 oN 28 (.mv (.t 3)) [],
 oN 29 (.fa 0 (.t 5)) [],
 oN 30 (.ld 1 false (.t 29)) [1],
 oN 31 (.mlook true (.val (.bool false)) (.t 28) (.t 30) false) [0,2],
 oN 27 (.mv (.t 31)) [3]])
 (.cond (.t 27)
 (.seq (.reg [
 oN 2 (.mv (cI 7)) []])
 .ret)
 (.seq (.reg [
 oN 33 (.fa 1 (.t 5)) [],
 oN 34 (.ld 1 false (.t 33)) [0],
 oN 35 (.bin .lss (.t 34) (cI 0)) [1],
 oN 36 (.mv (.t 35)) [2],
 oG 37 (.fa 1 (.t 5)) [3] 36 false,
 oG 38 (.ld 1 false (.t 37)) [4,3] 36 false,
 oG 39 (.bin .geq (.t 38) (cI 3)) [5,3] 36 false,
 oN 40 (.pick (.t 36) (cB true) (.t 39)) [3,6],
 oN 32 (.mv (.t 40)) [7,3]])
 (.cond (.t 32)
 (.seq (.reg [
 oN 2 (.mv (cI 1)) []])
 .ret)
 .skip)))))))
 (.reg [
 oN 41 (.mv (.t 3)) [],
 oN 42 (.fa 0 (.t 5)) [],
 oN 43 (.ld 1 false (.t 42)) [1],
 eN (.mput true (.t 41) (.t 43) (cB true)) [0,2,0,1,2]]))))
 (.reg [
 oN 44 (.bin .add (.t 18) (cI 1)) [],
 oN 18 (.mv (.t 44)) [0]])))))))
 (.seq (.reg [
 oN 2 (.mv (cI 0)) []])
 .ret))))))
theorem Trydp15 : (Tryd.f15.body.map (prep Tryd.prog 45)) = some Trydc15 := by kernel_rfl
def Trydc17 : ACode :=
 (.seq (.reg [
 oN 2 (.box cN) [],
 oN 3 (.box (cI 0)) [],
 oN 4 (.box (cI 0)) []])
 (.seq (.seq (.reg [
 oN 15 (.mv (.t 0)) [],
 oN 16 (.lens (.t 15)) [0],
 oN 17 (.bin .gtr (.t 16) (cI 65536)) [1]])
 (.cond (.t 17)
 (.seq (.reg [
 eN (.st 1 (.t 2) cN) [],
 eN (.st 1 (.t 3) (cI 0)) [0,0],
 eN (.st 1 (.t 4) (cI 13)) [1,0,1]])
 .ret)
 .skip))
 (.seq (.reg [
 oN 5 (.box cN) []])
 (.seq (.reg [
 oN 6 (.box (cI 0)) [],
 eN (.st 1 (.t 6) (cI 0)) [0,0]])
 (.seq (.seq (.reg [
 oN 18 (.mv (.t 0)) [],
 oN 19 (.call 39 [(.t 18), (.c (.val (.string ⟨#[10]⟩)))]) [0],
 oN 20 (.len (.t 19)) [1],
 oN 21 (.mv (cI 0)) []])
 (.block 0
 (.loop
 (.seq (.reg [
 oN 22 (.bin .lss (.t 21) (.t 20)) []])
 (.seq (.cond (.t 22)
 .skip
 (.exit 0))
 (.seq (.block 1
 (.seq (.reg [
 oN 23 (.ia 1 (.t 19) (.t 21)) [],
 oN 24 (.ld 1 false (.t 23)) [0],
 oN 8 (.mv (.t 24)) [1,0,1]])
 (.seq (.reg [
 oN 9 (.box (cB false)) [],
 eN (.st 1 (.t 9) (cB true)) [0,0]])
 (.seq (.seq (.reg [
 oN 25 (.mv (.t 8)) [],
 oN 26 (.call 40 [(.t 25)]) [0]])
 (.block 2
 (.rfun (.t 26) [27,28]
 (.seq (.reg [
 oN 10 (.mv (.t 27)) []])
 (.reg [
 oN 11 (.mv (.t 28)) []]))
 (.block 3
 (.seq (.seq (.reg [
 oN 29 (.ld 1 false (.t 9)) []])
 (.cond (.t 29)
 (.seq (.reg [
 oN 31 (.ld 1 false (.t 5)) [],
 oN 32 (.mv (.t 11)) [],
 oN 33 (.call 41 [(.t 31), (.t 32)]) [0,1],
 oN 30 (.mv (.t 33)) [2],
 oN 34 (.ext (.t 30) 0) [3],
 oN 35 (.ext (.t 30) 1) [3],
 oN 12 (.mv (.t 34)) [4,2,0,1,2,3,4],
 oN 13 (.mv (.t 35)) [5,6,0,1,2,3,4,5,6]])
 (.seq (.seq (.reg [
 oN 36 (.mv (.t 13)) [],
 oN 37 (.bin .neq (.t 36) (cI 0)) [0]])
 (.cond (.t 37)
 (.seq (.draw [
 oN 38 (.ld 1 false (.t 6)) [],
 oN 39 (.mv (.t 10)) [],
 oN 40 (.bin .add (.t 38) (.t 39)) [0,1],
 oN 41 (.mv (.t 13)) [],
 eN (.st 1 (.t 2) cN) [],
 eN (.st 1 (.t 3) (.t 40)) [2,4,0,1,2,4],
 eN (.st 1 (.t 4) (.t 41)) [3,5,0,1,2,3,4,5]])
 .ret)
 .skip))
 (.seq (.reg [
 oN 42 (.mv (.t 12)) [],
 eN (.st 1 (.t 5) (.t 42)) [0,0],
 eN (.st 1 (.t 9) (cB false)) [1,0,1]])
 (.exit 3))))
 .skip))
 (.seq (.reg [
 oN 43 (.ld 1 false (.t 5)) [],
 oN 44 (.ld 1 false (.t 5)) [],
 oN 45 (.len (.t 44)) [1],
 oN 46 (.bin .sub (.t 45) (cI 1)) [2],
 oN 47 (.ia 2 (.t 43) (.t 46)) [0,3],
 oN 48 (.mv (.t 11)) [],
 oN 49 (.call 42 [(.t 47), (.t 48)]) [4,5],
 oN 14 (.mv (.t 49)) [6,6,0,1,2,3,4,5,6]])
 (.seq (.reg [
 oN 50 (.mv (.t 14)) [],
 oN 51 (.bin .neq (.t 50) (cI 0)) [0]])
 (.cond (.t 51)
 (.seq (.draw [
 oN 52 (.ld 1 false (.t 6)) [],
 oN 53 (.mv (.t 10)) [],
 oN 54 (.bin .add (.t 52) (.t 53)) [0,1],
 oN 55 (.mv (.t 14)) [],
 eN (.st 1 (.t 2) cN) [],
 eN (.st 1 (.t 3) (.t 54)) [2,4,0,1,2,4],
 eN (.st 1 (.t 4) (.t 55)) [3,5,0,1,2,3,4,5]])
 .ret)
 .skip))))))))
 (.reg [
 oN 56 (.ld 1 false (.t 6)) [],
 oN 57 (.mv (.t 8)) [],
 oN 58 (.lens (.t 57)) [1],
 oN 59 (.bin .add (.t 58) (cI 1)) [2],
 oN 60 (.bin .add (.t 56) (.t 59)) [0,3],
 eN (.st 1 (.t 6) (.t 60)) [4,0,1,2,3,4]])))))
 (.reg [
 oN 61 (.bin .add (.t 21) (cI 1)) [],
 oN 21 (.mv (.t 61)) [0]])))))))
 (.seq (.reg [
 oN 62 (.ld 1 false (.t 5)) [],
 eN (.st 1 (.t 2) (.t 62)) [0,0],
 eN (.st 1 (.t 3) (cI 0)) [1,0,1],
 eN (.st 1 (.t 4) (cI 0)) [2,0,1,2]])
 .ret))))))
theorem Trydp17 : (Tryd.f17.body.map (prep Tryd.prog 63)) = some Trydc17 := by kernel_rfl
def Trydc19 : ACode :=
 (.seq (.reg [
 oN 4 (.mv (cB false)) []])
 (.seq (.seq (.reg [
 oN 6 (.mv (.t 0)) [],
 oN 7 (.len (.t 6)) [0],
 oN 8 (.mv (.t 1)) [],
 oN 9 (.len (.t 8)) [2],
 oN 10 (.bin .neq (.t 7) (.t 9)) [1,3]])
 (.cond (.t 10)
 (.seq (.reg [
 oN 4 (.mv (cB false)) []])
 .ret)
 .skip))
 (.seq (.seq (.reg [
 oN 5 (.mv (cI 0)) []])
 (.block 0
 (.loop
 (.seq (.seq (.reg [
 oN 11 (.mv (.t 5)) [],
 oN 12 (.mv (.t 0)) [],
 oN 13 (.len (.t 12)) [1],
 oN 14 (.bin .lss (.t 11) (.t 13)) [0,2]])
 (.cond (.t 14)
 .skip
 (.exit 0)))
 (.seq (.block 1
 (.seq (.draw [
 oN 17 (.mv (.t 0)) [],
 oN 18 (.mv (.t 5)) [],
 oN 19 (.ia 2 (.t 17) (.t 18)) [0,1],
 oN 20 (.ld 2 true (.t 19)) [2],
 oN 21 (.mv (.t 1)) [],
 oN 22 (.mv (.t 5)) [],
 oN 23 (.ia 2 (.t 21) (.t 22)) [4,5],
 oN 24 (.ld 2 true (.t 23)) [6],
 oN 25 (.call 46 [(.t 20), (.t 24)]) [3,7],
 oN 26 (.un .not (.t 25)) [8]])
 (.cond (.t 26)
 (.seq (.reg [
 oN 4 (.mv (cB false)) []])
 .ret)
 .skip)))
 (.reg [
 oN 15 (.mv (.t 5)) [],
 oN 16 (.bin .add (.t 15) (cI 1)) [0],
 oN 5 (.mv (.t 16)) [1,0,1]]))))))
 (.seq (.reg [
 oN 4 (.mv (cB true)) []])
 .ret))))
theorem Trydp19 : (Tryd.f19.body.map (prep Tryd.prog 27)) = some Trydc19 := by kernel_rfl
def Trydc20 : ACode :=
 (.seq (.reg [
 oN 2 (.mv (.c (.val (.string ⟨#[]⟩)))) [],
 oN 3 (.mv (cI 0)) [0]])
 (.seq (.seq (.reg [
 oN 10 (.mv (.t 0)) [],
 oN 11 (.call 25 [(.t 10)]) [0],
 oN 4 (.mv (.t 11)) [1,1,0,1]])
 (.seq (.reg [
 oN 12 (.mv (.t 4)) [],
 oN 13 (.bin .neq (.t 12) (cI 0)) [0]])
 (.cond (.t 13)
 (.seq (.reg [
 oN 14 (.mv (.t 4)) [],
 oN 2 (.mv (.c (.val (.string ⟨#[]⟩)))) [],
 oN 3 (.mv (.t 14)) [0,1,0,1]])
 .ret)
 .skip)))
 (.seq (.reg [
 oN 5 (.bnew 87) []])
 (.seq (.seq (.reg [
 oN 15 (.mv (.t 0)) [],
 oN 16 (.len (.t 15)) [0],
 oN 17 (.mv (cI 0)) []])
 (.block 0
 (.loop
 (.seq (.reg [
 oN 18 (.bin .lss (.t 17) (.t 16)) []])
 (.seq (.cond (.t 18)
 .skip
 (.exit 0))
 (.seq (.block 1
 (.seq (.reg [
 oN 19 (.ia 2 (.t 15) (.t 17)) [],
 oN 20 (.ld 2 true (.t 19)) [0],
 oN 7 (.box (.c (.agg [(.val (.string ⟨#[]⟩)), vN]))) [],
 eN (.st 2 (.t 7) (.t 20)) [2,1,0,1,2]])
 (.seq (.reg [
 oN 21 (.fa 0 (.t 7)) [],
 oN 22 (.ld 1 false (.t 21)) [0],
 oN 23 (.call 47 [(.t 5), (.t 22)]) [1]])
 (.seq (.seq (.reg [
 oN 24 (.fa 1 (.t 7)) [],
 oN 25 (.ld 1 false (.t 24)) [0],
 oN 26 (.len (.t 25)) [1],
 oN 27 (.mv (cI 0)) []])
 (.block 2
 (.loop
 (.seq (.reg [
 oN 28 (.bin .lss (.t 27) (.t 26)) []])
 (.seq (.cond (.t 28)
 .skip
 (.exit 2))
 (.seq (.block 3
 (.seq (.reg [
 oN 29 (.ia 2 (.t 25) (.t 27)) [],
 oN 30 (.ld 2 true (.t 29)) [0],
 oN 9 (.box (.c (.agg [(.val (.string ⟨#[]⟩)), (vI 0)]))) [],
 eN (.st 2 (.t 9) (.t 30)) [2,1,0,1,2]])
 (.draw [
 oN 31 (.fa 0 (.t 9)) [],
 oN 32 (.ld 1 false (.t 31)) [0],
 oN 33 (.bin .add (.c (.val (.string ⟨#[32]⟩))) (.t 32)) [1],
 oN 34 (.bin .add (.t 33) (.c (.val (.string ⟨#[58]⟩)))) [2],
 oN 35 (.fa 1 (.t 9)) [],
 oN 36 (.ld 1 false (.t 35)) [4],
 oN 37 (.iaA 1 3 (.g 0) (.t 36)) [5],
 oN 38 (.ld 1 false (.t 37)) [6],
 oN 39 (.bin .add (.t 34) (.t 38)) [3,7],
 oN 40 (.call 47 [(.t 5), (.t 39)]) [8]])))
 (.reg [
 oN 41 (.bin .add (.t 27) (cI 1)) [],
 oN 27 (.mv (.t 41)) [0]])))))))
 (.reg [
 oN 42 (.call 47 [(.t 5), (.c (.val (.string ⟨#[10]⟩)))]) []])))))
 (.reg [
 oN 43 (.bin .add (.t 17) (cI 1)) [],
 oN 17 (.mv (.t 43)) [0]])))))))
 (.seq (.reg [
 oN 44 (.call 48 [(.t 5)]) [],
 oN 2 (.mv (.t 44)) [0,0,0],
 oN 3 (.mv (cI 0)) [1,0,1]])
 .ret)))))
theorem Trydp20 : (Tryd.f20.body.map (prep Tryd.prog 45)) = some Trydc20 := by kernel_rfl
def Trydc22 : ACode :=
 (.seq (.reg [
 oN 2 (.box (.t 0)) [],
 oN 3 (.box (.t 1)) [],
 oN 4 (.mv cN) [],
 oN 5 (.mv (cB false)) [2],
 oN 6 (.mv (cI 0)) [3]])
 (.seq (.seq (.reg [
 oN 13 (.ld 2 true (.t 2)) [],
 oN 14 (.call 15 [(.t 13)]) [0],
 oN 7 (.mv (.t 14)) [1,1,0,1]])
 (.seq (.reg [
 oN 15 (.mv (.t 7)) [],
 oN 16 (.bin .neq (.t 15) (cI 0)) [0]])
 (.cond (.t 16)
 (.seq (.reg [
 oN 17 (.mv (.t 7)) [],
 oN 4 (.mv cN) [],
 oN 5 (.mv (cB false)) [1,1],
 oN 6 (.mv (.t 17)) [0,2,0,1,2]])
 .ret)
 .skip)))
 (.seq (.seq (.reg [
 oN 18 (.ld 2 true (.t 3)) [],
 oN 19 (.call 15 [(.t 18)]) [0],
 oN 8 (.mv (.t 19)) [1,1,0,1]])
 (.seq (.reg [
 oN 20 (.mv (.t 8)) [],
 oN 21 (.bin .neq (.t 20) (cI 0)) [0]])
 (.cond (.t 21)
 (.seq (.reg [
 oN 22 (.mv (.t 8)) [],
 oN 4 (.mv cN) [],
 oN 5 (.mv (cB false)) [1,1],
 oN 6 (.mv (.t 22)) [0,2,0,1,2]])
 .ret)
 .skip)))
 (.seq (.reg [
 oN 9 (.mv cN) []])
 (.seq (.seq (.reg [
 oN 23 (.fa 1 (.t 3)) [],
 oN 24 (.ld 1 false (.t 23)) [0],
 oN 25 (.len (.t 24)) [1],
 oN 26 (.mv (cI 0)) []])
 (.block 0
 (.loop
 (.seq (.reg [
 oN 27 (.bin .lss (.t 26) (.t 25)) []])
 (.seq (.cond (.t 27)
 .skip
 (.exit 0))
 (.seq (.block 1
 (.seq (.reg [
 oN 28 (.ia 2 (.t 24) (.t 26)) [],
 oN 29 (.ld 2 true (.t 28)) [0],
 oN 11 (.box (.c (.agg [(.val (.string ⟨#[]⟩)), (vI 0)]))) [],
 eN (.st 2 (.t 11) (.t 29)) [2,1,0,1,2]])
 (.seq (.reg [
 oN 30 (.fa 1 (.t 2)) [],
 oN 31 (.ld 1 false (.t 30)) [0],
 oN 32 (.fa 0 (.t 11)) [],
 oN 33 (.ld 1 false (.t 32)) [2],
 oN 34 (.call 34 [(.t 31), (.t 33)]) [1,3],
 oN 12 (.mv (.t 34)) [4,4,0,1,2,3,4]])
 (.seq (.seq (.draw [
 oN 35 (.mv (.t 12)) [],
 oN 36 (.bin .lss (.t 35) (cI 0)) [0],
 oN 37 (.mv (.t 36)) [1],
 oG 38 (.fa 1 (.t 2)) [2] 37 false,
 oG 39 (.ld 1 false (.t 38)) [3,2] 37 false,
 oG 40 (.mv (.t 12)) [2] 37 false,
 oG 41 (.ia 2 (.t 39) (.t 40)) [4,5,2] 37 false,
 oG 42 (.ld 2 true (.t 41)) [6,2] 37 false,
 oG 43 (.ld 2 true (.t 11)) [2] 37 false,
 oG 44 (.eqst true [.str, .int] (.t 42) (.t 43)) [7,8,2] 37 false,
 oN 45 (.pick (.t 37) (cB true) (.t 44)) [2,9]])
 (.cond (.t 45)
 (.seq (.reg [
 oN 4 (.mv cN) [],
 oN 5 (.mv (cB false)) [0,0],
 oN 6 (.mv (cI 0)) [1,0,1]])
 .ret)
 .skip))
 (.reg [
 oN 46 (.mv (.t 9)) [],
 oN 47 (.mv (.t 12)) [],
 oN 48 (.bslice 1 [(.t 47)]) [1],
 oN 49 (.app 1 8 (.t 46) (.t 48)) [0,2],
 oN 9 (.mv (.t 49)) [3,3,0,1,2,3]])))))
 (.reg [
 oN 50 (.bin .add (.t 26) (cI 1)) [],
 oN 26 (.mv (.t 50)) [0]])))))))
 (.seq (.reg [
 oN 51 (.mv (.t 9)) [],
 oN 4 (.mv (.t 51)) [0,0],
 oN 5 (.mv (cB true)) [1,0,1],
 oN 6 (.mv (cI 0)) [2,0,1,2]])
 .ret))))))
theorem Trydp22 : (Tryd.f22.body.map (prep Tryd.prog 52)) = some Trydc22 := by kernel_rfl
def Trydc24 : ACode :=
 (.seq (.reg [
 oN 4 (.mv (cB false)) []])
 (.seq (.seq (.reg [
 oN 6 (.mv (.t 0)) [],
 oN 7 (.len (.t 6)) [0],
 oN 8 (.mv (.t 1)) [],
 oN 9 (.len (.t 8)) [2],
 oN 10 (.bin .neq (.t 7) (.t 9)) [1,3]])
 (.cond (.t 10)
 (.seq (.reg [
 oN 4 (.mv (cB false)) []])
 .ret)
 .skip))
 (.seq (.seq (.reg [
 oN 11 (.mv (.t 0)) [],
 oN 12 (.len (.t 11)) [0],
 oN 13 (.mv (cI 0)) []])
 (.block 0
 (.loop
 (.seq (.reg [
 oN 14 (.bin .lss (.t 13) (.t 12)) []])
 (.seq (.cond (.t 14)
 .skip
 (.exit 0))
 (.seq (.block 1
 (.seq (.reg [
 oN 15 (.mv (.t 13)) [],
 oN 5 (.mv (.t 15)) [0,0]])
 (.seq (.draw [
 oN 16 (.mv (.t 0)) [],
 oN 17 (.mv (.t 5)) [],
 oN 18 (.ia 1 (.t 16) (.t 17)) [0,1],
 oN 19 (.ld 1 false (.t 18)) [2],
 oN 20 (.mv (.t 1)) [],
 oN 21 (.mv (.t 5)) [],
 oN 22 (.ia 1 (.t 20) (.t 21)) [4,5],
 oN 23 (.ld 1 false (.t 22)) [6],
 oN 24 (.bin .neq (.t 19) (.t 23)) [3,7]])
 (.cond (.t 24)
 (.seq (.reg [
 oN 4 (.mv (cB false)) []])
 .ret)
 .skip))))
 (.reg [
 oN 25 (.bin .add (.t 13) (cI 1)) [],
 oN 13 (.mv (.t 25)) [0]])))))))
 (.seq (.reg [
 oN 4 (.mv (cB true)) []])
 .ret))))
theorem Trydp24 : (Tryd.f24.body.map (prep Tryd.prog 26)) = some Trydc24 := by kernel_rfl
def Trydc25 : ACode :=
 (.seq (.reg [
 oN 2 (.mv (cI 0)) []])
 (.seq (.seq (.reg [
 oN 7 (.mv (.t 0)) [],
 oN 8 (.len (.t 7)) [0],
 oN 9 (.bin .gtr (.t 8) (cI 16)) [1]])
 (.cond (.t 9)
 (.seq (.reg [
 oN 2 (.mv (cI 5)) []])
 .ret)
 .skip))
 (.seq (.reg [
 oN 10 (.mkmap) [],
 oN 3 (.mv (.t 10)) [0,0]])
 (.seq (.seq (.reg [
 oN 11 (.mv (.t 0)) [],
 oN 12 (.len (.t 11)) [0],
 oN 13 (.mv (cI 0)) []])
 (.block 0
 (.loop
 (.seq (.reg [
 oN 14 (.bin .lss (.t 13) (.t 12)) []])
 (.seq (.cond (.t 14)
 .skip
 (.exit 0))
 (.seq (.block 1
 (.seq (.reg [
 oN 15 (.ia 2 (.t 11) (.t 13)) [],
 oN 16 (.ld 2 true (.t 15)) [0],
 oN 5 (.box (.c (.agg [(.val (.string ⟨#[]⟩)), vN]))) [],
 eN (.st 2 (.t 5) (.t 16)) [2,1,0,1,2]])
 (.seq (.seq (.reg [
 oN 17 (.ld 2 true (.t 5)) [],
 oN 18 (.call 15 [(.t 17)]) [0],
 oN 6 (.mv (.t 18)) [1,1,0,1]])
 (.seq (.reg [
 oN 19 (.mv (.t 6)) [],
 oN 20 (.bin .neq (.t 19) (cI 0)) [0]])
 (.cond (.t 20)
 (.seq (.reg [
 oN 21 (.mv (.t 6)) [],
 oN 2 (.mv (.t 21)) [0,0]])
 .ret)
 .skip)))
 (.seq (.seq (.reg [
 oN 22 (.mv (.t 3)) [],
 oN 23 (.fa 0 (.t 5)) [],
 oN 24 (.ld 1 false (.t 23)) [1],
 oN 25 (.mlook true (.val (.bool false)) (.t 22) (.t 24) false) [0,2]])
 (.cond (.t 25)
 (.seq (.reg [
 oN 2 (.mv (cI 7)) []])
 .ret)
 .skip))
 (.reg [
 oN 26 (.mv (.t 3)) [],
 oN 27 (.fa 0 (.t 5)) [],
 oN 28 (.ld 1 false (.t 27)) [1],
 eN (.mput true (.t 26) (.t 28) (cB true)) [0,2,0,1,2]])))))
 (.reg [
 oN 29 (.bin .add (.t 13) (cI 1)) [],
 oN 13 (.mv (.t 29)) [0]])))))))
 (.seq (.reg [
 oN 2 (.mv (cI 0)) []])
 .ret)))))
theorem Trydp25 : (Tryd.f25.body.map (prep Tryd.prog 30)) = some Trydc25 := by kernel_rfl
def Trydc29 : ACode :=
 (.seq (.reg [
 oN 2 (.mv cN) []])
 (.seq (.seq (.reg [
 oN 3 (.mv (.t 0)) [],
 oN 4 (.eqnil false (.t 3) cN) [0]])
 (.cond (.t 4)
 (.seq (.reg [
 oN 2 (.mv cN) []])
 .ret)
 .skip))
 (.seq (.reg [
 oN 5 (.bslice 2 []) [],
 oN 6 (.mv (.t 0)) [],
 oN 7 (.app 2 24 (.t 5) (.t 6)) [0,1],
 oN 2 (.mv (.t 7)) [2,2,0,1,2]])
 .ret)))
theorem Trydp29 : (Tryd.f29.body.map (prep Tryd.prog 8)) = some Trydc29 := by kernel_rfl
def Trydc30 : ACode :=
 (.seq (.reg [
 oN 4 (.mv (.t 0)) [],
 oN 5 (.len (.t 4)) [0],
 oN 6 (.bin .sub (.t 5) (cI 1)) [1],
 oN 2 (.mv (cI 0)) [],
 oN 3 (.mv (.t 6)) [2,3,0,1,2,3]])
 (.block 0
 (.loop
 (.seq (.seq (.reg [
 oN 7 (.mv (.t 2)) [],
 oN 8 (.mv (.t 3)) [],
 oN 9 (.bin .lss (.t 7) (.t 8)) [0,1]])
 (.cond (.t 9)
 .skip
 (.exit 0)))
 (.seq (.block 1
 (.draw [
 oN 14 (.mv (.t 0)) [],
 oN 15 (.mv (.t 2)) [],
 oN 16 (.mv (.t 0)) [],
 oN 17 (.mv (.t 3)) [],
 oN 18 (.mv (.t 0)) [],
 oN 19 (.mv (.t 3)) [],
 oN 20 (.ia 2 (.t 18) (.t 19)) [4,5],
 oN 21 (.ld 2 true (.t 20)) [6],
 oN 22 (.mv (.t 0)) [],
 oN 23 (.mv (.t 2)) [],
 oN 24 (.ia 2 (.t 22) (.t 23)) [8,9],
 oN 25 (.ld 2 true (.t 24)) [10],
 oN 26 (.ia 2 (.t 14) (.t 15)) [0,1,0,1,4,5,6,7,11],
 eN (.st 2 (.t 26) (.t 21)) [12,7,0,1,4,5,6,7,11],
 oN 27 (.ia 2 (.t 16) (.t 17)) [2,3,0,1,2,3,4,5,6,7,8,9,10,11,12,13],
 eN (.st 2 (.t 27) (.t 25)) [14,11,13,0,1,2,3,4,5,6,7,8,9,10,11,12,13]]))
 (.reg [
 oN 10 (.mv (.t 2)) [],
 oN 11 (.bin .add (.t 10) (cI 1)) [0],
 oN 12 (.mv (.t 3)) [],
 oN 13 (.bin .sub (.t 12) (cI 1)) [2],
 oN 2 (.mv (.t 11)) [1,0,1],
 oN 3 (.mv (.t 13)) [3,4,0,1,2,3,4]]))))))
theorem Trydp30 : (Tryd.f30.body.map (prep Tryd.prog 28)) = some Trydc30 := by kernel_rfl
def Trydc31 : ACode :=
 (.seq (.reg [
 oN 6 (.mv (.c (.val (.string ⟨#[]⟩)))) []])
 (.seq (.reg [
 oN 7 (.mv (.t 0)) [],
 oN 8 (.mv (.t 1)) [],
 oN 9 (.mv (.t 2)) [],
 oN 10 (.call 50 [(.t 7), (.t 8), (.t 9), (cI (-1))]) [0,1,2],
 oN 6 (.mv (.t 10)) [3,3,0,1,2,3]])
 .ret))
theorem Trydp31 : (Tryd.f31.body.map (prep Tryd.prog 11)) = some Trydc31 := by kernel_rfl
def Trydc32 : ACode :=
 (.seq (.reg [
 oN 4 (.mv (.c (.val (.string ⟨#[]⟩)))) []])
 (.seq (.reg [
 oN 5 (.mv (.t 0)) [],
 oN 6 (.mv (.t 1)) [],
 oN 7 (.call 51 [(.t 5), (.t 6)]) [0,1],
 oN 4 (.mv (.t 7)) [2,2,0,1,2]])
 .ret))
theorem Trydp32 : (Tryd.f32.body.map (prep Tryd.prog 8)) = some Trydc32 := by kernel_rfl
def Trydc33 : ACode :=
 (.seq (.reg [
 oN 6 (.mv (cB false)) []])
 (.seq (.reg [
 oN 11 (.mv (.t 0)) [],
 oN 12 (.call 17 [(.t 11)]) [0],
 oN 10 (.mv (.t 12)) [1],
 oN 13 (.ext (.t 10) 0) [2],
 oN 14 (.ext (.t 10) 1) [2],
 oN 15 (.ext (.t 10) 2) [2],
 oN 7 (.mv (.t 13)) [3,1,0,1,2,3],
 oN 8 (.mv (.t 14)) [4,6,0,1,2,3,4,6],
 oN 9 (.mv (.t 15)) [5,7,0,1,2,3,4,5,6,7]])
 (.seq (.reg [
 oN 16 (.mv (.t 8)) [],
 oN 17 (.mv (.t 1)) [],
 oN 18 (.bin .eql (.t 16) (.t 17)) [0,1],
 oN 19 (.mv (.t 18)) [2],
 oG 20 (.mv (.t 9)) [3] 19 true,
 oG 21 (.mv (.t 2)) [3] 19 true,
 oG 22 (.bin .eql (.t 20) (.t 21)) [4,5,3] 19 true,
 oN 23 (.pick (.t 19) (.t 22) (cB false)) [3,6],
 oN 6 (.mv (.t 23)) [7,3,0,1,2,3,4,5,6,7]])
 .ret)))
theorem Trydp33 : (Tryd.f33.body.map (prep Tryd.prog 24)) = some Trydc33 := by kernel_rfl
def Trydc34 : ACode :=
 (.seq (.reg [
 oN 4 (.mv (cI 0)) []])
 (.seq (.seq (.reg [
 oN 7 (.mv (.t 0)) [],
 oN 8 (.len (.t 7)) [0],
 oN 9 (.mv (cI 0)) []])
 (.block 0
 (.loop
 (.seq (.reg [
 oN 10 (.bin .lss (.t 9) (.t 8)) []])
 (.seq (.cond (.t 10)
 .skip
 (.exit 0))
 (.seq (.block 1
 (.seq (.reg [
 oN 11 (.mv (.t 9)) [],
 oN 12 (.ia 2 (.t 7) (.t 9)) [],
 oN 13 (.ld 2 true (.t 12)) [1],
 oN 6 (.box (.c (.agg [(.val (.string ⟨#[]⟩)), (vI 0)]))) [],
 oN 5 (.mv (.t 11)) [0,0,1,2,3],
 eN (.st 2 (.t 6) (.t 13)) [3,2,4,0,1,2,3,4]])
 (.seq (.reg [
 oN 14 (.fa 0 (.t 6)) [],
 oN 15 (.ld 1 false (.t 14)) [0],
 oN 16 (.mv (.t 1)) [],
 oN 17 (.bin .eql (.t 15) (.t 16)) [1,2]])
 (.cond (.t 17)
 (.seq (.reg [
 oN 18 (.mv (.t 5)) [],
 oN 4 (.mv (.t 18)) [0,0]])
 .ret)
 .skip))))
 (.reg [
 oN 19 (.bin .add (.t 9) (cI 1)) [],
 oN 9 (.mv (.t 19)) [0]])))))))
 (.seq (.reg [
 oN 4 (.mv (cI (-1))) []])
 .ret)))
theorem Trydp34 : (Tryd.f34.body.map (prep Tryd.prog 20)) = some Trydc34 := by kernel_rfl
def Trydc36 : ACode :=
 (.seq (.reg [
 oN 2 (.mv (cB false)) []])
 (.seq (.seq (.reg [
 oN 4 (.mv (.t 0)) [],
 oN 5 (.lens (.t 4)) [0],
 oN 6 (.bin .eql (.t 5) (cI 0)) [1],
 oN 7 (.mv (.t 6)) [2],
 oG 8 (.mv (.t 0)) [3] 7 false,
 oG 9 (.lens (.t 8)) [4,3] 7 false,
 oG 10 (.bin .gtr (.t 9) (cI 24)) [5,3] 7 false,
 oN 11 (.pick (.t 7) (cB true) (.t 10)) [3,6],
 oN 12 (.mv (.t 11)) [7,3],
 oG 13 (.mv (.t 0)) [8] 12 false,
 oG 14 (.ixS (.t 13) (cI 0)) [9,8] 12 false,
 oG 15 (.call 52 [(.t 14)]) [10,8,8] 12 false,
 oN 16 (.pick (.t 12) (cB true) (.t 15)) [8,11]])
 (.cond (.t 16)
 (.seq (.reg [
 oN 2 (.mv (cB false)) []])
 .ret)
 .skip))
 (.seq (.seq (.reg [
 oN 17 (.mv (.t 0)) [],
 oN 18 (.lens (.t 17)) [0],
 oN 19 (.mv (cI 0)) []])
 (.block 0
 (.loop
 (.seq (.reg [
 oN 20 (.bin .lss (.t 19) (.t 18)) []])
 (.seq (.cond (.t 20)
 .skip
 (.exit 0))
 (.seq (.block 1
 (.seq (.reg [
 oN 21 (.mv (.t 19)) [],
 oN 3 (.mv (.t 21)) [0,0]])
 (.seq (.reg [
 oN 22 (.mv (.t 0)) [],
 oN 23 (.mv (.t 3)) [],
 oN 24 (.ixS (.t 22) (.t 23)) [0,1],
 oN 25 (.call 53 [(.t 24)]) [2],
 oN 26 (.un .not (.t 25)) [3],
 oN 27 (.mv (.t 26)) [4,3],
 oG 28 (.mv (.t 0)) [5] 27 true,
 oG 29 (.mv (.t 3)) [5] 27 true,
 oG 30 (.ixS (.t 28) (.t 29)) [6,7,5] 27 true,
 oG 31 (.call 52 [(.t 30)]) [8,5,5] 27 true,
 oG 32 (.un .not (.t 31)) [9,5] 27 true,
 oN 33 (.pick (.t 27) (.t 32) (cB false)) [5,10]])
 (.cond (.t 33)
 (.seq (.reg [
 oN 2 (.mv (cB false)) []])
 .ret)
 .skip))))
 (.reg [
 oN 34 (.bin .add (.t 19) (cI 1)) [],
 oN 19 (.mv (.t 34)) [0]])))))))
 (.seq (.reg [
 oN 2 (.mv (cB true)) []])
 .ret))))
theorem Trydp36 : (Tryd.f36.body.map (prep Tryd.prog 35)) = some Trydc36 := by kernel_rfl
def Trydc37 : ACode :=
 (.seq (.reg [
 oN 2 (.mv (cB false)) []])
 (.seq (.reg [
 oN 3 (.mv (.t 0)) [],
 oN 4 (.call 36 [(.t 3)]) [0],
 oN 5 (.mv (.t 4)) [1,1],
 oG 6 (.mv (.t 0)) [2] 5 true,
 oG 7 (.bin .neq (.t 6) (.c (.val (.string ⟨#[116,105,109,101]⟩)))) [3,2] 5 true,
 oN 8 (.pick (.t 5) (.t 7) (cB false)) [2,4],
 oN 2 (.mv (.t 8)) [5,2,0,1,2,3,4,5]])
 .ret))
theorem Trydp37 : (Tryd.f37.body.map (prep Tryd.prog 9)) = some Trydc37 := by kernel_rfl
def Trydc39 : ACode :=
 (.seq (.reg [
 oN 4 (.mv cN) []])
 (.seq (.reg [
 oN 5 (.mv (.t 0)) [],
 oN 6 (.mv (.t 1)) [],
 oN 7 (.call 55 [(.t 5), (.t 6), (cI 0), (cI (-1))]) [0,1],
 oN 4 (.mv (.t 7)) [2,2,0,1,2]])
 .ret))
theorem Trydp39 : (Tryd.f39.body.map (prep Tryd.prog 8)) = some Trydc39 := by kernel_rfl
def Trydc40 : ACode :=
 (.seq (.reg [
 oN 1 (.box (.t 0)) [],
 oN 2 (.mv (.c (.val .nilFunc))) []])
 (.seq (.reg [
 oN 3 (.mkfn 56 [(.t 1)]) [],
 oN 2 (.mv (.t 3)) [0,0]])
 .ret))
theorem Trydp40 : (Tryd.f40.body.map (prep Tryd.prog 4)) = some Trydc40 := by kernel_rfl
def Trydc41 : ACode :=
 (.seq (.reg [
 oN 4 (.mv cN) [],
 oN 5 (.mv (cI 0)) [0]])
 (.seq (.block 0
 (.seq (.reg [
 oN 7 (.mv (.t 1)) [],
 oN 8 (.call 58 [(.t 7), (.c (.val (.string ⟨#[58]⟩)))]) [0],
 oN 6 (.mv (.t 8)) [1,1]])
 (.cond (.t 6)
 (.seq (.reg [
 oN 4 (.mv cN) [],
 oN 5 (.mv (cI 4)) [0,0]])
 .ret)
 (.seq (.reg [
 oN 10 (.mv (.t 0)) [],
 oN 11 (.len (.t 10)) [0],
 oN 12 (.bin .eql (.t 11) (cI 16)) [1],
 oN 9 (.mv (.t 12)) [2]])
 (.cond (.t 9)
 (.seq (.reg [
 oN 4 (.mv cN) [],
 oN 5 (.mv (cI 5)) [0,0]])
 .ret)
 (.seq (.reg [
 oN 14 (.mv (.t 1)) [],
 oN 15 (.call 36 [(.t 14)]) [0],
 oN 16 (.un .not (.t 15)) [1],
 oN 13 (.mv (.t 16)) [2,1]])
 (.cond (.t 13)
 (.seq (.reg [
 oN 4 (.mv cN) [],
 oN 5 (.mv (cI 8)) [0,0]])
 .ret)
 (.seq (.reg [
 oN 18 (.mv (.t 0)) [],
 oN 19 (.mv (.t 1)) [],
 oN 20 (.call 59 [(.t 18), (.t 19)]) [0,1],
 oN 17 (.mv (.t 20)) [2,2]])
 (.cond (.t 17)
 (.seq (.reg [
 oN 4 (.mv cN) [],
 oN 5 (.mv (cI 7)) [0,0]])
 .ret)
 .skip)))))))))
 (.seq (.reg [
 oN 21 (.mv (.t 0)) [],
 oN 22 (.mv (.t 1)) [],
 oN 23 (.build [(.val (.string ⟨#[]⟩)), vN] [(0, 1, (.t 22))]) [1],
 oN 24 (.bslice 2 [(.t 23)]) [2],
 oN 25 (.app 2 40 (.t 21) (.t 24)) [0,3],
 oN 4 (.mv (.t 25)) [4,4,0,1,2,3,4],
 oN 5 (.mv (cI 0)) [5,0,1,2,3,4,5]])
 .ret)))
theorem Trydp41 : (Tryd.f41.body.map (prep Tryd.prog 26)) = some Trydc41 := by kernel_rfl
def Trydc42 : ACode :=
 (.seq (.reg [
 oN 4 (.mv (cI 0)) []])
 (.seq (.reg [
 oN 12 (.mv (.t 1)) [],
 oN 13 (.call 57 [(.t 12), (.c (.val (.string ⟨#[58]⟩)))]) [0],
 oN 11 (.mv (.t 13)) [1],
 oN 14 (.ext (.t 11) 0) [2],
 oN 15 (.ext (.t 11) 1) [2],
 oN 16 (.ext (.t 11) 2) [2],
 oN 5 (.mv (.t 14)) [3,1,0,1,2,3],
 oN 6 (.mv (.t 15)) [4,6,0,1,2,3,4,6],
 oN 7 (.mv (.t 16)) [5,7,0,1,2,3,4,5,6,7]])
 (.seq (.reg [
 oN 8 (.mv (cI (-1))) []])
 (.seq (.seq (.reg [
 oN 17 (.ld 3 true (.g 0)) [],
 oN 18 (.mv (cI 0)) []])
 (.block 0
 (.loop
 (.seq (.reg [
 oN 19 (.bin .lss (.t 18) (cI 3)) []])
 (.seq (.cond (.t 19)
 .skip
 (.exit 0))
 (.seq (.block 1
 (.seq (.reg [
 oN 20 (.mv (.t 18)) [],
 oN 21 (.ixA 1 3 false (.t 17) (.t 18)) [],
 oN 9 (.mv (.t 20)) [0,0,1],
 oN 10 (.mv (.t 21)) [1,2,0,1,2]])
 (.seq (.reg [
 oN 22 (.mv (.t 10)) [],
 oN 23 (.mv (.t 6)) [],
 oN 24 (.bin .eql (.t 22) (.t 23)) [0,1]])
 (.cond (.t 24)
 (.reg [
 oN 25 (.mv (.t 9)) [],
 oN 8 (.mv (.t 25)) [0,0]])
 .skip))))
 (.reg [
 oN 26 (.bin .add (.t 18) (cI 1)) [],
 oN 18 (.mv (.t 26)) [0]])))))))
 (.seq (.block 2
 (.seq (.reg [
 oN 28 (.mv (.t 8)) [],
 oN 29 (.bin .lss (.t 28) (cI 0)) [0],
 oN 27 (.mv (.t 29)) [1]])
 (.cond (.t 27)
 (.seq (.reg [
 oN 4 (.mv (cI 4)) []])
 .ret)
 (.seq (.reg [
 oN 31 (.mv (.t 0)) [],
 oN 32 (.nilchk (.t 31)) [0],
 oN 33 (.fa 1 (.t 32)) [1],
 oN 34 (.ld 1 false (.t 33)) [2],
 oN 35 (.len (.t 34)) [3],
 oN 36 (.bin .eql (.t 35) (cI 8)) [4],
 oN 30 (.mv (.t 36)) [5]])
 (.cond (.t 30)
 (.seq (.reg [
 oN 4 (.mv (cI 5)) []])
 .ret)
 (.seq (.reg [
 oN 38 (.mv (.t 5)) [],
 oN 39 (.call 37 [(.t 38)]) [0],
 oN 40 (.un .not (.t 39)) [1],
 oN 37 (.mv (.t 40)) [2,1]])
 (.cond (.t 37)
 (.seq (.reg [
 oN 4 (.mv (cI 8)) []])
 .ret)
 (.seq (.reg [
 oN 42 (.mv (.t 0)) [],
 oN 43 (.nilchk (.t 42)) [0],
 oN 44 (.fa 1 (.t 43)) [1],
 oN 45 (.ld 1 false (.t 44)) [2],
 oN 46 (.mv (.t 5)) [],
 oN 47 (.call 34 [(.t 45), (.t 46)]) [3,4],
 oN 48 (.bin .geq (.t 47) (cI 0)) [5],
 oN 41 (.mv (.t 48)) [6,5]])
 (.cond (.t 41)
 (.seq (.reg [
 oN 4 (.mv (cI 7)) []])
 .ret)
 .skip)))))))))
 (.seq (.reg [
 oN 49 (.mv (.t 0)) [],
 oN 50 (.mv (.t 0)) [],
 oN 51 (.nilchk (.t 50)) [1],
 oN 52 (.fa 1 (.t 51)) [2],
 oN 53 (.ld 1 false (.t 52)) [3],
 oN 54 (.mv (.t 5)) [],
 oN 55 (.mv (.t 8)) [],
 oN 56 (.build [(.val (.string ⟨#[]⟩)), (vI 0)] [(0, 1, (.t 54)), (1, 1, (.t 55))]) [5,6],
 oN 57 (.bslice 2 [(.t 56)]) [7],
 oN 58 (.app 2 24 (.t 53) (.t 57)) [4,8],
 oN 59 (.nilchk (.t 49)) [0,0,1,2,3,4,5,6,7,8,9],
 oN 60 (.fa 1 (.t 59)) [10,0,1,2,3,4,5,6,7,8,9],
 eN (.st 1 (.t 60) (.t 58)) [11,9,9,0,1,2,3,4,5,6,7,8,9]])
 (.seq (.reg [
 oN 4 (.mv (cI 0)) []])
 .ret)))))))
theorem Trydp42 : (Tryd.f42.body.map (prep Tryd.prog 61)) = some Trydc42 := by kernel_rfl
def Trydc46 : ACode :=
 (.seq (.reg [
 oN 2 (.box (.t 0)) [],
 oN 3 (.box (.t 1)) [],
 oN 4 (.mv (cB false)) []])
 (.seq (.seq (.reg [
 oN 6 (.fa 0 (.t 2)) [],
 oN 7 (.ld 1 false (.t 6)) [0],
 oN 8 (.fa 0 (.t 3)) [],
 oN 9 (.ld 1 false (.t 8)) [2],
 oN 10 (.bin .neq (.t 7) (.t 9)) [1,3],
 oN 11 (.mv (.t 10)) [4],
 oG 12 (.fa 1 (.t 2)) [5] 11 false,
 oG 13 (.ld 1 false (.t 12)) [6,5] 11 false,
 oG 14 (.len (.t 13)) [7,5] 11 false,
 oG 15 (.fa 1 (.t 3)) [5] 11 false,
 oG 16 (.ld 1 false (.t 15)) [9,5] 11 false,
 oG 17 (.len (.t 16)) [10,5] 11 false,
 oG 18 (.bin .neq (.t 14) (.t 17)) [8,11,5] 11 false,
 oN 19 (.pick (.t 11) (cB true) (.t 18)) [5,12]])
 (.cond (.t 19)
 (.seq (.reg [
 oN 4 (.mv (cB false)) []])
 .ret)
 .skip))
 (.seq (.seq (.reg [
 oN 5 (.mv (cI 0)) []])
 (.block 0
 (.loop
 (.seq (.seq (.reg [
 oN 20 (.mv (.t 5)) [],
 oN 21 (.fa 1 (.t 2)) [],
 oN 22 (.ld 1 false (.t 21)) [1],
 oN 23 (.len (.t 22)) [2],
 oN 24 (.bin .lss (.t 20) (.t 23)) [0,3]])
 (.cond (.t 24)
 .skip
 (.exit 0)))
 (.seq (.block 1
 (.seq (.draw [
 oN 27 (.fa 1 (.t 2)) [],
 oN 28 (.ld 1 false (.t 27)) [0],
 oN 29 (.mv (.t 5)) [],
 oN 30 (.ia 2 (.t 28) (.t 29)) [1,2],
 oN 31 (.ld 2 true (.t 30)) [3],
 oN 32 (.fa 1 (.t 3)) [],
 oN 33 (.ld 1 false (.t 32)) [5],
 oN 34 (.mv (.t 5)) [],
 oN 35 (.ia 2 (.t 33) (.t 34)) [6,7],
 oN 36 (.ld 2 true (.t 35)) [8],
 oN 37 (.eqst true [.str, .int] (.t 31) (.t 36)) [4,9]])
 (.cond (.t 37)
 (.seq (.reg [
 oN 4 (.mv (cB false)) []])
 .ret)
 .skip)))
 (.reg [
 oN 25 (.mv (.t 5)) [],
 oN 26 (.bin .add (.t 25) (cI 1)) [0],
 oN 5 (.mv (.t 26)) [1,0,1]]))))))
 (.seq (.reg [
 oN 4 (.mv (cB true)) []])
 .ret))))
theorem Trydp46 : (Tryd.f46.body.map (prep Tryd.prog 38)) = some Trydc46 := by kernel_rfl
def Trydc47 : ACode :=
 (.seq (.reg [
 oN 4 (.mv (cI 0)) [],
 oN 5 (.mv (.c (.val .nilIface))) [0]])
 (.seq (.reg [
 oN 6 (.mv (.t 0)) [],
 oN 7 (.call 62 [(.t 6)]) [0]])
 (.seq (.reg [
 oN 8 (.mv (.t 0)) [],
 oN 9 (.mv (.t 0)) [],
 oN 10 (.nilchk (.t 9)) [1],
 oN 11 (.fa 1 (.t 10)) [2],
 oN 12 (.ld 1 false (.t 11)) [3],
 oN 13 (.mv (.t 1)) [],
 oN 14 (.appb 5 1 (.t 12) (.t 13)) [4,5],
 oN 15 (.nilchk (.t 8)) [0,0,1,2,3,4,5,6],
 oN 16 (.fa 1 (.t 15)) [7,0,1,2,3,4,5,6],
 eN (.st 1 (.t 16) (.t 14)) [8,6,6,0,1,2,3,4,5,6]])
 (.seq (.reg [
 oN 17 (.mv (.t 1)) [],
 oN 18 (.lens (.t 17)) [0],
 oN 4 (.mv (.t 18)) [1,0,1],
 oN 5 (.mv (.c (.val .nilIface))) [2,0,1,2]])
 .ret))))
theorem Trydp47 : (Tryd.f47.body.map (prep Tryd.prog 19)) = some Trydc47 := by kernel_rfl
def Trydc48 : ACode :=
 (.seq (.reg [
 oN 2 (.mv (.c (.val (.string ⟨#[]⟩)))) []])
 (.seq (.draw [
 oN 3 (.mv (.t 0)) [],
 oN 4 (.nilchk (.t 3)) [0],
 oN 5 (.fa 1 (.t 4)) [1],
 oN 6 (.ld 1 false (.t 5)) [2],
 oN 7 (.bad) [3],
 oN 8 (.mv (.t 0)) [],
 oN 9 (.nilchk (.t 8)) [5],
 oN 10 (.fa 1 (.t 9)) [6],
 oN 11 (.ld 1 false (.t 10)) [7],
 oN 12 (.len (.t 11)) [8],
 oN 13 (.bad) [4,9],
 oN 2 (.mv (.t 13)) [10,0,1,2,3,4,5,6,7,8,9,10]])
 .ret))
theorem Trydp48 : (Tryd.f48.body.map (prep Tryd.prog 14)) = some Trydc48 := by kernel_rfl
def Trydc50 : ACode :=
 (.seq (.reg [
 oN 8 (.mv (.c (.val (.string ⟨#[]⟩)))) []])
 (.seq (.seq (.reg [
 oN 16 (.mv (.t 1)) [],
 oN 17 (.mv (.t 2)) [],
 oN 18 (.bin .eql (.t 16) (.t 17)) [0,1],
 oN 19 (.mv (.t 18)) [2],
 oG 20 (.mv (.t 3)) [3] 19 false,
 oG 21 (.bin .eql (.t 20) (cI 0)) [4,3] 19 false,
 oN 22 (.pick (.t 19) (cB true) (.t 21)) [3,5]])
 (.cond (.t 22)
 (.seq (.reg [
 oN 23 (.mv (.t 0)) [],
 oN 8 (.mv (.t 23)) [0,0]])
 .ret)
 .skip))
 (.seq (.seq (.reg [
 oN 24 (.mv (.t 0)) [],
 oN 25 (.mv (.t 1)) [],
 oN 26 (.call 63 [(.t 24), (.t 25)]) [0,1],
 oN 9 (.mv (.t 26)) [2,2,0,1,2]])
 (.seq (.reg [
 oN 27 (.mv (.t 9)) [],
 oN 28 (.bin .eql (.t 27) (cI 0)) [0]])
 (.cond (.t 28)
 (.seq (.reg [
 oN 29 (.mv (.t 0)) [],
 oN 8 (.mv (.t 29)) [0,0]])
 .ret)
 (.seq (.reg [
 oN 30 (.mv (.t 3)) [],
 oN 31 (.bin .lss (.t 30) (cI 0)) [0],
 oN 32 (.mv (.t 31)) [1],
 oG 33 (.mv (.t 9)) [2] 32 false,
 oG 34 (.mv (.t 3)) [2] 32 false,
 oG 35 (.bin .lss (.t 33) (.t 34)) [3,4,2] 32 false,
 oN 36 (.pick (.t 32) (cB true) (.t 35)) [2,5]])
 (.cond (.t 36)
 (.reg [
 oN 37 (.mv (.t 9)) [],
 oN 3 (.mv (.t 37)) [0,0]])
 .skip)))))
 (.seq (.reg [
 oN 10 (.bnew 87) []])
 (.seq (.reg [
 oN 38 (.mv (.t 0)) [],
 oN 39 (.lens (.t 38)) [0],
 oN 40 (.mv (.t 3)) [],
 oN 41 (.mv (.t 2)) [],
 oN 42 (.lens (.t 41)) [3],
 oN 43 (.mv (.t 1)) [],
 oN 44 (.lens (.t 43)) [5],
 oN 45 (.bin .sub (.t 42) (.t 44)) [4,6],
 oN 46 (.bin .mul (.t 40) (.t 45)) [2,7],
 oN 47 (.bin .add (.t 39) (.t 46)) [1,8],
 oN 48 (.call 64 [(.t 10), (.t 47)]) [9]])
 (.seq (.reg [
 oN 11 (.mv (cI 0)) []])
 (.seq (.seq (.reg [
 oN 49 (.mv (.t 1)) [],
 oN 50 (.lens (.t 49)) [0],
 oN 51 (.bin .gtr (.t 50) (cI 0)) [1]])
 (.cond (.t 51)
 (.seq (.reg [
 oN 52 (.mv (.t 3)) [],
 oN 53 (.mv (cI 0)) []])
 (.block 0
 (.loop
 (.seq (.reg [
 oN 54 (.bin .lss (.t 53) (.t 52)) []])
 (.seq (.cond (.t 54)
 .skip
 (.exit 0))
 (.seq (.block 1
 (.seq (.reg [
 oN 55 (.mv (.t 11)) [],
 oN 56 (.mv (.t 0)) [],
 oN 57 (.mv (.t 11)) [],
 oN 58 (.slcs (.t 56) (some (.t 57)) none) [1,2],
 oN 59 (.mv (.t 1)) [],
 oN 60 (.call 65 [(.t 58), (.t 59)]) [3,4],
 oN 61 (.bin .add (.t 55) (.t 60)) [0,5],
 oN 12 (.mv (.t 61)) [6,5,0,1,2,3,4,5,6]])
 (.seq (.reg [
 oN 62 (.mv (.t 0)) [],
 oN 63 (.mv (.t 11)) [],
 oN 64 (.mv (.t 12)) [],
 oN 65 (.slcs (.t 62) (some (.t 63)) (some (.t 64))) [0,1,2],
 oN 66 (.call 47 [(.t 10), (.t 65)]) [3]])
 (.seq (.reg [
 oN 67 (.mv (.t 2)) [],
 oN 68 (.call 47 [(.t 10), (.t 67)]) [0]])
 (.reg [
 oN 69 (.mv (.t 12)) [],
 oN 70 (.mv (.t 1)) [],
 oN 71 (.lens (.t 70)) [1],
 oN 72 (.bin .add (.t 69) (.t 71)) [0,2],
 oN 11 (.mv (.t 72)) [3,0,1,2,3]])))))
 (.reg [
 oN 73 (.bin .add (.t 53) (cI 1)) [],
 oN 53 (.mv (.t 73)) [0]])))))))
 (.seq (.reg [
 oN 74 (.mv (.t 2)) [],
 oN 75 (.call 47 [(.t 10), (.t 74)]) [0]])
 (.seq (.reg [
 oN 76 (.mv (.t 3)) [],
 oN 77 (.bin .sub (.t 76) (cI 1)) [0],
 oN 78 (.mv (cI 0)) []])
 (.block 2
 (.loop
 (.seq (.reg [
 oN 79 (.bin .lss (.t 78) (.t 77)) []])
 (.seq (.cond (.t 79)
 .skip
 (.exit 2))
 (.seq (.block 3
 (.seq (.reg [
 oN 81 (.mv (.t 0)) [],
 oN 82 (.mv (.t 11)) [],
 oN 83 (.slcs (.t 81) (some (.t 82)) none) [0,1],
 oN 84 (.call 66 [(.t 83)]) [2],
 oN 80 (.mv (.t 84)) [3],
 oN 85 (.ext (.t 80) 0) [4],
 oN 86 (.ext (.t 80) 1) [4],
 oN 13 (.mv (.t 85)) [5,3,0,1,2,3,4,5],
 oN 14 (.mv (.t 86)) [6,7,0,1,2,3,4,5,6,7]])
 (.seq (.reg [
 oN 87 (.mv (.t 11)) [],
 oN 88 (.mv (.t 14)) [],
 oN 89 (.bin .add (.t 87) (.t 88)) [0,1],
 oN 15 (.mv (.t 89)) [2,0,1,2]])
 (.seq (.reg [
 oN 90 (.mv (.t 0)) [],
 oN 91 (.mv (.t 11)) [],
 oN 92 (.mv (.t 15)) [],
 oN 93 (.slcs (.t 90) (some (.t 91)) (some (.t 92))) [0,1,2],
 oN 94 (.call 47 [(.t 10), (.t 93)]) [3]])
 (.seq (.reg [
 oN 95 (.mv (.t 2)) [],
 oN 96 (.call 47 [(.t 10), (.t 95)]) [0]])
 (.reg [
 oN 97 (.mv (.t 15)) [],
 oN 11 (.mv (.t 97)) [0,0]]))))))
 (.reg [
 oN 98 (.bin .add (.t 78) (cI 1)) [],
 oN 78 (.mv (.t 98)) [0]]))))))))))
 (.seq (.reg [
 oN 99 (.mv (.t 0)) [],
 oN 100 (.mv (.t 11)) [],
 oN 101 (.slcs (.t 99) (some (.t 100)) none) [0,1],
 oN 102 (.call 47 [(.t 10), (.t 101)]) [2]])
 (.seq (.reg [
 oN 103 (.call 48 [(.t 10)]) [],
 oN 8 (.mv (.t 103)) [0,0,0]])
 .ret)))))))))
theorem Trydp50 : (Tryd.f50.body.map (prep Tryd.prog 104)) = some Trydc50 := by kernel_rfl
def Trydc52 : ACode :=
 (.seq (.reg [
 oN 2 (.mv (cB false)) []])
 (.seq (.reg [
 oN 3 (.mv (.t 0)) [],
 oN 4 (.bin .geq (.t 3) (.c (.val (.int .u8 48)))) [0],
 oN 5 (.mv (.t 4)) [1],
 oG 6 (.mv (.t 0)) [2] 5 true,
 oG 7 (.bin .leq (.t 6) (.c (.val (.int .u8 57)))) [3,2] 5 true,
 oN 8 (.pick (.t 5) (.t 7) (cB false)) [2,4],
 oN 2 (.mv (.t 8)) [5,2,0,1,2,3,4,5]])
 .ret))
theorem Trydp52 : (Tryd.f52.body.map (prep Tryd.prog 9)) = some Trydc52 := by kernel_rfl
def Trydc53 : ACode :=
 (.seq (.reg [
 oN 2 (.mv (cB false)) []])
 (.seq (.reg [
 oN 3 (.mv (.t 0)) [],
 oN 4 (.bin .eql (.t 3) (.c (.val (.int .u8 95)))) [0],
 oN 5 (.mv (.t 4)) [1],
 oG 6 (.mv (.t 0)) [2] 5 false,
 oG 7 (.bin .geq (.t 6) (.c (.val (.int .u8 97)))) [3,2] 5 false,
 oG 8 (.mv (.t 7)) [4,2,2] 5 false,
 oG 9 (.mv (.t 0)) [5] 8 true,
 oG 10 (.bin .leq (.t 9) (.c (.val (.int .u8 122)))) [6,5] 8 true,
 oG 11 (.pick (.t 8) (.t 10) (cB false)) [5,7,2] 5 false,
 oN 12 (.pick (.t 5) (cB true) (.t 11)) [2,8],
 oN 13 (.mv (.t 12)) [9,5],
 oG 14 (.mv (.t 0)) [10] 13 false,
 oG 15 (.bin .geq (.t 14) (.c (.val (.int .u8 65)))) [11,10] 13 false,
 oG 16 (.mv (.t 15)) [12,10,10] 13 false,
 oG 17 (.mv (.t 0)) [13] 16 true,
 oG 18 (.bin .leq (.t 17) (.c (.val (.int .u8 90)))) [14,13] 16 true,
 oG 19 (.pick (.t 16) (.t 18) (cB false)) [13,15,10] 13 false,
 oN 20 (.pick (.t 13) (cB true) (.t 19)) [10,16],
 oN 2 (.mv (.t 20)) [17,13,0,1,2,3,4,5,6,7,8,9,10,11,12,13,14,15,16,17]])
 .ret))
theorem Trydp53 : (Tryd.f53.body.map (prep Tryd.prog 21)) = some Trydc53 := by kernel_rfl
def Trydc56 : ACode :=
 (.seq (.reg [
 oN 3 (.mv (cI 0)) []])
 (.block 0
 (.loop
 (.seq (.seq (.reg [
 oN 7 (.mv (.t 3)) [],
 oN 8 (.ld 1 false (.t 1)) [],
 oN 9 (.lens (.t 8)) [1],
 oN 10 (.bin .lss (.t 7) (.t 9)) [0,2]])
 (.cond (.t 10)
 .skip
 (.exit 0)))
 (.block 1
 (.seq (.seq (.reg [
 oN 11 (.ld 1 false (.t 1)) [],
 oN 12 (.mv (.t 3)) [],
 oN 13 (.ixS (.t 11) (.t 12)) [0,1],
 oN 14 (.bin .eql (.t 13) (.c (.val (.int .u8 32)))) [2]])
 (.cond (.t 14)
 (.seq (.reg [
 oN 15 (.mv (.t 3)) [],
 oN 16 (.bin .add (.t 15) (cI 1)) [0],
 oN 3 (.mv (.t 16)) [1,0,1]])
 (.exit 1))
 .skip))
 (.seq (.reg [
 oN 18 (.ld 1 false (.t 1)) [],
 oN 19 (.mv (.t 3)) [],
 oN 20 (.slcs (.t 18) (some (.t 19)) none) [0,1],
 oN 21 (.call 57 [(.t 20), (.c (.val (.string ⟨#[32]⟩)))]) [2],
 oN 17 (.mv (.t 21)) [3],
 oN 22 (.ext (.t 17) 0) [4],
 oN 23 (.ext (.t 17) 1) [4],
 oN 24 (.ext (.t 17) 2) [4],
 oN 4 (.mv (.t 22)) [5,3,0,1,2,3,4,5],
 oN 5 (.mv (.t 23)) [6,8,0,1,2,3,4,5,6,8],
 oN 6 (.mv (.t 24)) [7,9,0,1,2,3,4,5,6,7,8,9]])
 (.seq (.seq (.reg [
 oN 25 (.mv (.t 0)) [],
 oN 26 (.mv (.t 3)) [],
 oN 27 (.mv (.t 4)) [],
 oN 28 (.callv (.t 25) [(.t 26), (.t 27)]) [0,1,2],
 oN 29 (.un .not (.t 28)) [3]])
 (.cond (.t 29)
 .ret
 .skip))
 (.reg [
 oN 30 (.mv (.t 3)) [],
 oN 31 (.mv (.t 4)) [],
 oN 32 (.lens (.t 31)) [1],
 oN 33 (.bin .add (.t 30) (.t 32)) [0,2],
 oN 3 (.mv (.t 33)) [3,0,1,2,3]])))))))))
theorem Trydp56 : (Tryd.f56.body.map (prep Tryd.prog 34)) = some Trydc56 := by kernel_rfl
def Trydc57 : ACode :=
 (.seq (.reg [
 oN 4 (.mv (.c (.val (.string ⟨#[]⟩)))) [],
 oN 5 (.mv (.c (.val (.string ⟨#[]⟩)))) [0],
 oN 6 (.mv (cB false)) [1]])
 (.seq (.reg [
 oN 7 (.mv (.t 0)) [],
 oN 8 (.mv (.t 1)) [],
 oN 9 (.call 69 [(.t 7), (.t 8)]) [0,1],
 oN 10 (.ext (.t 9) 0) [2],
 oN 11 (.ext (.t 9) 1) [2],
 oN 12 (.ext (.t 9) 2) [2],
 oN 4 (.mv (.t 10)) [3,2,0,1,2,3,4,5],
 oN 5 (.mv (.t 11)) [4,6,0,1,2,3,4,5,6],
 oN 6 (.mv (.t 12)) [5,7,0,1,2,3,4,5,6,7]])
 .ret))
theorem Trydp57 : (Tryd.f57.body.map (prep Tryd.prog 13)) = some Trydc57 := by kernel_rfl
def Trydc58 : ACode :=
 (.seq (.reg [
 oN 4 (.mv (cB false)) []])
 (.seq (.reg [
 oN 5 (.mv (.t 0)) [],
 oN 6 (.mv (.t 1)) [],
 oN 7 (.call 65 [(.t 5), (.t 6)]) [0,1],
 oN 8 (.bin .geq (.t 7) (cI 0)) [2],
 oN 4 (.mv (.t 8)) [3,2,0,1,2,3]])
 .ret))
theorem Trydp58 : (Tryd.f58.body.map (prep Tryd.prog 9)) = some Trydc58 := by kernel_rfl
def Trydc59 : ACode :=
 (.seq (.reg [
 oN 4 (.mv (cB false)) []])
 (.seq (.seq (.reg [
 oN 7 (.mv (.t 0)) [],
 oN 8 (.len (.t 7)) [0],
 oN 9 (.mv (cI 0)) []])
 (.block 0
 (.loop
 (.seq (.reg [
 oN 10 (.bin .lss (.t 9) (.t 8)) []])
 (.seq (.cond (.t 10)
 .skip
 (.exit 0))
 (.seq (.block 1
 (.seq (.reg [
 oN 11 (.ia 2 (.t 7) (.t 9)) [],
 oN 12 (.ld 2 true (.t 11)) [0],
 oN 6 (.box (.c (.agg [(.val (.string ⟨#[]⟩)), vN]))) [],
 eN (.st 2 (.t 6) (.t 12)) [2,1,0,1,2]])
 (.seq (.reg [
 oN 13 (.fa 0 (.t 6)) [],
 oN 14 (.ld 1 false (.t 13)) [0],
 oN 15 (.mv (.t 1)) [],
 oN 16 (.bin .eql (.t 14) (.t 15)) [1,2]])
 (.cond (.t 16)
 (.seq (.reg [
 oN 4 (.mv (cB true)) []])
 .ret)
 .skip))))
 (.reg [
 oN 17 (.bin .add (.t 9) (cI 1)) [],
 oN 9 (.mv (.t 17)) [0]])))))))
 (.seq (.reg [
 oN 4 (.mv (cB false)) []])
 .ret)))
theorem Trydp59 : (Tryd.f59.body.map (prep Tryd.prog 18)) = some Trydc59 := by kernel_rfl
def Trydc62 : ACode :=
 (.seq (.reg [
 oN 2 (.mv (.t 0)) [],
 oN 3 (.nilchk (.t 2)) [0],
 oN 4 (.fa 0 (.t 3)) [1],
 oN 5 (.ld 1 false (.t 4)) [2],
 oN 6 (.bad) [3]])
 (.cond (.t 6)
 (.reg [
 oN 7 (.mv (.t 0)) [],
 oN 8 (.mv (.t 0)) [],
 oN 9 (.bad) [1],
 oN 10 (.call 70 [(.t 9)]) [2],
 oN 11 (.bad) [3],
 oN 12 (.nilchk (.t 7)) [0,0,1,2,3,4],
 oN 13 (.fa 0 (.t 12)) [5,0,1,2,3,4],
 eN (.st 1 (.t 13) (.t 11)) [6,4,3,0,1,2,3,4]])
 (.seq (.reg [
 oN 14 (.mv (.t 0)) [],
 oN 15 (.nilchk (.t 14)) [0],
 oN 16 (.fa 0 (.t 15)) [1],
 oN 17 (.ld 1 false (.t 16)) [2],
 oN 18 (.mv (.t 0)) [],
 oN 19 (.bad) [3,4]])
 (.cond (.t 19)
 .bad
 .skip))))
theorem Trydp62 : (Tryd.f62.body.map (prep Tryd.prog 20)) = some Trydc62 := by kernel_rfl
def Trydc63 : ACode :=
 (.seq (.reg [
 oN 4 (.mv (cI 0)) []])
 (.seq (.seq (.reg [
 oN 7 (.mv (.t 1)) [],
 oN 8 (.lens (.t 7)) [0],
 oN 9 (.bin .eql (.t 8) (cI 0)) [1]])
 (.cond (.t 9)
 (.seq (.reg [
 oN 10 (.mv (.t 0)) [],
 oN 11 (.call 71 [(.t 10)]) [0],
 oN 12 (.bin .add (.t 11) (cI 1)) [1],
 oN 4 (.mv (.t 12)) [2,1,0,1,2]])
 .ret)
 .skip))
 (.seq (.seq (.reg [
 oN 13 (.mv (.t 1)) [],
 oN 14 (.lens (.t 13)) [0],
 oN 15 (.bin .eql (.t 14) (cI 1)) [1]])
 (.cond (.t 15)
 (.seq (.reg [
 oN 16 (.mv (.t 0)) [],
 oN 17 (.mv (.t 1)) [],
 oN 18 (.ixS (.t 17) (cI 0)) [1],
 oN 19 (.call 72 [(.t 16), (.t 18)]) [0,2],
 oN 4 (.mv (.t 19)) [3,3,0,1,2,3]])
 .ret)
 .skip))
 (.seq (.reg [
 oN 5 (.mv (cI 0)) []])
 (.block 0
 (.loop
 (.block 1
 (.seq (.reg [
 oN 20 (.mv (.t 0)) [],
 oN 21 (.mv (.t 1)) [],
 oN 22 (.call 65 [(.t 20), (.t 21)]) [0,1],
 oN 6 (.mv (.t 22)) [2,2,0,1,2]])
 (.seq (.seq (.reg [
 oN 23 (.mv (.t 6)) [],
 oN 24 (.bin .eql (.t 23) (cI (-1))) [0]])
 (.cond (.t 24)
 (.seq (.reg [
 oN 25 (.mv (.t 5)) [],
 oN 4 (.mv (.t 25)) [0,0]])
 .ret)
 .skip))
 (.seq (.reg [
 oN 26 (.mv (.t 5)) [],
 oN 27 (.bin .add (.t 26) (cI 1)) [0],
 oN 5 (.mv (.t 27)) [1,0,1]])
 (.reg [
 oN 28 (.mv (.t 0)) [],
 oN 29 (.mv (.t 6)) [],
 oN 30 (.mv (.t 1)) [],
 oN 31 (.lens (.t 30)) [2],
 oN 32 (.bin .add (.t 29) (.t 31)) [1,3],
 oN 33 (.slcs (.t 28) (some (.t 32)) none) [0,4],
 oN 0 (.mv (.t 33)) [5,0,1,2,3,4,5]])))))))))))
theorem Trydp63 : (Tryd.f63.body.map (prep Tryd.prog 34)) = some Trydc63 := by kernel_rfl
def Trydc64 : ACode :=
 (.seq (.reg [
 oN 4 (.mv (.t 0)) [],
 oN 5 (.call 62 [(.t 4)]) [0]])
 (.seq (.seq (.reg [
 oN 6 (.mv (.t 1)) [],
 oN 7 (.bin .lss (.t 6) (cI 0)) [0]])
 (.cond (.t 7)
 (.reg [
 oN 8 (.mkif 9 (.c (.val (.string ⟨#[115,116,114,105,110,103,115,46,66,117,105,108,100,101,114,46,71,114,111,119,58,32,110,101,103,97,116,105,118,101,32,99,111,117,110,116]⟩)))) [],
 eN (.bad) [0]])
 .skip))
 (.seq (.draw [
 oN 9 (.mv (.t 0)) [],
 oN 10 (.nilchk (.t 9)) [0],
 oN 11 (.fa 1 (.t 10)) [1],
 oN 12 (.ld 1 false (.t 11)) [2],
 oN 13 (.cap (.t 12)) [3],
 oN 14 (.mv (.t 0)) [],
 oN 15 (.nilchk (.t 14)) [5],
 oN 16 (.fa 1 (.t 15)) [6],
 oN 17 (.ld 1 false (.t 16)) [7],
 oN 18 (.len (.t 17)) [8],
 oN 19 (.bin .sub (.t 13) (.t 18)) [4,9],
 oN 20 (.mv (.t 1)) [],
 oN 21 (.bin .lss (.t 19) (.t 20)) [10,11]])
 (.cond (.t 21)
 (.reg [
 oN 22 (.mv (.t 0)) [],
 oN 23 (.mv (.t 1)) [],
 oN 24 (.call 73 [(.t 22), (.t 23)]) [0,1]])
 .skip))))
theorem Trydp64 : (Tryd.f64.body.map (prep Tryd.prog 25)) = some Trydc64 := by kernel_rfl
def Trydc65 : ACode :=
 (.seq (.reg [
 oN 4 (.mv (cI 0)) []])
 (.seq (.reg [
 oN 5 (.mv (.t 0)) [],
 oN 6 (.mv (.t 1)) [],
 oN 7 (.call 74 [(.t 5), (.t 6)]) [0,1],
 oN 4 (.mv (.t 7)) [2,2,0,1,2]])
 .ret))
theorem Trydp65 : (Tryd.f65.body.map (prep Tryd.prog 8)) = some Trydc65 := by kernel_rfl
def Trydc73 : ACode :=
 (.seq (.draw [
 oN 5 (.mv (.t 0)) [],
 oN 6 (.nilchk (.t 5)) [0],
 oN 7 (.fa 1 (.t 6)) [1],
 oN 8 (.ld 1 false (.t 7)) [2],
 oN 9 (.cap (.t 8)) [3],
 oN 10 (.bin .mul (cI 2) (.t 9)) [4],
 oN 11 (.mv (.t 1)) [],
 oN 12 (.bin .add (.t 10) (.t 11)) [5,6],
 oN 13 (.call 76 [(.t 12)]) [7],
 oN 14 (.mv (.t 0)) [],
 oN 15 (.nilchk (.t 14)) [9],
 oN 16 (.fa 1 (.t 15)) [10],
 oN 17 (.ld 1 false (.t 16)) [11],
 oN 18 (.len (.t 17)) [12],
 oN 19 (.slc 1 (.t 13) none (some (.t 18))) [8,13],
 oN 4 (.mv (.t 19)) [14,8,0,1,2,3,4,5,6,7,8,9,10,11,12,13,14]])
 (.seq (.reg [
 oN 20 (.mv (.t 4)) [],
 oN 21 (.mv (.t 0)) [],
 oN 22 (.nilchk (.t 21)) [1],
 oN 23 (.fa 1 (.t 22)) [2],
 oN 24 (.ld 1 false (.t 23)) [3],
 oN 25 (.copy 1 (.t 20) (.t 24)) [0,4]])
 (.reg [
 oN 26 (.mv (.t 0)) [],
 oN 27 (.mv (.t 4)) [],
 oN 28 (.nilchk (.t 26)) [0,0,1],
 oN 29 (.fa 1 (.t 28)) [2,0,1],
 eN (.st 1 (.t 29) (.t 27)) [3,1,0,1]])))
theorem Trydp73 : (Tryd.f73.body.map (prep Tryd.prog 30)) = some Trydc73 := by kernel_rfl
end Go.Am
end
section
set_option maxHeartbeats 16000000
set_option maxRecDepth 100000
namespace Go.Proofs
open Go.RowKit
theorem copyCheck_used (b : Nat) (w : World) (h0 : w.cell? ⟨b, 0, none⟩ = some (.pointer (some ⟨b, 0, none⟩))) :
 Calls Tryd.prog 62 #[.pointer (some ⟨b, 0, none⟩)] w fun e w' => e = .returned (.tuple #[]) ∧ w' = w := by
 obtain ⟨j, hj, _⟩ := Option.map_eq_some_iff.1 (show (Tryd.prog.info? 87).map (·.size) = some 2 by kernel_rfl)
 go_enter Tryd.func62, Tryd.ntmps62
 go_wp2
 rw [Lib.run_neq_ptr_same w _ Tryd.underlying84 hj]
 go_wp2
 go_end0
 exact ⟨rfl, rfl⟩
theorem copyCheck_fresh (b : Nat) (w : World) (h0 : w.cell? ⟨b, 0, none⟩ = some (.pointer none)) (hsh : w.shape? b = some (87, 2)) (hfz : w.frozen? ⟨b, 0, none⟩ = false) :
 Calls Tryd.prog 62 #[.pointer (some ⟨b, 0, none⟩)] w fun e w' => e = .returned (.tuple #[]) ∧ w' = w.setCell ⟨b, 0, none⟩ (.pointer (some ⟨b, 0, none⟩)) := by
 obtain ⟨j, hj, hjs⟩ := Option.map_eq_some_iff.1 (show (Tryd.prog.info? 87).map (·.size) = some 2 by kernel_rfl)
 go_enter Tryd.func62, Tryd.ntmps62
 go_wp2
 rw [Lib.run_to_unsafe w ⟨b, 0, none⟩ Tryd.underlying84 Tryd.underlying109 hj (by rw [hjs]; decide) hsh (Nat.zero_lt_succ 1)]
 simp only [Result.andThen]
 rw [Oper.upon_value]
 go_wp2
 rw [run_callFunc_extern Tryd.func70 (by kernel_rfl) (by kernel_rfl) (by kernel_rfl) (e := Extern.AbiNoEscape.same) (by kernel_rfl)]
 rw [Lib.run_noEscape]
 simp only [Result.andThen]
 rw [Oper.upon_value]
 go_wp2
 rw [Lib.run_from_unsafe w ⟨b, 0, none⟩ Tryd.underlying109 Tryd.underlying84 hj hsh (by kernel_rfl)]
 simp only [Result.andThen]
 rw [Oper.upon_value]
 go_wp2
 go_end0
 exact ⟨rfl, rfl⟩
end Go.Proofs
end
section
set_option maxHeartbeats 16000000
set_option maxRecDepth 100000
namespace Go.Am
open Go.Proofs
abbrev int (n : Int) : AV := .val (.int .i64 n)
abbrev bool (b : Bool) : AV := .val (.bool b)
abbrev str (s : ByteArray) : AV := .val (.string s)
abbrev u8 (n : Int) : AV := .val (.int .u8 n)
abbrev Bs := List UInt8
structure BaBox where
 f : Bs → ByteArray
 h : ∀ l, f l = ⟨l.toArray⟩
theorem baBox_ne : Nonempty BaBox := ⟨⟨fun l => ⟨l.toArray⟩, fun _ => rfl⟩⟩
noncomputable def ba (l : Bs) : ByteArray := (Classical.choice baBox_ne).f l
theorem ba_eq (l : Bs) : ba l = ⟨l.toArray⟩ := (Classical.choice baBox_ne).h l
theorem ba_data (l : Bs) : (ba l).data.toList = l := by rw [ba_eq]
theorem ba_list (l : Bs) : (ba l).toList = l := by rw [ByteArray.toList_eq, ba_data]
theorem ba_size (l : Bs) : (ba l).size = l.length := by rw [ba_eq]; simp [ByteArray.size]
theorem ba_of (s : ByteArray) : s = ba s.data.toList := by rw [ba_eq]
theorem ba_inj {a b : Bs} (h : ba a = ba b) : a = b := by rw [← ba_data a, ← ba_data b, h]
theorem ba_app (a b : Bs) : ba a ++ ba b = ba (a ++ b) := by
 rw [ba_of (ba a ++ ba b)]; congr 1
 simp [ba_data]
theorem ba_cut (l : Bs) (i j : Nat) : (ba l).extract i j = ba ((l.take j).drop i) := by
 rw [ba_of ((ba l).extract i j)]; congr 1
 simp [ByteArray.data_extract, ba_data, List.drop_take]
def ch (b : UInt8) : Int := b.toNat
theorem ch_inj {a b : UInt8} (h : ch a = ch b) : a = b := by unfold ch at h; exact UInt8.toNat_inj.1 (by omega)
theorem ba_get (l d r : Bs) (c : UInt8) (h : l = d ++ c :: r) : ((ba l).data.getD d.length 0).toNat = c.toNat := by
 have : (ba l).data = l.toArray := by rw [ba_eq]
 rw [this, h]; simp
structure Fld where
 nm : Bs
 kd : Int
structure Sch where
 nm : Bs
 fs : List Fld
structure EncBox where
 fld : Fld → AV
 sch : Sch → AV
 hf : ∀ f, fld f = .agg [str (ba f.nm), int f.kd]
 hs : ∀ s, sch s = .agg [str (ba s.nm), .isl 2 (mapE fld s.fs)]
theorem encBox_ne : Nonempty EncBox := ⟨⟨fun f => .agg [str (ba f.nm), int f.kd], fun s => .agg [str (ba s.nm), .isl 2 (mapE (fun f => .agg [str (ba f.nm), int f.kd]) s.fs)], fun _ => rfl, fun _ => rfl⟩⟩
noncomputable def Fld.enc (f : Fld) : AV := (Classical.choice encBox_ne).fld f
noncomputable def Sch.enc (s : Sch) : AV := (Classical.choice encBox_ne).sch s
theorem Fld.enc_eq (f : Fld) : f.enc = .agg [str (ba f.nm), int f.kd] := (Classical.choice encBox_ne).hf f
theorem Sch.enc_eq (s : Sch) : s.enc = .agg [str (ba s.nm), .isl 2 (mapE Fld.enc s.fs)] := (Classical.choice encBox_ne).hs s
theorem Fld.closed (f : Fld) : f.enc.closed = true := by rw [Fld.enc_eq]; rfl
theorem Fld.closedL (l : List Fld) : AV.closedL (mapE Fld.enc l) = true := closed_mapE Fld.closed l
theorem Fld.closedI (l : List Fld) : (AV.isl 2 (mapE Fld.enc l)).closed = true := by simp [AV.closed, Fld.closedL]
theorem Sch.closed (s : Sch) : s.enc.closed = true := by rw [Sch.enc_eq]; simp [AV.closed, AV.closedL, Fld.closedL]
theorem Sch.closedL (l : List Sch) : AV.closedL (mapE Sch.enc l) = true := closed_mapE Sch.closed l
theorem Sch.closedI (l : List Sch) : (AV.isl 2 (mapE Sch.enc l)).closed = true := by simp [AV.closed, Sch.closedL]
theorem closedL_int (l : List Int) : AV.closedL (mapE int l) = true := closed_mapE (fun _ => rfl) l
theorem closedI_int (l : List Int) : (AV.isl 1 (mapE int l)).closed = true := by simp [AV.closed, closedL_int]
def bInt : Bs := [105, 110, 116]
def bBool : Bs := [98, 111, 111, 108]
def bStr : Bs := [115, 116, 114, 105, 110, 103]
structure KwBox where
 i : ByteArray
 b : ByteArray
 s : ByteArray
 hi : i = ba bInt
 hb : b = ba bBool
 hs : s = ba bStr
theorem kwBox_ne : Nonempty KwBox := ⟨⟨_, _, _, rfl, rfl, rfl⟩⟩
noncomputable def EE : Env := ⟨Tryd.prog, fun n => cond (Nat.beq n 0) (.iptr [str (Classical.choice kwBox_ne).i, str (Classical.choice kwBox_ne).b, str (Classical.choice kwBox_ne).s]) .undef⟩
def isLet (n : Int) : Bool := decide (n = 95 ∨ (97 ≤ n ∧ n ≤ 122) ∨ (65 ≤ n ∧ n ≤ 90))
def isDig (n : Int) : Bool := decide (48 ≤ n ∧ n ≤ 57)
def okCh (b : UInt8) : Bool := isLet (ch b) || isDig (ch b)
def nameB (l : Bs) : Bool := decide (l.length ≤ 24) && (match l with
 | [] => false
 | c :: _ => !isDig (ch c) && l.all okCh)
def bTime : Bs := [116, 105, 109, 101]
def fnameB (l : Bs) : Bool := nameB l && decide (l ≠ bTime)
theorem P_letter (n : Int) : PCall EE 53 [u8 n] (bool (isLet n)) := by
 obtain ⟨b, hb⟩ : ∃ b, b = isLet n := ⟨_, rfl⟩
 rw [← hb]
 simp only [isLet] at hb
 refine wordsN ?_; unhygienic intros
 refine fn_body (fn := Tryd.f53) (n := 21) (ac := Trydc53) (rvs := [.t 2]) rfl (by decide) Trydp53 rfl rfl rfl ?_
 refine goA 0 ?_
 refine nsB hX (by conv => lhs; cbv) ?_
 refine goA 0 ?_
 refine nsB hX (by conv => lhs; cbv) ?_
 refine goA 60 ?_
 refine fn_ret rfl rfl (.val ?_)
 (clear hX; subst hb; exact congrArg Value.bool (by simp only [ee] at *; grind))
theorem P_digit (n : Int) : PCall EE 52 [u8 n] (bool (isDig n)) := by
 obtain ⟨b, hb⟩ : ∃ b, b = isDig n := ⟨_, rfl⟩
 rw [← hb]
 simp only [isDig] at hb
 refine wordsN ?_; unhygienic intros
 refine fn_body (fn := Tryd.f52) (n := 9) (ac := Trydc52) (rvs := [.t 2]) rfl (by decide) Trydp52 rfl rfl rfl ?_
 refine goA 60 ?_
 refine fn_ret rfl rfl (.val ?_)
 (clear hX; subst hb; exact congrArg Value.bool (by simp only [ee] at *; grind))
theorem all_cons {p : UInt8 → Bool} {l d r : Bs} {c : UInt8} (h : l = d ++ c :: r) (hc : p c = false) : l.all p = false := by
 rw [h]; simp [hc]
theorem P_name (l : Bs) (hl : l.length < 1152921504606846976) : PCall EE 36 [str (ba l)] (bool (nameB l)) := by
 have hsz := ba_size l
 have hget := fun d c r h => ba_get l d r c h
 generalize ba l = s at *
 refine wordsN ?_; unhygienic intros
 have hn : sLen s = (l.length : Int) := by simp only [ee]; rw [hsz]
 have hat : ∀ d c r, l = d ++ c :: r → ∀ i : Int, i = d.length → sAt s i = ch c := fun d c r h i hi => by
  subst hi; simp only [ee, ch]; rw [Int.toNat_natCast, hget d c r h]
 refine fn_body (fn := Tryd.f36) (n := 35) (ac := Trydc36) (rvs := [.t 2]) rfl (by decide) Trydp36 rfl rfl rfl ?_
 cases l with
 | nil =>
  have k0 : iEq (sLen s) 0 = true := by rw [hn]; simp only [ee]; rfl
  refine goB hX 0 (by conv => lhs; cbv; try simp only [k0]; cbv; try simp only [k0]; cbv; try simp only [k0]; cbv; try simp only [k0]; cbv) ?_
  refine on_guard rfl rfl (fun c1 => ?_) (fun c1 => ?_)
  ·
   simp [ee] at c1
   refine goA 60 ?_
   refine fn_ret rfl rfl (.val ?_)
   rfl
  ·
   simp [ee] at c1
 | cons c0 r0 =>
 have k0 : iEq (sLen s) 0 = false := by rw [hn]; simp only [ee]; simp; omega
 by_cases h24 : (c0 :: r0).length ≤ 24
 rotate_left
 · have k1 : iLt 24 (sLen s) = true := by rw [hn]; simp only [ee]; simp at h24 ⊢; omega
   have hnb : nameB (c0 :: r0) = false := by unfold nameB; rw [decide_eq_false h24, Bool.false_and]
   rw [hnb]
   refine goB hX 0 (by conv => lhs; cbv; try simp only [k0, k1]; cbv; try simp only [k0, k1]; cbv; try simp only [k0, k1]; cbv; try simp only [k0, k1]; cbv) ?_
   refine on_guard rfl rfl (fun c1 => ?_) (fun c1 => ?_)
   ·
    simp [ee] at c1
    refine goA 60 ?_
    refine fn_ret rfl rfl (.val ?_)
    rfl
   ·
    simp [ee] at c1
 have k1 : iLt 24 (sLen s) = false := by rw [hn]; simp only [ee]; simp at h24 ⊢; omega
 have qd : PCall EE 52 [u8 (sAt s 0)] (bool (isDig (ch c0))) := by rw [← hat [] c0 r0 rfl 0 rfl]; exact P_digit _
 have hp : 0 < sLen s := by rw [hn]; simp
 have hnb : nameB (c0 :: r0) = (!isDig (ch c0) && (c0 :: r0).all okCh) := by simp only [nameB, decide_eq_true h24, Bool.true_and]
 rw [hnb]
 generalize isDig (ch c0) = b0 at *
 cases b0 with
 | true =>
  refine goB hX 0 (by conv => lhs; cbv; try simp only [k0, k1]; cbv; try simp only [k0, k1]; cbv; try simp only [k0, k1]; cbv; try simp only [k0, k1]; cbv) ?_
  refine on_guard rfl rfl (fun c1 => ?_) (fun c1 => ?_)
  ·
   simp [ee] at c1
  ·
   simp [ee] at c1
   refine goA 60 ?_
   refine oPG qd ?_
   refine goA 60 ?_
   refine fn_ret rfl rfl (.val ?_)
   rfl
 | false =>
 clear hnb
 generalize hL : c0 :: r0 = L at *
 refine goB hX 0 (by conv => lhs; cbv; try simp only [k0, k1]; cbv; try simp only [k0, k1]; cbv; try simp only [k0, k1]; cbv; try simp only [k0, k1]; cbv) ?_
 refine on_guard rfl rfl (fun c1 => ?_) (fun c1 => ?_)
 ·
  simp [ee] at c1
 simp [ee] at c1
 refine goA 60 ?_
 refine oPG qd ?_
 refine goA 60 ?_
 refine on_loopP (ι := Bs × Bs × Int) (fun p => ([(19, int p.2.2), (18, int (sLen s)), (0, str s)], [])) (fun p => L = p.1 ++ p.2.1 ∧ p.2.2 = p.1.length ∧ p.1.all okCh = true) (fun p => p.2.1.length) ([], L, 0) ⟨rfl, rfl, rfl⟩ ?_ ?_
 · exact (ent_sub [] [] trivial trivial ⟨.refl _, .refl _, .refl _, trivial⟩)
 rintro ⟨d, r, i⟩ ⟨g1, gi, ga⟩
 dsimp only at g1 gi ga ⊢
 cases r with
 | nil =>
  have hc : iLt i (sLen s) = false := by rw [hn, g1]; simp only [ee]; simp; omega
  have hall : L.all okCh = true := by rw [g1, List.append_nil]; exact ga
  rw [hall]
  refine goB hX 0 (by conv => lhs; cbv; try simp only [hc]; cbv; try simp only [hc]; cbv; try simp only [hc]; cbv; try simp only [hc]; cbv) ?_
  refine goA 60 ?_
  refine loopP_exit ?_
  refine goA 60 ?_
  refine fn_ret rfl rfl (.val ?_)
  rfl
 | cons c r =>
  have L1 := len_split g1
  try simp only [List.length] at L1
  have hc : iLt i (sLen s) = true := by rw [hn]; simp only [ee]; simp; omega
  have hb : i < sLen s := by rw [hn]; omega
  have hi2 : iAdd .i64 i 1 = ((d ++ [c]).length : Int) := by rw [List.length_append]; exact inc_w e_iAdd gi (by omega)
  have ql : PCall EE 53 [u8 (sAt s i)] (bool (isLet (ch c))) := by rw [← hat d c r g1 i gi]; exact P_letter _
  have qg : PCall EE 52 [u8 (sAt s i)] (bool (isDig (ch c))) := by rw [← hat d c r g1 i gi]; exact P_digit _
  have hok : okCh c = (isLet (ch c) || isDig (ch c)) := rfl
  have n0 : bNot false = true := by simp only [ee]; rfl
  have n1 : bNot true = false := by simp only [ee]; rfl
  generalize isLet (ch c) = b1 at *
  generalize isDig (ch c) = b2 at *
  cases b1 with
  | true =>
   have h2 : (d ++ [c]).all okCh = true := by simp [ga, hok]
   refine goB hX 0 (by conv => lhs; cbv; try simp only [hc, n1]; cbv; try simp only [hc, n1]; cbv; try simp only [hc, n1]; cbv; try simp only [hc, n1]; cbv) ?_
   refine goA 60 ?_
   refine oPA ql ?_
   refine goB hX 0 (by conv => lhs; cbv; try simp only [hc, n1]; cbv; try simp only [hc, n1]; cbv; try simp only [hc, n1]; cbv; try simp only [hc, n1]; cbv) ?_
   refine goA 60 ?_
   refine on_gskip rfl rfl ?_
   refine goA 60 ?_
   refine loopP_next (d ++ [c], r, iAdd .i64 i 1) ⟨by simp [g1], hi2, h2⟩ (by simp) (ent_sub [] [] trivial trivial ⟨.refl _, .refl _, .refl _, trivial⟩)
  | false =>
   cases b2 with
   | true =>
    have h2 : (d ++ [c]).all okCh = true := by simp [ga, hok]
    refine goB hX 0 (by conv => lhs; cbv; try simp only [hc, n0, n1]; cbv; try simp only [hc, n0, n1]; cbv; try simp only [hc, n0, n1]; cbv; try simp only [hc, n0, n1]; cbv) ?_
    refine goA 60 ?_
    refine oPA ql ?_
    refine goB hX 0 (by conv => lhs; cbv; try simp only [hc, n0, n1]; cbv; try simp only [hc, n0, n1]; cbv; try simp only [hc, n0, n1]; cbv; try simp only [hc, n0, n1]; cbv) ?_
    refine goA 60 ?_
    refine oPG qg ?_
    refine goB hX 0 (by conv => lhs; cbv; try simp only [hc, n0, n1]; cbv; try simp only [hc, n0, n1]; cbv; try simp only [hc, n0, n1]; cbv; try simp only [hc, n0, n1]; cbv) ?_
    refine on_cond rfl (fun c1 => ?_) (fun c1 => ?_)
    ·
     simp [ee] at c1
    ·
     simp [ee] at c1
     refine goA 60 ?_
     refine loopP_next (d ++ [c], r, iAdd .i64 i 1) ⟨by simp [g1], hi2, h2⟩ (by simp) (ent_sub [] [] trivial trivial ⟨.refl _, .refl _, .refl _, trivial⟩)
   | false =>
    rw [all_cons g1 (by rw [hok]; rfl)]
    refine goB hX 0 (by conv => lhs; cbv; try simp only [hc, n0]; cbv; try simp only [hc, n0]; cbv; try simp only [hc, n0]; cbv; try simp only [hc, n0]; cbv) ?_
    refine goA 60 ?_
    refine oPA ql ?_
    refine goB hX 0 (by conv => lhs; cbv; try simp only [hc, n0]; cbv; try simp only [hc, n0]; cbv; try simp only [hc, n0]; cbv; try simp only [hc, n0]; cbv) ?_
    refine goA 60 ?_
    refine oPG qg ?_
    refine goB hX 0 (by conv => lhs; cbv; try simp only [hc, n0]; cbv; try simp only [hc, n0]; cbv; try simp only [hc, n0]; cbv; try simp only [hc, n0]; cbv) ?_
    refine on_cond rfl (fun c1 => ?_) (fun c1 => ?_)
    ·
     simp [ee] at c1
     refine goA 60 ?_
     refine loopP_ret ?_
     refine goA 60 ?_
     refine fn_ret rfl rfl (.val ?_)
     rfl
    ·
     simp [ee] at c1
theorem ba_lit (l : Bs) : (⟨l.toArray⟩ : ByteArray) = ba l := (ba_eq l).symm
theorem ba_eqB (a b : Bs) : ((ba a).toList == (ba b).toList) = decide (a = b) := by
 rw [ba_list, ba_list, Bool.eq_iff_iff]; simp
theorem P_fieldName (l : Bs) (hl : l.length < 1152921504606846976) : PCall EE 37 [str (ba l)] (bool (fnameB l)) := by
 have q1 := P_name l hl
 have e1 : ((ba l).toList == (ByteArray.mk #[116, 105, 109, 101]).toList) = decide (l = bTime) := by
  rw [show (ByteArray.mk #[116, 105, 109, 101]) = ba bTime from ba_lit bTime, ba_eqB]
 have hf : fnameB l = (nameB l && decide (l ≠ bTime)) := rfl
 rw [hf]
 generalize nameB l = b0 at *
 generalize ba l = s at *
 refine wordsN ?_; unhygienic intros
 have h1 : sNe s ⟨#[116, 105, 109, 101]⟩ = decide (l ≠ bTime) := by simp only [ee]; rw [e1]; simp
 clear e1 hf
 generalize decide (l ≠ bTime) = b1 at *
 refine fn_body (fn := Tryd.f37) (n := 9) (ac := Trydc37) (rvs := [.t 2]) rfl (by decide) Trydp37 rfl rfl rfl ?_
 have hand : ∀ a b, bAnd a b = (a && b) := fun a b => by simp only [ee]
 refine goA 60 ?_
 refine oPA q1 ?_
 refine goA 60 ?_
 refine fn_ret rfl rfl (.val ?_)
 exact congrArg Value.bool (by rw [hand]; exact congrArg (fun x => b0 && x) h1)
def posF (nm : Bs) : List Fld → Int → Int
 | [], _ => -1
 | f :: r, i => if f.nm = nm then i else posF nm r (i + 1)
def Fld.pos (l : List Fld) (nm : Bs) : Int := posF nm l 0
theorem posF_app {nm : Bs} : ∀ (d r : List Fld) (i : Int), (∀ f ∈ d, f.nm ≠ nm) → posF nm (d ++ r) i = posF nm r (i + d.length)
 | [], r, i, _ => by simp
 | f :: d, r, i, h => by
  rw [List.cons_append, posF, if_neg (h f (by simp)), posF_app d r (i + 1) fun x hx => h x (by simp [hx])]
  congr 1; simp; omega
theorem pos_hit {nm : Bs} {l d r : List Fld} {f : Fld} (h : l = d ++ f :: r) (hd : ∀ f ∈ d, f.nm ≠ nm) (hf : f.nm = nm) : Fld.pos l nm = d.length := by
 rw [Fld.pos, h, posF_app d _ 0 hd, posF, if_pos hf]; omega
theorem pos_miss {nm : Bs} {l : List Fld} (hd : ∀ f ∈ l, f.nm ≠ nm) : Fld.pos l nm = -1 := by
 have := posF_app l [] 0 hd
 rw [List.append_nil] at this
 rw [Fld.pos, this, posF]
theorem P_position (l : List Fld) (nm : Bs) (hl : l.length < 1152921504606846976) : PCall EE 34 [.isl 2 (mapE Fld.enc l), str (ba nm)] (int (Fld.pos l nm)) := by
 have kcl := Fld.closedI l
 obtain ⟨P, hP⟩ : ∃ P, P = Fld.pos l nm := ⟨_, rfl⟩
 rw [← hP]
 have heq : ∀ f : Fld, ((ba f.nm).toList == (ba nm).toList) = decide (f.nm = nm) := fun f => ba_eqB _ _
 generalize hs : ba nm = s at *
 refine wordsN ?_; unhygienic intros
 generalize hes : mapE Fld.enc l = es at *
 have hel : es.length = l.length := by rw [← hes, mapE_len]
 refine fn_body (fn := Tryd.f34) (n := 20) (ac := Trydc34) (rvs := [.t 4]) rfl (by decide) Trydp34 rfl rfl rfl ?_
 refine goA 60 ?_
 refine on_loopP (ι := List Fld × List Fld × Int) (fun p => ([(9, int p.2.2), (8, int (lenA es)), (7, .isl 2 es), (1, str s)], [])) (fun p => l = p.1 ++ p.2.1 ∧ p.2.2 = p.1.length ∧ ∀ f ∈ p.1, f.nm ≠ nm) (fun p => p.2.1.length) ([], l, 0) ⟨rfl, rfl, by simp⟩ ?_ ?_
 · exact (ent_sub [] [] trivial trivial ⟨.refl _, .refl _, .cl kcl, .refl _, trivial⟩)
 rintro ⟨d, r, i⟩ ⟨g1, gi, gd⟩
 dsimp only at g1 gi gd ⊢
 cases r with
 | nil =>
  have L1 := len_split g1
  try simp only [List.length] at L1
  have hc : iLt i (lenA es) = false := lt_f e_iLt e_lenA (by omega)
  have hp : P = -1 := by rw [hP]; exact pos_miss (by rw [g1, List.append_nil]; exact gd)
  subst hp
  refine goB hX 0 (by conv => lhs; cbv; try simp only [hc]; cbv; try simp only [hc]; cbv; try simp only [hc]; cbv; try simp only [hc]; cbv) ?_
  refine goA 60 ?_
  refine loopP_exit ?_
  refine goA 60 ?_
  refine fn_ret rfl rfl (.val ?_)
  rfl
 | cons f r =>
  have L1 := len_split g1
  try simp only [List.length] at L1
  have hc : iLt i (lenA es) = true := lt_t e_iLt e_lenA (by omega)
  have hat := el_at e_atA hes g1 gi
  rw [Fld.enc_eq] at hat
  have hi2 : iAdd .i64 i 1 = ((d ++ [f]).length : Int) := by rw [List.length_append]; exact inc_w e_iAdd gi (by omega)
  have hq : sEq (ba f.nm) s = decide (f.nm = nm) := by simp only [ee]; exact heq f
  by_cases h : f.nm = nm
  · rw [decide_eq_true h] at hq
    have hp : P = i := by rw [hP, gi]; exact pos_hit g1 gd h
    generalize ba f.nm = fs at *
    generalize f.kd = fk at *
    subst hp
    refine goB hX 0 (by conv => lhs; cbv; try simp only [hc, hat, hq]; cbv; try simp only [hc, hat, hq]; cbv; try simp only [hc, hat, hq]; cbv; try simp only [hc, hat, hq]; cbv) ?_
    refine goB hX 1 (by conv => lhs; cbv; try simp only [hc, hat, hq]; cbv; try simp only [hc, hat, hq]; cbv; try simp only [hc, hat, hq]; cbv; try simp only [hc, hat, hq]; cbv) ?_
    refine goA 60 ?_
    refine loopP_ret ?_
    refine goA 60 ?_
    refine fn_ret rfl rfl (.val ?_)
    rfl
  rw [decide_eq_false h] at hq
  have gd2 : ∀ x ∈ d ++ [f], x.nm ≠ nm := fun x hx => by
   rcases List.mem_append.1 hx with hx | hx
   · exact gd x hx
   · simp at hx; rw [hx]; exact h
  generalize ba f.nm = fs at *
  generalize f.kd = fk at *
  refine goB hX 0 (by conv => lhs; cbv; try simp only [hc, hat, hq]; cbv; try simp only [hc, hat, hq]; cbv; try simp only [hc, hat, hq]; cbv; try simp only [hc, hat, hq]; cbv) ?_
  refine goB hX 1 (by conv => lhs; cbv; try simp only [hc, hat, hq]; cbv; try simp only [hc, hat, hq]; cbv; try simp only [hc, hat, hq]; cbv; try simp only [hc, hat, hq]; cbv) ?_
  refine goA 60 ?_
  refine loopP_next (d ++ [f], r, iAdd .i64 i 1) ⟨by simp [g1], hi2, gd2⟩ (by simp) (ent_sub [.gone] [] ⟨trivial, trivial⟩ trivial ⟨.refl _, .refl _, .cl kcl, .refl _, trivial⟩)
def whF (nm : Bs) : List Sch → Int → Int
 | [], _ => -1
 | f :: r, i => if f.nm = nm then i else whF nm r (i + 1)
def Sch.wh (l : List Sch) (nm : Bs) : Int := whF nm l 0
theorem whF_app {nm : Bs} : ∀ (d r : List Sch) (i : Int), (∀ f ∈ d, f.nm ≠ nm) → whF nm (d ++ r) i = whF nm r (i + d.length)
 | [], r, i, _ => by simp
 | f :: d, r, i, h => by
  rw [List.cons_append, whF, if_neg (h f (by simp)), whF_app d r (i + 1) fun x hx => h x (by simp [hx])]
  congr 1; simp; omega
theorem wh_hit {nm : Bs} {l d r : List Sch} {f : Sch} (h : l = d ++ f :: r) (hd : ∀ f ∈ d, f.nm ≠ nm) (hf : f.nm = nm) : Sch.wh l nm = d.length := by
 rw [Sch.wh, h, whF_app d _ 0 hd, whF, if_pos hf]; omega
theorem wh_miss {nm : Bs} {l : List Sch} (hd : ∀ f ∈ l, f.nm ≠ nm) : Sch.wh l nm = -1 := by
 have := whF_app l [] 0 hd
 rw [List.append_nil] at this
 rw [Sch.wh, this, whF]
theorem P_taken (l : List Sch) (nm : Bs) (hl : l.length < 1152921504606846976) : PCall EE 59 [.isl 2 (mapE Sch.enc l), str (ba nm)] (bool (decide (0 ≤ Sch.wh l nm))) := by
 have kcl := Sch.closedI l
 obtain ⟨P, hP⟩ : ∃ P, P = decide (0 ≤ Sch.wh l nm) := ⟨_, rfl⟩
 rw [← hP]
 have heq : ∀ f : Sch, ((ba f.nm).toList == (ba nm).toList) = decide (f.nm = nm) := fun f => ba_eqB _ _
 generalize hs : ba nm = s at *
 refine wordsN ?_; unhygienic intros
 generalize hes : mapE Sch.enc l = es at *
 have hel : es.length = l.length := by rw [← hes, mapE_len]
 refine fn_body (fn := Tryd.f59) (n := 18) (ac := Trydc59) (rvs := [.t 4]) rfl (by decide) Trydp59 rfl rfl rfl ?_
 refine goA 60 ?_
 refine on_loopP (ι := List Sch × List Sch × Int) (fun p => ([(9, int p.2.2), (8, int (lenA es)), (7, .isl 2 es), (1, str s)], [])) (fun p => l = p.1 ++ p.2.1 ∧ p.2.2 = p.1.length ∧ ∀ f ∈ p.1, f.nm ≠ nm) (fun p => p.2.1.length) ([], l, 0) ⟨rfl, rfl, by simp⟩ ?_ ?_
 · exact (ent_sub [] [] trivial trivial ⟨.refl _, .refl _, .cl kcl, .refl _, trivial⟩)
 rintro ⟨d, r, i⟩ ⟨g1, gi, gd⟩
 dsimp only at g1 gi gd ⊢
 cases r with
 | nil =>
  have L1 := len_split g1
  try simp only [List.length] at L1
  have hc : iLt i (lenA es) = false := lt_f e_iLt e_lenA (by omega)
  have hp : P = false := by rw [hP, wh_miss (by rw [g1, List.append_nil]; exact gd)]; rfl
  subst hp
  refine goB hX 0 (by conv => lhs; cbv; try simp only [hc]; cbv; try simp only [hc]; cbv; try simp only [hc]; cbv; try simp only [hc]; cbv) ?_
  refine goA 60 ?_
  refine loopP_exit ?_
  refine goA 60 ?_
  refine fn_ret rfl rfl (.val ?_)
  rfl
 | cons f r =>
  have L1 := len_split g1
  try simp only [List.length] at L1
  have hc : iLt i (lenA es) = true := lt_t e_iLt e_lenA (by omega)
  have hat := el_at e_atA hes g1 gi
  rw [Sch.enc_eq] at hat
  have hi2 : iAdd .i64 i 1 = ((d ++ [f]).length : Int) := by rw [List.length_append]; exact inc_w e_iAdd gi (by omega)
  have hq : sEq (ba f.nm) s = decide (f.nm = nm) := by simp only [ee]; exact heq f
  by_cases h : f.nm = nm
  · rw [decide_eq_true h] at hq
    have hp : P = true := by rw [hP, wh_hit g1 gd h]; exact decide_eq_true (by omega)
    generalize ba f.nm = fs at *
    generalize mapE Fld.enc f.fs = fk at *
    subst hp
    refine goB hX 0 (by conv => lhs; cbv; try simp only [hc, hat, hq]; cbv; try simp only [hc, hat, hq]; cbv; try simp only [hc, hat, hq]; cbv; try simp only [hc, hat, hq]; cbv) ?_
    refine goB hX 1 (by conv => lhs; cbv; try simp only [hc, hat, hq]; cbv; try simp only [hc, hat, hq]; cbv; try simp only [hc, hat, hq]; cbv; try simp only [hc, hat, hq]; cbv) ?_
    refine goA 60 ?_
    refine loopP_ret ?_
    refine goA 60 ?_
    refine fn_ret rfl rfl (.val ?_)
    rfl
  rw [decide_eq_false h] at hq
  have gd2 : ∀ x ∈ d ++ [f], x.nm ≠ nm := fun x hx => by
   rcases List.mem_append.1 hx with hx | hx
   · exact gd x hx
   · simp at hx; rw [hx]; exact h
  generalize ba f.nm = fs at *
  generalize mapE Fld.enc f.fs = fk at *
  refine goB hX 0 (by conv => lhs; cbv; try simp only [hc, hat, hq]; cbv; try simp only [hc, hat, hq]; cbv; try simp only [hc, hat, hq]; cbv; try simp only [hc, hat, hq]; cbv) ?_
  refine goB hX 1 (by conv => lhs; cbv; try simp only [hc, hat, hq]; cbv; try simp only [hc, hat, hq]; cbv; try simp only [hc, hat, hq]; cbv; try simp only [hc, hat, hq]; cbv) ?_
  refine goA 60 ?_
  refine loopP_next (d ++ [f], r, iAdd .i64 i 1) ⟨by simp [g1], hi2, gd2⟩ (by simp) (ent_sub [.gone] [] ⟨trivial, trivial⟩ trivial ⟨.refl _, .refl _, .cl kcl, .refl _, trivial⟩)
end Go.Am
end
section
set_option maxHeartbeats 16000000
set_option maxRecDepth 100000
namespace Go.Proofs
open Go.Shelf
def Tryd.lays169_ren : Go.Shelf.Ren := ⟨fun | 169 => 48 | n => n, fun | 70 => 84 | 9 => 9 | 0 => 0 | 72 => 87 | 37 => 85 | 127 => 103 | 3 => 3 | 5 => 5 | n => n, fun | n => n⟩
theorem Tryd.lays169 : Go.Proofs.Lays.n169 Tryd.prog Tryd.lays169_ren := {
 mixed := by kernel_rfl
 f169 := Tryd.func48.trans (congrArg some (by kernel_rfl))
 t0 := Tryd.underlying0
 a0 := Tryd.isAgg0
 z0 := Tryd.sizeOf0
 v0 := Tryd.zeroValue0
 t3 := Tryd.underlying3
 a3 := Tryd.isAgg3
 z3 := Tryd.sizeOf3
 v3 := Tryd.zeroValue3
 t9 := Tryd.underlying9
 a9 := Tryd.isAgg9
 z9 := Tryd.sizeOf9
 v9 := Tryd.zeroValue9
 t37 := Tryd.underlying85
 a37 := Tryd.isAgg85
 z37 := Tryd.sizeOf85
 v37 := Tryd.zeroValue85
 t70 := Tryd.underlying84
 a70 := Tryd.isAgg84
 z70 := Tryd.sizeOf84
 v70 := Tryd.zeroValue84
 t72 := Tryd.underlying87
 a72 := Tryd.isAgg87
 z72 := Tryd.sizeOf87
 v72 := Tryd.zeroValue87
 t127 := Tryd.underlying103
 a127 := Tryd.isAgg103
 z127 := Tryd.sizeOf103
 v127 := Tryd.zeroValue103 }
theorem Tryd.Builder_Extra_169 : Builder.Extra Tryd.prog Tryd.lays169_ren := {
 sizeBuilder := by kernel_rfl
 liesBuilder := by kernel_rfl
 t5 := Tryd.underlying5
 a5 := Tryd.isAgg5
 z5 := Tryd.sizeOf5
 v5 := Tryd.zeroValue5
 infoByte := by kernel_rfl
 cellsByte := by kernel_rfl
 sizeByte := by kernel_rfl
 neB5 := by decide }
def Tryd.lays144_ren : Go.Shelf.Ren := ⟨fun | 144 => 58 | 143 => 65 | 219 => 74 | 217 => 77 | 225 => 78 | 224 => 79 | 267 => 80 | 266 => 81 | 314 => 82 | n => n, fun | 9 => 9 | 4 => 4 | 3 => 3 | 5 => 5 | 46 => 114 | 146 => 120 | 51 => 119 | n => n, fun | 1 => 2 | n => n⟩
theorem Tryd.lays144 : Go.Proofs.Lays.n144 Tryd.prog Tryd.lays144_ren := {
 mixed := by kernel_rfl
 f143 := Tryd.func65.trans (congrArg some (by kernel_rfl))
 f144 := Tryd.func58.trans (congrArg some (by kernel_rfl))
 f217 := Tryd.func77.trans (congrArg some (by kernel_rfl))
 f219 := Tryd.func74.trans (congrArg some (by kernel_rfl))
 f224 := Tryd.func79.trans (congrArg some (by kernel_rfl))
 f225 := Tryd.func78.trans (congrArg some (by kernel_rfl))
 f266 := Tryd.func81.trans (congrArg some (by kernel_rfl))
 f267 := Tryd.func80.trans (congrArg some (by kernel_rfl))
 f314 := Tryd.func82.trans (congrArg some (by kernel_rfl))
 t3 := Tryd.underlying3
 a3 := Tryd.isAgg3
 z3 := Tryd.sizeOf3
 v3 := Tryd.zeroValue3
 t4 := Tryd.underlying4
 a4 := Tryd.isAgg4
 z4 := Tryd.sizeOf4
 v4 := Tryd.zeroValue4
 t5 := Tryd.underlying5
 a5 := Tryd.isAgg5
 z5 := Tryd.sizeOf5
 v5 := Tryd.zeroValue5
 t9 := Tryd.underlying9
 a9 := Tryd.isAgg9
 z9 := Tryd.sizeOf9
 v9 := Tryd.zeroValue9
 t46 := Tryd.underlying114
 a46 := Tryd.isAgg114
 z46 := Tryd.sizeOf114
 v46 := Tryd.zeroValue114
 t51 := Tryd.underlying119
 a51 := Tryd.isAgg119
 z51 := Tryd.sizeOf119
 v51 := Tryd.zeroValue119
 t146 := Tryd.underlying120
 a146 := Tryd.isAgg120
 z146 := Tryd.sizeOf120
 v146 := Tryd.zeroValue120
 g1 := by kernel_rfl }
def Tryd.lays145_ren : Go.Shelf.Ren := ⟨fun | 145 => 57 | 220 => 69 | 219 => 74 | 217 => 77 | 225 => 78 | 224 => 79 | 267 => 80 | 266 => 81 | 314 => 82 | n => n, fun | 9 => 9 | 4 => 4 | 59 => 99 | 3 => 3 | 5 => 5 | 46 => 114 | 146 => 120 | 51 => 119 | n => n, fun | 1 => 2 | n => n⟩
theorem Tryd.lays145 : Go.Proofs.Lays.n145 Tryd.prog Tryd.lays145_ren := {
 mixed := by kernel_rfl
 f145 := Tryd.func57.trans (congrArg some (by kernel_rfl))
 f217 := Tryd.func77.trans (congrArg some (by kernel_rfl))
 f219 := Tryd.func74.trans (congrArg some (by kernel_rfl))
 f220 := Tryd.func69.trans (congrArg some (by kernel_rfl))
 f224 := Tryd.func79.trans (congrArg some (by kernel_rfl))
 f225 := Tryd.func78.trans (congrArg some (by kernel_rfl))
 f266 := Tryd.func81.trans (congrArg some (by kernel_rfl))
 f267 := Tryd.func80.trans (congrArg some (by kernel_rfl))
 f314 := Tryd.func82.trans (congrArg some (by kernel_rfl))
 t3 := Tryd.underlying3
 a3 := Tryd.isAgg3
 z3 := Tryd.sizeOf3
 v3 := Tryd.zeroValue3
 t4 := Tryd.underlying4
 a4 := Tryd.isAgg4
 z4 := Tryd.sizeOf4
 v4 := Tryd.zeroValue4
 t5 := Tryd.underlying5
 a5 := Tryd.isAgg5
 z5 := Tryd.sizeOf5
 v5 := Tryd.zeroValue5
 t9 := Tryd.underlying9
 a9 := Tryd.isAgg9
 z9 := Tryd.sizeOf9
 v9 := Tryd.zeroValue9
 t46 := Tryd.underlying114
 a46 := Tryd.isAgg114
 z46 := Tryd.sizeOf114
 v46 := Tryd.zeroValue114
 t51 := Tryd.underlying119
 a51 := Tryd.isAgg119
 z51 := Tryd.sizeOf119
 v51 := Tryd.zeroValue119
 t59 := Tryd.underlying99
 a59 := Tryd.isAgg99
 z59 := Tryd.sizeOf99
 v59 := Tryd.zeroValue99
 t146 := Tryd.underlying120
 a146 := Tryd.isAgg120
 z146 := Tryd.sizeOf120
 v146 := Tryd.zeroValue120
 g1 := by kernel_rfl }
def Tryd.lays102_ren : Go.Shelf.Ren := ⟨fun | 102 => 32 | 209 => 51 | 207 => 67 | n => n, fun | 9 => 9 | 4 => 4 | 3 => 3 | n => n, fun | n => n⟩
theorem Tryd.lays102 : Go.Proofs.Lays.n102 Tryd.prog Tryd.lays102_ren := {
 mixed := by kernel_rfl
 f102 := Tryd.func32.trans (congrArg some (by kernel_rfl))
 f207 := Tryd.func67.trans (congrArg some (by kernel_rfl))
 f209 := Tryd.func51.trans (congrArg some (by kernel_rfl))
 t3 := Tryd.underlying3
 a3 := Tryd.isAgg3
 z3 := Tryd.sizeOf3
 v3 := Tryd.zeroValue3
 t4 := Tryd.underlying4
 a4 := Tryd.isAgg4
 z4 := Tryd.sizeOf4
 v4 := Tryd.zeroValue4
 t9 := Tryd.underlying9
 a9 := Tryd.isAgg9
 z9 := Tryd.sizeOf9
 v9 := Tryd.zeroValue9 }
def Tryd.lays146_ren : Go.Shelf.Ren := ⟨fun | 146 => 39 | 221 => 55 | 268 => 68 | 138 => 63 | 143 => 65 | 195 => 71 | 197 => 66 | 218 => 72 | 219 => 74 | 260 => 75 | 217 => 77 | 225 => 78 | 224 => 79 | 267 => 80 | 266 => 81 | 314 => 82 | n => n, fun | 9 => 9 | 31 => 69 | 3 => 3 | 4 => 4 | 0 => 0 | 105 => 106 | 21 => 21 | 5 => 5 | 46 => 114 | 119 => 115 | 139 => 118 | 138 => 117 | 146 => 120 | 51 => 119 | n => n, fun | 1 => 2 | 3 => 3 | 4 => 4 | n => n⟩
theorem Tryd.lays146 : Go.Proofs.Lays.n146 Tryd.prog Tryd.lays146_ren := {
 mixed := by kernel_rfl
 f138 := Tryd.func63.trans (congrArg some (by kernel_rfl))
 f143 := Tryd.func65.trans (congrArg some (by kernel_rfl))
 f146 := Tryd.func39.trans (congrArg some (by kernel_rfl))
 f195 := Tryd.func71.trans (congrArg some (by kernel_rfl))
 f197 := Tryd.func66.trans (congrArg some (by kernel_rfl))
 f217 := Tryd.func77.trans (congrArg some (by kernel_rfl))
 f218 := Tryd.func72.trans (congrArg some (by kernel_rfl))
 f219 := Tryd.func74.trans (congrArg some (by kernel_rfl))
 f221 := Tryd.func55.trans (congrArg some (by kernel_rfl))
 f224 := Tryd.func79.trans (congrArg some (by kernel_rfl))
 f225 := Tryd.func78.trans (congrArg some (by kernel_rfl))
 f260 := Tryd.func75.trans (congrArg some (by kernel_rfl))
 f266 := Tryd.func81.trans (congrArg some (by kernel_rfl))
 f267 := Tryd.func80.trans (congrArg some (by kernel_rfl))
 f268 := Tryd.func68.trans (congrArg some (by kernel_rfl))
 f314 := Tryd.func82.trans (congrArg some (by kernel_rfl))
 t0 := Tryd.underlying0
 a0 := Tryd.isAgg0
 z0 := Tryd.sizeOf0
 v0 := Tryd.zeroValue0
 t3 := Tryd.underlying3
 a3 := Tryd.isAgg3
 z3 := Tryd.sizeOf3
 v3 := Tryd.zeroValue3
 t4 := Tryd.underlying4
 a4 := Tryd.isAgg4
 z4 := Tryd.sizeOf4
 v4 := Tryd.zeroValue4
 t5 := Tryd.underlying5
 a5 := Tryd.isAgg5
 z5 := Tryd.sizeOf5
 v5 := Tryd.zeroValue5
 t9 := Tryd.underlying9
 a9 := Tryd.isAgg9
 z9 := Tryd.sizeOf9
 v9 := Tryd.zeroValue9
 t21 := Tryd.underlying21
 a21 := Tryd.isAgg21
 z21 := Tryd.sizeOf21
 v21 := Tryd.zeroValue21
 t31 := Tryd.underlying69
 a31 := Tryd.isAgg69
 z31 := Tryd.sizeOf69
 v31 := Tryd.zeroValue69
 t46 := Tryd.underlying114
 a46 := Tryd.isAgg114
 z46 := Tryd.sizeOf114
 v46 := Tryd.zeroValue114
 t51 := Tryd.underlying119
 a51 := Tryd.isAgg119
 z51 := Tryd.sizeOf119
 v51 := Tryd.zeroValue119
 t105 := Tryd.underlying106
 a105 := Tryd.isAgg106
 z105 := Tryd.sizeOf106
 v105 := Tryd.zeroValue106
 t119 := Tryd.underlying115
 a119 := Tryd.isAgg115
 z119 := Tryd.sizeOf115
 t138 := Tryd.underlying117
 a138 := Tryd.isAgg117
 z138 := Tryd.sizeOf117
 v138 := Tryd.zeroValue117
 t139 := Tryd.underlying118
 a139 := Tryd.isAgg118
 z139 := Tryd.sizeOf118
 v139 := Tryd.zeroValue118
 t146 := Tryd.underlying120
 a146 := Tryd.isAgg120
 z146 := Tryd.sizeOf120
 v146 := Tryd.zeroValue120
 g1 := by kernel_rfl
 g3 := by kernel_rfl
 g4 := by kernel_rfl }
def Tryd.lays155_ren : Go.Shelf.Ren := ⟨fun | 155 => 31 | 154 => 50 | 138 => 63 | 165 => 64 | 143 => 65 | 166 => 47 | 197 => 66 | 169 => 48 | 195 => 71 | 218 => 72 | 240 => 62 | 241 => 73 | 219 => 74 | 260 => 75 | 276 => 70 | 277 => 76 | 217 => 77 | 225 => 78 | 224 => 79 | 267 => 80 | 266 => 81 | 314 => 82 | n => n, fun | 9 => 9 | 3 => 3 | 4 => 4 | 72 => 87 | 0 => 0 | 76 => 90 | 105 => 106 | 21 => 21 | 5 => 5 | 70 => 84 | 20 => 20 | 37 => 85 | 75 => 89 | 127 => 103 | 164 => 109 | 46 => 114 | 119 => 115 | 139 => 118 | 138 => 117 | 146 => 120 | 51 => 119 | 80 => 93 | n => n, fun | 1 => 2 | 3 => 3 | 4 => 4 | n => n⟩
theorem Tryd.lays155 : Go.Proofs.Lays.n155 Tryd.prog Tryd.lays155_ren := {
 mixed := by kernel_rfl
 f138 := Tryd.func63.trans (congrArg some (by kernel_rfl))
 f143 := Tryd.func65.trans (congrArg some (by kernel_rfl))
 f154 := Tryd.func50.trans (congrArg some (by kernel_rfl))
 f155 := Tryd.func31.trans (congrArg some (by kernel_rfl))
 f165 := Tryd.func64.trans (congrArg some (by kernel_rfl))
 f166 := Tryd.func47.trans (congrArg some (by kernel_rfl))
 f169 := Tryd.func48.trans (congrArg some (by kernel_rfl))
 f195 := Tryd.func71.trans (congrArg some (by kernel_rfl))
 f197 := Tryd.func66.trans (congrArg some (by kernel_rfl))
 f217 := Tryd.func77.trans (congrArg some (by kernel_rfl))
 f218 := Tryd.func72.trans (congrArg some (by kernel_rfl))
 f219 := Tryd.func74.trans (congrArg some (by kernel_rfl))
 f224 := Tryd.func79.trans (congrArg some (by kernel_rfl))
 f225 := Tryd.func78.trans (congrArg some (by kernel_rfl))
 f240 := Tryd.func62.trans (congrArg some (by kernel_rfl))
 f241 := Tryd.func73.trans (congrArg some (by kernel_rfl))
 f260 := Tryd.func75.trans (congrArg some (by kernel_rfl))
 f266 := Tryd.func81.trans (congrArg some (by kernel_rfl))
 f267 := Tryd.func80.trans (congrArg some (by kernel_rfl))
 f276 := Tryd.func70.trans (congrArg some (by kernel_rfl))
 f277 := Tryd.func76.trans (congrArg some (by kernel_rfl))
 f314 := Tryd.func82.trans (congrArg some (by kernel_rfl))
 t0 := Tryd.underlying0
 a0 := Tryd.isAgg0
 z0 := Tryd.sizeOf0
 v0 := Tryd.zeroValue0
 t3 := Tryd.underlying3
 a3 := Tryd.isAgg3
 z3 := Tryd.sizeOf3
 v3 := Tryd.zeroValue3
 t4 := Tryd.underlying4
 a4 := Tryd.isAgg4
 z4 := Tryd.sizeOf4
 v4 := Tryd.zeroValue4
 t5 := Tryd.underlying5
 a5 := Tryd.isAgg5
 z5 := Tryd.sizeOf5
 v5 := Tryd.zeroValue5
 t9 := Tryd.underlying9
 a9 := Tryd.isAgg9
 z9 := Tryd.sizeOf9
 v9 := Tryd.zeroValue9
 t20 := Tryd.underlying20
 a20 := Tryd.isAgg20
 z20 := Tryd.sizeOf20
 v20 := Tryd.zeroValue20
 t21 := Tryd.underlying21
 a21 := Tryd.isAgg21
 z21 := Tryd.sizeOf21
 v21 := Tryd.zeroValue21
 t37 := Tryd.underlying85
 a37 := Tryd.isAgg85
 z37 := Tryd.sizeOf85
 v37 := Tryd.zeroValue85
 t46 := Tryd.underlying114
 a46 := Tryd.isAgg114
 z46 := Tryd.sizeOf114
 v46 := Tryd.zeroValue114
 t51 := Tryd.underlying119
 a51 := Tryd.isAgg119
 z51 := Tryd.sizeOf119
 v51 := Tryd.zeroValue119
 t70 := Tryd.underlying84
 a70 := Tryd.isAgg84
 z70 := Tryd.sizeOf84
 v70 := Tryd.zeroValue84
 t72 := Tryd.underlying87
 a72 := Tryd.isAgg87
 z72 := Tryd.sizeOf87
 v72 := Tryd.zeroValue87
 t75 := Tryd.underlying89
 a75 := Tryd.isAgg89
 z75 := Tryd.sizeOf89
 v75 := Tryd.zeroValue89
 t76 := Tryd.underlying90
 a76 := Tryd.isAgg90
 z76 := Tryd.sizeOf90
 v76 := Tryd.zeroValue90
 t105 := Tryd.underlying106
 a105 := Tryd.isAgg106
 z105 := Tryd.sizeOf106
 v105 := Tryd.zeroValue106
 t119 := Tryd.underlying115
 a119 := Tryd.isAgg115
 z119 := Tryd.sizeOf115
 t127 := Tryd.underlying103
 a127 := Tryd.isAgg103
 z127 := Tryd.sizeOf103
 v127 := Tryd.zeroValue103
 t138 := Tryd.underlying117
 a138 := Tryd.isAgg117
 z138 := Tryd.sizeOf117
 v138 := Tryd.zeroValue117
 t139 := Tryd.underlying118
 a139 := Tryd.isAgg118
 z139 := Tryd.sizeOf118
 v139 := Tryd.zeroValue118
 t146 := Tryd.underlying120
 a146 := Tryd.isAgg120
 z146 := Tryd.sizeOf120
 v146 := Tryd.zeroValue120
 t164 := Tryd.underlying109
 a164 := Tryd.isAgg109
 z164 := Tryd.sizeOf109
 v164 := Tryd.zeroValue109
 g1 := by kernel_rfl
 g3 := by kernel_rfl
 g4 := by kernel_rfl }
theorem Tryd.Builder_Extra_155 : Builder.Extra Tryd.prog Tryd.lays155_ren := {
 sizeBuilder := by kernel_rfl
 liesBuilder := by kernel_rfl
 t5 := Tryd.underlying5
 a5 := Tryd.isAgg5
 z5 := Tryd.sizeOf5
 v5 := Tryd.zeroValue5
 infoByte := by kernel_rfl
 cellsByte := by kernel_rfl
 sizeByte := by kernel_rfl
 neB5 := by decide }
end Go.Proofs
namespace Go.Am
open Go.Proofs
def cutL (c : UInt8) (l : Bs) : Bs := l.takeWhile (· != c)
def cutR (c : UInt8) (l : Bs) : Bs := (l.dropWhile (· != c)).drop 1
def splitC (c : UInt8) : Bs → List Bs
 | [] => [[]]
 | x :: l => if x = c then [] :: splitC c l else match splitC c l with
  | [] => [[x]]
  | p :: r => (x :: p) :: r
theorem splitC_free {c : UInt8} : ∀ {l : Bs}, c ∉ l → splitC c l = [l]
 | [], _ => rfl
 | x :: l, h => by
  simp only [List.mem_cons, not_or] at h
  rw [splitC, if_neg (Ne.symm h.1), splitC_free h.2]
theorem splitC_app {c : UInt8} : ∀ {d : Bs} (r : Bs), c ∉ d → splitC c (d ++ c :: r) = d :: splitC c r
 | [], r, _ => by rw [List.nil_append, splitC, if_pos rfl]
 | x :: d, r, h => by
  simp only [List.mem_cons, not_or] at h
  rw [List.cons_append, splitC, if_neg (Ne.symm h.1), splitC_app r h.2]
theorem index_one (c : UInt8) : ∀ l : Bs, (Lib.index l [c] = -1 ∧ c ∉ l) ∨ ∃ d r, l = d ++ c :: r ∧ c ∉ d ∧ Lib.index l [c] = (d.length : Int)
 | [] => Or.inl ⟨by simp [Lib.index], by simp⟩
 | b :: l => by
  by_cases h : b = c
  · subst h
    exact Or.inr ⟨[], l, rfl, by simp, by rw [Lib.index]; simp [List.isPrefixOf]⟩
  have hp : ([c] : Bs).isPrefixOf (b :: l) = false := by simp [List.isPrefixOf, Ne.symm h]
  have hix : Lib.index (b :: l) [c] = if Lib.index l [c] == -1 then -1 else Lib.index l [c] + 1 := by rw [Lib.index, hp]; simp
  rcases index_one c l with ⟨h1, h2⟩ | ⟨d, r, h1, h2, h3⟩
  · refine Or.inl ⟨by rw [hix, h1]; rfl, ?_⟩
    simp only [List.mem_cons, not_or]
    exact ⟨Ne.symm h, h2⟩
  · refine Or.inr ⟨b :: d, r, by rw [h1]; rfl, ?_, ?_⟩
    · simp only [List.mem_cons, not_or]
      exact ⟨Ne.symm h, h2⟩
    · rw [hix, h3, if_neg (by simp)]
      simp
theorem cut_cons {c x : UInt8} {l : Bs} (h : x ≠ c) : cutL c (x :: l) = x :: cutL c l ∧ cutR c (x :: l) = cutR c l := by
 have : (x != c) = true := by simp [h]
 exact ⟨by rw [cutL, List.takeWhile_cons, if_pos this]; rfl, by rw [cutR, List.dropWhile_cons, if_pos this]; rfl⟩
theorem cutL_free {c : UInt8} : ∀ {l : Bs}, c ∉ l → cutL c l = l
 | [], _ => rfl
 | x :: l, h => by
  simp only [List.mem_cons, not_or] at h
  rw [(cut_cons (Ne.symm h.1)).1, cutL_free h.2]
theorem cutR_free {c : UInt8} : ∀ {l : Bs}, c ∉ l → cutR c l = []
 | [], _ => rfl
 | x :: l, h => by
  simp only [List.mem_cons, not_or] at h
  rw [(cut_cons (Ne.symm h.1)).2, cutR_free h.2]
theorem cutL_app {c : UInt8} {d : Bs} (r : Bs) (h : c ∉ d) : cutL c (d ++ c :: r) = d := by
 rw [cutL, List.takeWhile_append_of_pos fun x hx => by simp; rintro rfl; exact h hx]
 simp
theorem cutR_app {c : UInt8} {d : Bs} (r : Bs) (h : c ∉ d) : cutR c (d ++ c :: r) = r := by
 rw [cutR, List.dropWhile_append_of_pos fun x hx => by simp; rintro rfl; exact h hx]
 simp
theorem cut_one (c : UInt8) (l : Bs) : Lib.cut l [c] = (cutL c l, cutR c l, decide (c ∈ l)) := by
 rcases index_one c l with ⟨h1, h2⟩ | ⟨d, r, h1, h2, h3⟩
 · rw [Lib.cut, h1, if_neg (by decide), cutL_free h2, cutR_free h2, decide_eq_false h2]
 · rw [Lib.cut, h3, if_pos (by omega), h1, cutL_app r h2, cutR_app r h2, decide_eq_true (by simp)]
   simp
theorem countK_one (c : UInt8) (l : Bs) : Lib.splitK [c] 0 (l.count c) l = splitC c l := by
 generalize hk : l.count c = k
 induction k generalizing l with
 | zero => rw [Lib.splitK, splitC_free (List.count_eq_zero.1 hk)]
 | succ k ih =>
  rcases index_one c l with ⟨h1, h2⟩ | ⟨d, r, h1, h2, h3⟩
  · rw [List.count_eq_zero.2 h2] at hk; omega
  · rw [Lib.splitK, h3, if_neg (by simp)]
    have hr : r.count c = k := by
     rw [h1, List.count_append, List.count_eq_zero.2 h2, List.count_cons_self] at hk; omega
    rw [h1, splitC_app r h2, ← ih r hr]
    simp
theorem splitB_one (c : UInt8) (l : Bs) : (Lib.splitB ⟨#[c]⟩ 0 (Lib.countB (ba l) ⟨#[c]⟩) (ba l)) = (splitC c l).map ba := by
 have h1 : Lib.countB (ba l) ⟨#[c]⟩ = l.count c := by rw [Lib.countB, ba_data]; exact Lib.count_one c l
 have h2 := Lib.splitB_data ⟨#[c]⟩ 0 (l.count c) (ba l)
 rw [ba_data] at h2
 have h3 : Lib.splitK [c] 0 (l.count c) l = splitC c l := countK_one c l
 rw [h1]
 have h4 : ∀ L : List ByteArray, L = (L.map (·.data.toList)).map ba := fun L => by
  rw [List.map_map]
  conv => lhs; rw [← List.map_id L]
  exact List.map_congr_left fun x _ => ba_of x
 rw [h4 (Lib.splitB _ _ _ _), h2]
 exact congrArg _ h3
def subC (c : UInt8) (new : Bs) (l : Bs) : Bs := l.flatMap fun x => if x = c then new else [x]
theorem subC_free {c : UInt8} {new : Bs} : ∀ {l : Bs}, c ∉ l → subC c new l = l
 | [], _ => rfl
 | x :: l, h => by
  simp only [List.mem_cons, not_or] at h
  rw [subC, List.flatMap_cons, if_neg (Ne.symm h.1)]
  have := subC_free (new := new) h.2
  rw [subC] at this
  rw [this]; rfl
theorem subC_app {c : UInt8} {new d : Bs} (r : Bs) (h : c ∉ d) : subC c new (d ++ c :: r) = d ++ new ++ subC c new r := by
 have := subC_free (new := new) h
 rw [subC] at this
 rw [subC, List.flatMap_append, this, List.flatMap_cons, if_pos rfl, subC]
 simp
theorem trim_one (c : UInt8) (d : Bs) : Lib.trimSuffix (d ++ [c]) [c] = d := by
 rw [Lib.trimSuffix, Lib.hasSuffix, if_pos (by simp)]
 simp
theorem one_ba (c : UInt8) : (⟨#[c]⟩ : ByteArray) = ba [c] := by rw [ba_eq]
theorem ba_mk (l : Bs) : (⟨l.toArray⟩ : ByteArray) = ba l := (ba_eq l).symm
theorem enters_strings_Cut : Enters EE.P 57 := enters_of (fn := Tryd.f57) (n := 13) (ac := Trydc57) rfl (by decide) Trydp57
theorem P_Cut (c : UInt8) (l : Bs) (hl : l.length < 4294967281) :
 PCall EE 57 [str (ba l), str (ba [c])] (.tup [str (ba (cutL c l)), str (ba (cutR c l)), bool (decide (c ∈ l))]) := by
 have := cut1_pcall (E := EE) Tryd.lays145 enters_strings_Cut (ba l) c (by rw [ba_size]; exact hl)
 rw [ba_data, cut_one, one_ba, ba_mk, ba_mk] at this
 exact this
theorem enters_strings_Contains : Enters EE.P 58 := enters_of (fn := Tryd.f58) (n := 9) (ac := Trydc58) rfl (by decide) Trydp58
theorem P_Contains (c : UInt8) (l : Bs) :
 PCall EE 58 [str (ba l), str (ba [c])] (bool (decide (c ∈ l))) := by
 have := contains1_pcall (E := EE) Tryd.lays144 enters_strings_Contains (ba l) c
 have hb : decide (0 ≤ Lib.indexByte l c) = decide (c ∈ l) := by
  apply decide_eq_decide.2
  have : ∀ l : Bs, (0 ≤ Lib.indexByte l c ↔ c ∈ l) := by
   intro l
   induction l with
   | nil => simp [Lib.indexByte]
   | cons b l ih =>
    rw [Lib.indexByte]
    by_cases h : b = c
    · subst h; simp
    · have := Lib.indexByte_ge l c
      rw [if_neg (by simpa using h), List.mem_cons, ← ih]
      split
      · rename_i e; have := beq_iff_eq.1 e; constructor
        · intro h; omega
        · rintro (h2 | h2)
          · exact absurd h2.symm h
          · omega
      · rename_i e; have e2 : ¬ Lib.indexByte l c = -1 := fun q => e (beq_iff_eq.2 q)
        constructor
        · intro _; right; omega
        · intro _; omega
  exact this l
 rw [ba_data, hb, one_ba] at this
 exact this
theorem enters_strings_TrimSuffix : Enters EE.P 32 := enters_of (fn := Tryd.f32) (n := 8) (ac := Trydc32) rfl (by decide) Trydp32
theorem P_TrimSuffix (c : UInt8) (d : Bs) (hl : d.length < 4294967281) :
 PCall EE 32 [str (ba (d ++ [c])), str (ba [c])] (str (ba d)) := by
 have := trims_pcall (E := EE) Tryd.lays102 enters_strings_TrimSuffix (ba (d ++ [c])) (ba [c]) (by rw [ba_size]; simp; omega)
 rw [ba_data, ba_data, trim_one, ba_mk] at this
 exact this
theorem enters_strings_Split : Enters EE.P 39 := enters_of (fn := Tryd.f39) (n := 8) (ac := Trydc39) rfl (by decide) Trydp39
theorem P_Split (c : UInt8) (l : Bs) (hl : l.length < 4294967281) :
 PCall EE 39 [str (ba l), str (ba [c])] (.isl 1 (mapE (fun p => str (ba p)) (splitC c l))) := by
 have := split1_pcall (E := EE) Tryd.lays146 (by kernel_rfl) enters_strings_Split (ba l) c (by rw [ba_size]; exact hl)
 rw [splitB_one, one_ba, List.map_map] at this
 rw [mapE_eq]
 exact this
end Go.Am
end
section
set_option maxHeartbeats 16000000
set_option maxRecDepth 20000
namespace Go.Am
open Go.Proofs Go.Shelf
theorem enters___strings_Builder__copyCheck : Enters EE.P 62 := enters_of (fn := Tryd.f62) (n := 20) (ac := Trydc62) rfl (by decide) Trydp62
theorem C_copyCheck (u : Bool) (x1 : AV) (H : AHeap) (h0 : H[0]? = some (.cells [.bsh 87 0 u, x1])) :
 ACall EE 62 [.ptr 0 0] H fun v H' => v = .tup [] ∧ H' = H.set 0 (.cells [.bsh 87 0 true, x1]) := by
 intro K w ys hh hv
 obtain ⟨y, rfl⟩ : ∃ y, ys = [y] := by
  match ys, hv.1 with
  | [y], _ => exact ⟨y, rfl⟩
 have v0 := hv.2 0 _ y rfl rfl
 have tupr : ∀ (K : Ctx) (M : Nat) (w : World), VRep K M w (.tup []) (.tuple #[]) := fun K M w => .tup [] [] rfl fun i c y h => by simp at h
 cases v0 with
 | ptr _ _ blk base hM hγ =>
  obtain ⟨c, ty, hheap, hl⟩ := hh.cells h0 hγ
  obtain ⟨y0, e0, r0⟩ := hl 0 _ rfl
  rw [Nat.add_zero] at e0
  cases u with
  | false =>
   cases r0 with
   | bsh _ _ blk' c' fz hM' hγ' hc hn =>
    rw [hγ] at hγ'
    simp only [Option.some.injEq, Prod.mk.injEq] at hγ'
    obtain ⟨q1, q2⟩ := hγ'
    subst q1 q2
    rw [hheap] at hc
    simp only [Option.some.injEq, Obj.cells.injEq] at hc
    obtain ⟨q1, q2, q3⟩ := hc
    subst q1 q3
    have hcell : w.cell? ⟨blk, 0, none⟩ = some (.pointer none) := by simp [World.cell?, hheap, e0]
    have hsh : w.shape? blk = some (87, 2) := by simp [World.shape?, hheap, hn, q2]
    have hfz : w.frozen? ⟨blk, 0, none⟩ = false := by simp [World.frozen?, hheap]
    refine (copyCheck_fresh blk w hcell hsh hfz).mono ?_
    rintro e w' ⟨rfl, rfl⟩
    rw [setCell_row hheap]
    have ht := touch_setRow w blk c (c.setIfInBounds 0 (.pointer (some ⟨blk, 0, none⟩))) ty (0, 0) hheap (by simp)
    obtain ⟨h2, ev⟩ := hh.touch h0 trivial hγ ht (o' := .cells [.bsh 87 0 true, x1]) trivial (fun m => by
     refine .cells _ _ _ _ _ (setRow_heap w blk c _ ty (0, 0) hheap) (fun j q hj => ?_)
     match j, hj with
     | 0, hj =>
      cases hj
      refine ⟨.pointer (some ⟨blk, 0, none⟩), by simp [hn], ?_⟩
      exact .bsh1 87 0 blk _ (0, 0) hM hγ (by rw [← q2]; exact setRow_heap w blk c _ ty (0, 0) hheap) (by simp [hn])
     | 1, hj =>
      cases hj
      obtain ⟨z, e1, e2⟩ := hl 1 x1 rfl
      exact ⟨z, by rw [Array.getElem?_setIfInBounds]; simpa using e1, m.rep e2⟩
     | j + 2, hj => simp at hj)
    exact ⟨_, _, _, K, rfl, ⟨rfl, rfl⟩, h2, tupr _ _ _, ev⟩
  | true =>
   cases r0 with
   | bsh1 _ _ blk' c' fz hM' hγ' hc hn =>
    rw [hγ] at hγ'
    simp only [Option.some.injEq, Prod.mk.injEq] at hγ'
    obtain ⟨q1, q2⟩ := hγ'
    subst q1 q2
    have hcell : w.cell? ⟨blk, 0, none⟩ = some (.pointer (some ⟨blk, 0, none⟩)) := by simp [World.cell?, hheap, e0]
    refine (copyCheck_used blk w hcell).mono ?_
    rintro e w' ⟨rfl, rfl⟩
    have hset : H.set 0 (.cells [.bsh 87 0 true, x1]) = H := by
     apply List.ext_getElem?
     intro i
     rw [List.getElem?_set]
     by_cases hi : 0 = i
     · subst hi; rw [if_pos rfl, if_pos (List.getElem?_eq_some_iff.1 h0).1, h0]
     · rw [if_neg hi]
    rw [hset]
    exact ⟨_, _, _, K, rfl, ⟨rfl, rfl⟩, hh, tupr _ _ _, Ev.refl _ _ _ _ (Nat.le_refl _)⟩
theorem enters___strings_Builder__String : Enters EE.P 48 := enters_of (fn := Tryd.f48) (n := 14) (ac := Trydc48) rfl (by decide) Trydp48
theorem C_String (u : Bool) (s : Bs) (h0 : s ≠ []) (hm : s.length ≤ 9223372036854775807) :
 ACall EE 48 [.ptr 0 0] [.cells [.bsh 87 0 u, .bsl 5 1 (byteA (ba s)).length], .arr 1 (byteA (ba s))] fun v H' => v = str (ba s) ∧ H' = [.cells [.bsh 87 0 u, .bsl 5 1 (byteA (ba s)).length], .dead] :=
 bstring_acall (E := EE) Tryd.lays169 Tryd.Builder_Extra_169 u (ba s) (by rw [ba_size]; exact List.length_pos_iff.2 h0) (by rw [ba_size]; exact hm)
theorem byteA_len (s : Bs) : (byteA (ba s)).length = s.length := by rw [byteA, List.length_map, ba_data]
theorem byteA_app (s x : Bs) : byteA (ba s) ++ byteA (ba x) = byteA (ba (s ++ x)) := by simp [byteA, ba_data]
theorem byteA_closed (s : Bs) : AV.closedL (byteA (ba s)) = true := by rw [byteA]; exact AV.closedL_map _ (fun _ => rfl) _
theorem enters___strings_Builder__WriteString : Enters EE.P 47 := enters_of (fn := Tryd.f47) (n := 19) (ac := Trydc47) rfl (by decide) Trydp47
theorem C_Write0 (x : Bs) (h0 : x ≠ []) (hl : x.length ≤ 1048576) :
 ACall EE 47 [.ptr 0 0, str (ba x)] [.cells [.bsh 87 0 false, .val (.slice none 0 0)]] fun v H' => v = .tup [int x.length, .val .nilIface] ∧ H' = [.cells [.bsh 87 0 true, .bsl 5 1 (byteA (ba x)).length], .arr 1 (byteA (ba x))] := by
 have hp := List.length_pos_iff.2 h0
 have hbl := byteA_len x
 have hsz := ba_size x
 have hbc := byteA_closed x
 generalize hs : ba x = s at *
 refine wordsN ?_; unhygienic intros
 have k1 : sLen s = (x.length : Int) := by simp only [ee]; omega
 have k2 : bytA s = byteA s := by simp only [ee]
 have k3 : lenN (byteA s) = (byteA s).length := by simp only [ee]
 refine rcall_body (fn := Tryd.f47) (n := 19) (ac := Trydc47) (rvs := [.t 4, .t 5]) rfl Trydp47 rfl rfl rfl ?_
 refine goA 0 ?_
 refine on_call rfl rfl rfl enters___strings_Builder__copyCheck (C_copyCheck false _ _ rfl) ?_
 rintro v H1 ⟨rfl, rfl⟩
 refine goA 60 ?_
 rw [k1, k2, k3]
 exact o_ret (.refl _ _ _ _ _) rfl ⟨rfl, rfl⟩
theorem C_Write (u : Bool) (d x : Bs) (hl : x.length ≤ 1048576) (hd : d.length ≤ 1048576) :
 ACall EE 47 [.ptr 0 0, str (ba x)] [.cells [.bsh 87 0 u, .bsl 5 1 (byteA (ba d)).length], .arr 1 (byteA (ba d))] fun v H' => v = .tup [int x.length, .val .nilIface] ∧ H' = [.cells [.bsh 87 0 true, .bsl 5 2 (byteA (ba (d ++ x))).length], .dead, .arr 1 (byteA (ba (d ++ x)))] := by
 have hbl := byteA_len x
 have hsz := ba_size x
 have hbd := byteA_len d
 rw [← byteA_app]
 generalize hs : ba x = s at *
 generalize hds : byteA (ba d) = ds at *
 refine wordsN ?_; unhygienic intros
 have k1 : sLen s = (x.length : Int) := by simp only [ee]; omega
 have k2 : bytA s = byteA s := by simp only [ee]
 have k4 : ds.length = lenN ds := by simp only [ee]
 have k5 : (ds ++ byteA s).length = addN (lenN ds) (lenN (byteA s)) := by simp only [ee]; simp
 have k6 : ds ++ byteA s = catA ds (byteA s) := by simp only [ee]
 rw [k5, k6, k4]
 refine rcall_body (fn := Tryd.f47) (n := 19) (ac := Trydc47) (rvs := [.t 4, .t 5]) rfl Trydp47 rfl rfl rfl ?_
 refine goA 0 ?_
 refine on_call rfl rfl rfl enters___strings_Builder__copyCheck (C_copyCheck u _ _ rfl) ?_
 rintro v H1 ⟨rfl, rfl⟩
 refine goA 60 ?_
 rw [k1, k2]
 exact o_ret (.refl _ _ _ _ _) rfl ⟨rfl, rfl⟩
end Go.Am
end
section
set_option maxHeartbeats 16000000
set_option maxRecDepth 100000
namespace Go.Am
open Go.Proofs
noncomputable def ents (l : List Bs) : List (AV × AV) := l.map fun n => (str (ba n), bool true)
theorem ents_ok (l : List Bs) (s : ByteArray) : mOkL true (ents l) (str s) = true := by
 unfold mOkL ents
 rw [List.all_eq_true]
 intro p hp
 obtain ⟨n, _, rfl⟩ := List.mem_map.1 hp
 rfl
theorem babeq (a b : ByteArray) : (a == b) = decide (a = b) := by
 cases a; cases b
 rename_i x y
 show (x == y) = _
 by_cases h : x = y
 · subst h; simp
 · rw [decide_eq_false (fun e => h (ByteArray.mk.inj e))]; simpa using h
theorem mIs_ba (n s : Bs) (v : AV) : mIs true (str (ba s)) (str (ba n), v) = decide (n = s) := by
 show ((if true = true then some (ba s == ba n) else none) == some true) = _
 rw [if_pos rfl, babeq]
 by_cases h : n = s
 · subst h; simp
 · rw [decide_eq_false (fun e => h (ba_inj e).symm), decide_eq_false h]; rfl
theorem ents_cl : ∀ l : List Bs, closedM (ents l) = true
 | [] => rfl
 | n :: l => by
  have ih := ents_cl l
  rw [ents] at ih
  rw [ents, List.map_cons, closedM, List.all_cons]
  exact ih
theorem ents_get (s : Bs) : ∀ l : List Bs, mGetL true (ents l) (str (ba s)) (bool false) = bool (decide (s ∈ l))
 | [] => rfl
 | n :: l => by
  have ih := ents_get s l
  rw [ents] at ih
  rw [ents, List.map_cons, mGetL, mIs_ba]
  by_cases h : n = s
  · subst h; simp
  · rw [decide_eq_false h, if_neg (by decide), ih]
    simp [Ne.symm h]
theorem ents_put (s : Bs) : ∀ l : List Bs, s ∉ l → mPutL true (ents l) (str (ba s)) (bool true) = ents (l ++ [s])
 | [], _ => rfl
 | n :: l, h => by
  simp only [List.mem_cons, not_or] at h
  have ih := ents_put s l h.2
  rw [ents, ents] at ih
  rw [ents, ents, List.map_cons, mPutL, mIs_ba, decide_eq_false (Ne.symm h.1), if_neg (by decide), ih]
  simp
def chkF : List Bs → List Fld → Int
 | _, [] => 0
 | seen, f :: r => if fnameB f.nm = false then 8 else if f.nm ∈ seen then 7 else if f.kd < 0 ∨ 3 ≤ f.kd then 1 else chkF (seen ++ [f.nm]) r
def Sch.chk (q : Sch) : Int := if nameB q.nm = false then 8 else if 8 < q.fs.length then 5 else chkF [] q.fs
def Sch.Short (q : Sch) : Prop := q.nm.length < 1152921504606846976 ∧ q.fs.length < 1152921504606846976 ∧ ∀ f ∈ q.fs, f.nm.length < 1152921504606846976
theorem P_Check (q : Sch) (hq : q.Short) : PCall EE 15 [q.enc] (int q.chk) := by
 obtain ⟨hqn, hl, hf⟩ := hq
 have kcl := Fld.closedI q.fs
 rw [Sch.enc_eq, Sch.chk]
 generalize q.fs = l at *
 have pn := P_name q.nm hqn
 clear hqn
 generalize hn : nameB q.nm = bn at *
 generalize ba q.nm = qn at *
 refine wordsN ?_; unhygienic intros
 generalize hes : mapE Fld.enc l = es at *
 have hel : es.length = l.length := by rw [← hes, mapE_len]
 have kcA : AV.closedL [str qn, .isl 2 es] = true := by simp [AV.closedL, closed_v, kcl]
 cases bn with
 | false =>
  rw [if_pos rfl]
  refine fn_body (fn := Tryd.f15) (n := 45) (ac := Trydc15) (rvs := [.t 2]) rfl (by decide) Trydp15 rfl rfl rfl ?_
  refine goA 60 ?_
  refine oPA pn ?_
  refine goB hX 0 (by conv => lhs; cbv; try simp only [hel]; cbv; try simp only [hel]; cbv; try simp only [hel]; cbv; try simp only [hel]; cbv) ?_
  refine on_cond rfl (fun c1 => ?_) (fun c1 => ?_)
  ·
   simp [ee] at c1
   refine goA 60 ?_
   refine fn_ret rfl rfl (.val ?_)
   rfl
  ·
   simp [ee] at c1
 | true =>
 rw [if_neg (by decide)]
 by_cases h8 : 8 < l.length
 · have k8 : iLt 8 (lenA es) = true := by simp only [ee]; simp; omega
   rw [if_pos h8]
   refine fn_body (fn := Tryd.f15) (n := 45) (ac := Trydc15) (rvs := [.t 2]) rfl (by decide) Trydp15 rfl rfl rfl ?_
   refine goA 60 ?_
   refine oPA pn ?_
   refine goB hX 0 (by conv => lhs; cbv; try simp only [k8]; cbv; try simp only [k8]; cbv; try simp only [k8]; cbv; try simp only [k8]; cbv) ?_
   refine on_cond rfl (fun c1 => ?_) (fun c1 => ?_)
   ·
    simp [ee] at c1
   ·
    simp [ee] at c1
    refine goB hX 0 (by conv => lhs; cbv; try simp only [k8]; cbv; try simp only [k8]; cbv; try simp only [k8]; cbv; try simp only [k8]; cbv) ?_
    refine goA 60 ?_
    refine fn_ret rfl rfl (.val ?_)
    rfl
 have k8 : iLt 8 (lenA es) = false := by simp only [ee]; simp; omega
 rw [if_neg h8]
 refine fn_body (fn := Tryd.f15) (n := 45) (ac := Trydc15) (rvs := [.t 2]) rfl (by decide) Trydp15 rfl rfl rfl ?_
 refine goA 60 ?_
 refine oPA pn ?_
 refine goB hX 0 (by conv => lhs; cbv; try simp only [k8]; cbv; try simp only [k8]; cbv; try simp only [k8]; cbv; try simp only [k8]; cbv) ?_
 refine on_cond rfl (fun c1 => ?_) (fun c1 => ?_)
 ·
  simp [ee] at c1
 simp [ee] at c1
 clear c1
 refine goB hX 0 (by conv => lhs; cbv; try simp only [k8]; cbv; try simp only [k8]; cbv; try simp only [k8]; cbv; try simp only [k8]; cbv) ?_
 refine goA 60 ?_
 refine on_loopP (ι := List Fld × List Fld × Int × List (AV × AV)) (fun p => ([(18, int p.2.2.1), (17, int (lenA es)), (16, .isl 2 es), (3, .amap 0)], [.amap p.2.2.2])) (fun p => l = p.1 ++ p.2.1 ∧ p.2.2.1 = p.1.length ∧ p.2.2.2 = ents (p.1.map Fld.nm) ∧ chkF [] l = chkF (p.1.map Fld.nm) p.2.1) (fun p => p.2.1.length) ([], l, 0, []) ⟨rfl, rfl, rfl, rfl⟩ ?_ ?_
 · have kcM : closedM [] = true := rfl
   exact (ent_sub [.gone, .to 0] [some 1] ⟨trivial, ⟨by simp, rfl⟩, trivial⟩ ⟨osrc_amap (b := 1) rfl rfl rfl rfl (by rfl), trivial⟩ ⟨.refl _, .refl _, .cl kcl, .refl _, trivial⟩)
 rintro ⟨d, r, i, m⟩ ⟨g1, gi, gm, gc⟩
 dsimp only at g1 gi gm gc ⊢
 cases r with
 | nil =>
  have L1 := len_split g1
  try simp only [List.length] at L1
  have hc : iLt i (lenA es) = false := lt_f e_iLt e_lenA (by omega)
  rw [gc, chkF]
  refine goB hX 0 (by conv => lhs; cbv; try simp only [hc]; cbv; try simp only [hc]; cbv; try simp only [hc]; cbv; try simp only [hc]; cbv) ?_
  refine goA 60 ?_
  refine loopP_exit ?_
  refine goA 60 ?_
  refine fn_ret rfl rfl (.val ?_)
  rfl
 | cons f r =>
  have L1 := len_split g1
  try simp only [List.length] at L1
  have hc : iLt i (lenA es) = true := lt_t e_iLt e_lenA (by omega)
  have hat := el_at e_atA hes g1 gi
  rw [Fld.enc_eq] at hat
  have hi2 : iAdd .i64 i 1 = ((d ++ [f]).length : Int) := by rw [List.length_append]; exact inc_w e_iAdd gi (by omega)
  have pf := P_fieldName f.nm (hf f (by rw [g1]; simp))
  have gc2 : chkF (d.map Fld.nm ++ [f.nm]) r = chkF ((d ++ [f]).map Fld.nm) r := by simp
  rw [chkF, gc2] at gc
  rw [gc]
  clear hf
  have kokL : mOkL true m (str (ba f.nm)) = true := by rw [gm]; exact ents_ok _ _
  have kok : mOk true m (str (ba f.nm)) = true := by simp only [ee]; rw [gm]; exact ents_ok _ _
  have kget : mGet true m (str (ba f.nm)) (bool false) = bool (decide (f.nm ∈ d.map Fld.nm)) := by simp only [ee]; rw [gm]; exact ents_get _ _
  have kput : f.nm ∉ d.map Fld.nm → mPut true m (str (ba f.nm)) (bool true) = ents ((d ++ [f]).map Fld.nm) := fun h => by simp only [ee]; rw [gm, ents_put _ _ h]; simp
  have kk1 : f.kd < 0 → iLt f.kd 0 = true := fun h => by simp only [ee]; simpa using h
  have kk2 : ¬ f.kd < 0 → iLt f.kd 0 = false := fun h => by simp only [ee]; simpa using h
  have kk3 : 3 ≤ f.kd → iLe 3 f.kd = true := fun h => by simp only [ee]; simpa using h
  have kk4 : ¬ 3 ≤ f.kd → iLe 3 f.kd = false := fun h => by simp only [ee]; simpa using h
  clear gc2
  generalize fnameB f.nm = bf at *
  generalize hin : decide (f.nm ∈ d.map Fld.nm) = bi at *
  generalize ba f.nm = fs at *
  generalize f.kd = fk at *
  cases bf with
  | false =>
   rw [if_pos rfl]
   refine goB hX 0 (by conv => lhs; cbv; try simp only [hc, hat]; cbv; try simp only [hc, hat]; cbv; try simp only [hc, hat]; cbv; try simp only [hc, hat]; cbv) ?_
   refine goB hX 1 (by conv => lhs; cbv; try simp only [hc, hat]; cbv; try simp only [hc, hat]; cbv; try simp only [hc, hat]; cbv; try simp only [hc, hat]; cbv) ?_
   refine oPA pf ?_
   refine goB hX 0 (by conv => lhs; cbv; try simp only [hc, hat]; cbv; try simp only [hc, hat]; cbv; try simp only [hc, hat]; cbv; try simp only [hc, hat]; cbv) ?_
   refine on_cond rfl (fun c1 => ?_) (fun c1 => ?_)
   ·
    simp [ee] at c1
    refine goA 60 ?_
    refine loopP_ret ?_
    refine goA 60 ?_
    refine fn_ret rfl rfl (.val ?_)
    rfl
   ·
    simp [ee] at c1
  | true =>
  rw [if_neg (by decide)]
  cases bi with
  | true =>
   rw [if_pos (of_decide_eq_true hin)]
   refine goB hX 0 (by conv => lhs; cbv; try simp only [hc, hat, kget, kok]; cbv; try simp only [hc, hat, kget, kok]; cbv; try simp only [hc, hat, kget, kok]; cbv; try simp only [hc, hat, kget, kok]; cbv) ?_
   refine goB hX 1 (by conv => lhs; cbv; try simp only [hc, hat, kget, kok]; cbv; try simp only [hc, hat, kget, kok]; cbv; try simp only [hc, hat, kget, kok]; cbv; try simp only [hc, hat, kget, kok]; cbv) ?_
   refine oPA pf ?_
   refine goB hX 0 (by conv => lhs; cbv; try simp only [hc, hat, kget, kok]; cbv; try simp only [hc, hat, kget, kok]; cbv; try simp only [hc, hat, kget, kok]; cbv; try simp only [hc, hat, kget, kok]; cbv) ?_
   refine on_cond rfl (fun c1 => ?_) (fun c1 => ?_)
   ·
    simp [ee] at c1
   ·
    simp [ee] at c1
    refine goB hX 0 (by conv => lhs; cbv; try simp only [hc, hat, kget, kok]; cbv; try simp only [hc, hat, kget, kok]; cbv; try simp only [hc, hat, kget, kok]; cbv; try simp only [hc, hat, kget, kok]; cbv) ?_
    refine goA 60 ?_
    refine loopP_ret ?_
    refine goA 60 ?_
    refine fn_ret rfl rfl (.val ?_)
    rfl
  | false =>
  rw [if_neg (of_decide_eq_false hin)]
  have kp := kput (of_decide_eq_false hin)
  clear kput
  by_cases n0 : fk < 0
  · have kk := kk1 n0
    rw [if_pos (Or.inl n0)]
    refine goB hX 0 (by conv => lhs; cbv; try simp only [hc, hat, kget, kok, kk]; cbv; try simp only [hc, hat, kget, kok, kk]; cbv; try simp only [hc, hat, kget, kok, kk]; cbv; try simp only [hc, hat, kget, kok, kk]; cbv) ?_
    refine goB hX 1 (by conv => lhs; cbv; try simp only [hc, hat, kget, kok, kk]; cbv; try simp only [hc, hat, kget, kok, kk]; cbv; try simp only [hc, hat, kget, kok, kk]; cbv; try simp only [hc, hat, kget, kok, kk]; cbv) ?_
    refine oPA pf ?_
    refine goB hX 0 (by conv => lhs; cbv; try simp only [hc, hat, kget, kok, kk]; cbv; try simp only [hc, hat, kget, kok, kk]; cbv; try simp only [hc, hat, kget, kok, kk]; cbv; try simp only [hc, hat, kget, kok, kk]; cbv) ?_
    refine on_cond rfl (fun c1 => ?_) (fun c1 => ?_)
    ·
     simp [ee] at c1
    ·
     simp [ee] at c1
     refine goB hX 0 (by conv => lhs; cbv; try simp only [hc, hat, kget, kok, kk]; cbv; try simp only [hc, hat, kget, kok, kk]; cbv; try simp only [hc, hat, kget, kok, kk]; cbv; try simp only [hc, hat, kget, kok, kk]; cbv) ?_
     refine goB hX 0 (by conv => lhs; cbv; try simp only [hc, hat, kget, kok, kk]; cbv; try simp only [hc, hat, kget, kok, kk]; cbv; try simp only [hc, hat, kget, kok, kk]; cbv; try simp only [hc, hat, kget, kok, kk]; cbv) ?_
     refine goB hX 1 (by conv => lhs; cbv; try simp only [hc, hat, kget, kok, kk]; cbv; try simp only [hc, hat, kget, kok, kk]; cbv; try simp only [hc, hat, kget, kok, kk]; cbv; try simp only [hc, hat, kget, kok, kk]; cbv) ?_
     refine on_cond rfl (fun c2 => ?_) (fun c2 => ?_)
     ·
      simp [ee] at c2
      refine goA 60 ?_
      refine loopP_ret ?_
      refine goA 60 ?_
      refine fn_ret rfl rfl (.val ?_)
      rfl
     ·
      simp [ee] at c2
  have kk := kk2 n0
  by_cases n3 : 3 ≤ fk
  · have kkb := kk3 n3
    rw [if_pos (Or.inr n3)]
    refine goB hX 0 (by conv => lhs; cbv; try simp only [hc, hat, kget, kok, kk, kkb]; cbv; try simp only [hc, hat, kget, kok, kk, kkb]; cbv; try simp only [hc, hat, kget, kok, kk, kkb]; cbv; try simp only [hc, hat, kget, kok, kk, kkb]; cbv) ?_
    refine goB hX 1 (by conv => lhs; cbv; try simp only [hc, hat, kget, kok, kk, kkb]; cbv; try simp only [hc, hat, kget, kok, kk, kkb]; cbv; try simp only [hc, hat, kget, kok, kk, kkb]; cbv; try simp only [hc, hat, kget, kok, kk, kkb]; cbv) ?_
    refine oPA pf ?_
    refine goB hX 0 (by conv => lhs; cbv; try simp only [hc, hat, kget, kok, kk, kkb]; cbv; try simp only [hc, hat, kget, kok, kk, kkb]; cbv; try simp only [hc, hat, kget, kok, kk, kkb]; cbv; try simp only [hc, hat, kget, kok, kk, kkb]; cbv) ?_
    refine on_cond rfl (fun c1 => ?_) (fun c1 => ?_)
    ·
     simp [ee] at c1
    ·
     simp [ee] at c1
     refine goB hX 0 (by conv => lhs; cbv; try simp only [hc, hat, kget, kok, kk, kkb]; cbv; try simp only [hc, hat, kget, kok, kk, kkb]; cbv; try simp only [hc, hat, kget, kok, kk, kkb]; cbv; try simp only [hc, hat, kget, kok, kk, kkb]; cbv) ?_
     refine goB hX 0 (by conv => lhs; cbv; try simp only [hc, hat, kget, kok, kk, kkb]; cbv; try simp only [hc, hat, kget, kok, kk, kkb]; cbv; try simp only [hc, hat, kget, kok, kk, kkb]; cbv; try simp only [hc, hat, kget, kok, kk, kkb]; cbv) ?_
     refine goB hX 1 (by conv => lhs; cbv; try simp only [hc, hat, kget, kok, kk, kkb]; cbv; try simp only [hc, hat, kget, kok, kk, kkb]; cbv; try simp only [hc, hat, kget, kok, kk, kkb]; cbv; try simp only [hc, hat, kget, kok, kk, kkb]; cbv) ?_
     refine on_cond rfl (fun c2 => ?_) (fun c2 => ?_)
     ·
      simp [ee] at c2
      refine goA 60 ?_
      refine loopP_ret ?_
      refine goA 60 ?_
      refine fn_ret rfl rfl (.val ?_)
      rfl
     ·
      simp [ee] at c2
  have kkb := kk4 n3
  rw [if_neg (by omega)]
  rw [if_neg (by decide), if_neg (of_decide_eq_false hin), if_neg (by omega)] at gc
  have kcM : closedM (mPut true m (str fs) (bool true)) = true := by rw [kp]; exact ents_cl _
  refine goB hX 0 (by conv => lhs; cbv; try simp only [hc, hat, kget, kok, kk, kkb]; cbv; try simp only [hc, hat, kget, kok, kk, kkb]; cbv; try simp only [hc, hat, kget, kok, kk, kkb]; cbv; try simp only [hc, hat, kget, kok, kk, kkb]; cbv) ?_
  refine goB hX 1 (by conv => lhs; cbv; try simp only [hc, hat, kget, kok, kk, kkb]; cbv; try simp only [hc, hat, kget, kok, kk, kkb]; cbv; try simp only [hc, hat, kget, kok, kk, kkb]; cbv; try simp only [hc, hat, kget, kok, kk, kkb]; cbv) ?_
  refine oPA pf ?_
  refine goB hX 0 (by conv => lhs; cbv; try simp only [hc, hat, kget, kok, kk, kkb]; cbv; try simp only [hc, hat, kget, kok, kk, kkb]; cbv; try simp only [hc, hat, kget, kok, kk, kkb]; cbv; try simp only [hc, hat, kget, kok, kk, kkb]; cbv) ?_
  refine on_cond rfl (fun c1 => ?_) (fun c1 => ?_)
  ·
   simp [ee] at c1
  ·
   simp [ee] at c1
   refine goB hX 0 (by conv => lhs; cbv; try simp only [hc, hat, kget, kok, kk, kkb]; cbv; try simp only [hc, hat, kget, kok, kk, kkb]; cbv; try simp only [hc, hat, kget, kok, kk, kkb]; cbv; try simp only [hc, hat, kget, kok, kk, kkb]; cbv) ?_
   refine goB hX 0 (by conv => lhs; cbv; try simp only [hc, hat, kget, kok, kk, kkb]; cbv; try simp only [hc, hat, kget, kok, kk, kkb]; cbv; try simp only [hc, hat, kget, kok, kk, kkb]; cbv; try simp only [hc, hat, kget, kok, kk, kkb]; cbv) ?_
   refine goB hX 1 (by conv => lhs; cbv; try simp only [hc, hat, kget, kok, kk, kkb]; cbv; try simp only [hc, hat, kget, kok, kk, kkb]; cbv; try simp only [hc, hat, kget, kok, kk, kkb]; cbv; try simp only [hc, hat, kget, kok, kk, kkb]; cbv) ?_
   refine on_cond rfl (fun c2 => ?_) (fun c2 => ?_)
   ·
    simp [ee] at c2
   ·
    simp [ee] at c2
    refine go rfl hX 60 (by conv => lhs; cbv) ?_ ?_
    · simp only [ee]; simp only [kokL]; trivial
    refine loopP_next (d ++ [f], r, iAdd .i64 i 1, mPut true m (str fs) (bool true)) ⟨by simp [g1], hi2, kp, gc ▸ rfl⟩ (by simp) (ent_sub [.to 0, .gone] [some 0] ⟨⟨by simp, rfl⟩, trivial, trivial⟩ ⟨osrc_amap (b := 0) rfl rfl rfl rfl (by assumption), trivial⟩ ⟨.refl _, .refl _, .cl kcl, .refl _, trivial⟩)
end Go.Am
end
