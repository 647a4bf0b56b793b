/- The abstract machine that the walks of this claim are carried out on: no condition. -/
import Derived.Test.YtpfnahcfnclgdaaGreatDoorPAm4
section
namespace Go.Am
structure xg where
 iLt:Int→Int→Bool
 iLe:Int→Int→Bool
 iEq:Int→Int→Bool
 iNe:Int→Int→Bool
 iAdd:IntKind→Int→Int→Int
 iSub:IntKind→Int→Int→Int
 iMul:IntKind→Int→Int→Int
 iQuo:IntKind→Int→Int→Int
 iRem:Int→Int→Int
 iShr:IntKind→Int→Int→Int
 iNeg:IntKind→Int→Int
 iCvt:IntKind→Int→Int
 iMax:Int→Int→Int
 iMin:Int→Int→Int
 bNot:Bool→Bool
 bEq:Bool→Bool→Bool
 bNe:Bool→Bool→Bool
 bAnd:Bool→Bool→Bool
 bOr:Bool→Bool→Bool
 sEq:ByteArray→ByteArray→Bool
 sNe:ByteArray→ByteArray→Bool
 sLen:ByteArray→Int
 sCat:ByteArray→ByteArray→ByteArray
 sCut:ByteArray→Int→Int→ByteArray
 sAt:ByteArray→Int→Int
 lenA:List AV→Int
 lenN:List AV→Nat
 iOf:Nat→Int
 natOf:Int→Nat
 atA:List AV→Int→AV
 atN:List AV→Nat→AV
 cutA:List AV→Int→Int→List AV
 partA:List AV→Nat→Nat→List AV
 dropA:List AV→Nat→List AV
 catA:List AV→List AV→List AV
 setA:List AV→Nat→AV→List AV
 repA:Int→AV→List AV
 putA:List AV→Nat→Nat→List AV→List AV
 idxN:Nat→Int→Nat
 addN:Nat→Nat→Nat
 subN:Nat→Int→Nat
 minN:Nat→Nat→Nat
 lenCut:Int→Int→Nat
 rowA:List AV→Int→Nat→List AV
 mOk:Bool→List (AV × AV)→AV→Bool
 mHas:Bool→List (AV × AV)→AV→Bool
 mGet:Bool→List (AV × AV)→AV→AV→AV
 mPut:Bool→List (AV × AV)→AV→AV→List (AV × AV)
 bytA:ByteArray→List AV
 encR:Int→ByteArray
namespace Wd
def iLt : Int→Int→Bool:=fun a b=>decide (a<b)
def iLe : Int→Int→Bool:=fun a b=>decide (a≤b)
def iEq : Int→Int→Bool:=fun a b=>a == b
def iNe : Int→Int→Bool:=fun a b=>a != b
def iAdd : IntKind→Int→Int→Int:=fun k a b=>k.wrap (a+b)
def iSub : IntKind→Int→Int→Int:=fun k a b=>k.wrap (a - b)
def iMul : IntKind→Int→Int→Int:=fun k a b=>k.wrap (a * b)
def iQuo : IntKind→Int→Int→Int:=fun k a b=>k.wrap (a.tdiv b)
def iRem : Int→Int→Int:=fun a b=>a.tmod b
def iShr : IntKind→Int→Int→Int:=fun k a b=>a.fdiv (2 ^ min b.toNat k.bits)
def iNeg : IntKind→Int→Int:=fun k a=>k.wrap (0 - a)
def iCvt : IntKind→Int→Int:=fun k a=>k.wrap a
def iMax : Int→Int→Int:=fun a b=>if b > a then b else a
def iMin : Int→Int→Int:=fun a b=>if b<a then b else a
def bNot : Bool→Bool:=fun a=>!a
def bEq : Bool→Bool→Bool:=fun a b=>a == b
def bNe : Bool→Bool→Bool:=fun a b=>!(a == b)
def bAnd : Bool→Bool→Bool:=fun a b=>a && b
def bOr : Bool→Bool→Bool:=fun a b=>a || b
def sEq : ByteArray→ByteArray→Bool:=fun a b=>a.toList == b.toList
def sNe : ByteArray→ByteArray→Bool:=fun a b=>!(a.toList == b.toList)
def sLen : ByteArray→Int:=fun a=>a.size
def sCat : ByteArray→ByteArray→ByteArray:=fun a b=>a++b
def sCut : ByteArray→Int→Int→ByteArray:=fun a lo hi=>a.extract lo.toNat hi.toNat
def sAt : ByteArray→Int→Int:=fun a n=>(a.data.getD n.toNat 0).toNat
def lenA : List AV→Int:=fun es=>es.length
def lenN : List AV→Nat:=fun es=>es.length
def iOf : Nat→Int:=fun n=>n
def natOf : Int→Nat:=fun n=>n.toNat
def atA : List AV→Int→AV:=fun es n=>es.getD n.toNat .undef
def atN : List AV→Nat→AV:=fun es n=>es.getD n .undef
def cutA : List AV→Int→Int→List AV:=fun es lo hi=>(es.take hi.toNat).drop lo.toNat
def partA : List AV→Nat→Nat→List AV:=fun es lo len=>(es.drop lo).take len
def dropA : List AV→Nat→List AV:=fun es lo=>es.drop lo
def catA : List AV→List AV→List AV:=fun a b=>a++b
def setA : List AV→Nat→AV→List AV:=fun es n v=>es.set n v
def repA : Int→AV→List AV:=fun n v=>List.replicate n.toNat v
def putA : List AV→Nat→Nat→List AV→List AV:=fun es lo m new=>putE es lo m new
def idxN : Nat→Int→Nat:=fun lo n=>lo+n.toNat
def addN : Nat→Nat→Nat:=fun a b=>a+b
def subN : Nat→Int→Nat:=fun a b=>a - b.toNat
def minN : Nat→Nat→Nat:=fun a b=>min a b
def lenCut : Int→Int→Nat:=fun lo hi=>hi.toNat - lo.toNat
def rowA : List AV→Int→Nat→List AV:=fun cs n k=>(cs.drop (n.toNat * k)).take k
def mOk : Bool→List (AV × AV)→AV→Bool:=fun st es x=>mOkL st es x
def mHas : Bool→List (AV × AV)→AV→Bool:=fun st es x=>mHasL st es x
def mGet : Bool→List (AV × AV)→AV→AV→AV:=fun st es x z=>mGetL st es x z
def mPut : Bool→List (AV × AV)→AV→AV→List (AV × AV):=fun st es x v=>mPutL st es x v
def bytA : ByteArray→List AV:=fun s=>byteA s
def encR : Int→ByteArray:=fun n=>Utf8.encode n
end Wd
def std : xg:=⟨Wd.iLt,Wd.iLe,Wd.iEq,Wd.iNe,Wd.iAdd,Wd.iSub,Wd.iMul,Wd.iQuo,Wd.iRem,Wd.iShr,Wd.iNeg,Wd.iCvt,Wd.iMax,Wd.iMin,Wd.bNot,Wd.bEq,Wd.bNe,Wd.bAnd,Wd.bOr,Wd.sEq,Wd.sNe,Wd.sLen,Wd.sCat,Wd.sCut,Wd.sAt,Wd.lenA,Wd.lenN,Wd.iOf,Wd.natOf,Wd.atA,Wd.atN,Wd.cutA,Wd.partA,Wd.dropA,Wd.catA,Wd.setA,Wd.repA,Wd.putA,Wd.idxN,Wd.addN,Wd.subN,Wd.minN,Wd.lenCut,Wd.rowA,Wd.mOk,Wd.mHas,Wd.mGet,Wd.mPut,Wd.bytA,Wd.encR⟩
theorem words {p:Prop} (h:∀ (iLt:Int→Int→Bool) (iLe:Int→Int→Bool) (iEq:Int→Int→Bool) (iNe:Int→Int→Bool) (iAdd:IntKind→Int→Int→Int) (iSub:IntKind→Int→Int→Int) (iMul:IntKind→Int→Int→Int) (iQuo:IntKind→Int→Int→Int) (iRem:Int→Int→Int) (iShr:IntKind→Int→Int→Int) (iNeg:IntKind→Int→Int) (iCvt:IntKind→Int→Int) (iMax:Int→Int→Int) (iMin:Int→Int→Int) (bNot:Bool→Bool) (bEq:Bool→Bool→Bool) (bNe:Bool→Bool→Bool) (bAnd:Bool→Bool→Bool) (bOr:Bool→Bool→Bool) (sEq:ByteArray→ByteArray→Bool) (sNe:ByteArray→ByteArray→Bool) (sLen:ByteArray→Int) (sCat:ByteArray→ByteArray→ByteArray) (sCut:ByteArray→Int→Int→ByteArray) (sAt:ByteArray→Int→Int) (lenA:List AV→Int) (lenN:List AV→Nat) (iOf:Nat→Int) (natOf:Int→Nat) (atA:List AV→Int→AV) (atN:List AV→Nat→AV) (cutA:List AV→Int→Int→List AV) (partA:List AV→Nat→Nat→List AV) (dropA:List AV→Nat→List AV) (catA:List AV→List AV→List AV) (setA:List AV→Nat→AV→List AV) (repA:Int→AV→List AV) (putA:List AV→Nat→Nat→List AV→List AV) (idxN:Nat→Int→Nat) (addN:Nat→Nat→Nat) (subN:Nat→Int→Nat) (minN:Nat→Nat→Nat) (lenCut:Int→Int→Nat) (rowA:List AV→Int→Nat→List AV) (mOk:Bool→List (AV × AV)→AV→Bool) (mHas:Bool→List (AV × AV)→AV→Bool) (mGet:Bool→List (AV × AV)→AV→AV→AV) (mPut:Bool→List (AV × AV)→AV→AV→List (AV × AV)) (bytA:ByteArray→List AV) (encR:Int→ByteArray),(⟨iLt,iLe,iEq,iNe,iAdd,iSub,iMul,iQuo,iRem,iShr,iNeg,iCvt,iMax,iMin,bNot,bEq,bNe,bAnd,bOr,sEq,sNe,sLen,sCat,sCut,sAt,lenA,lenN,iOf,natOf,atA,atN,cutA,partA,dropA,catA,setA,repA,putA,idxN,addN,subN,minN,lenCut,rowA,mOk,mHas,mGet,mPut,bytA,encR⟩:xg)=std→iLt=Wd.iLt→iLe=Wd.iLe→iEq=Wd.iEq→iNe=Wd.iNe→iAdd=Wd.iAdd→iSub=Wd.iSub→iMul=Wd.iMul→iQuo=Wd.iQuo→iRem=Wd.iRem→iShr=Wd.iShr→iNeg=Wd.iNeg→iCvt=Wd.iCvt→iMax=Wd.iMax→iMin=Wd.iMin→bNot=Wd.bNot→bEq=Wd.bEq→bNe=Wd.bNe→bAnd=Wd.bAnd→bOr=Wd.bOr→sEq=Wd.sEq→sNe=Wd.sNe→sLen=Wd.sLen→sCat=Wd.sCat→sCut=Wd.sCut→sAt=Wd.sAt→lenA=Wd.lenA→lenN=Wd.lenN→iOf=Wd.iOf→natOf=Wd.natOf→atA=Wd.atA→atN=Wd.atN→cutA=Wd.cutA→partA=Wd.partA→dropA=Wd.dropA→catA=Wd.catA→setA=Wd.setA→repA=Wd.repA→putA=Wd.putA→idxN=Wd.idxN→addN=Wd.addN→subN=Wd.subN→minN=Wd.minN→lenCut=Wd.lenCut→rowA=Wd.rowA→mOk=Wd.mOk→mHas=Wd.mHas→mGet=Wd.mGet→mPut=Wd.mPut→bytA=Wd.bytA→encR=Wd.encR→((∀ a b,iLt a b=(decide (a<b)))∧(∀ a b,iLe a b=(decide (a≤b)))∧(∀ a b,iEq a b=(a == b))∧(∀ a b,iNe a b=(a != b))∧(∀ k a b,iAdd k a b=(k.wrap (a+b)))∧(∀ k a b,iSub k a b=(k.wrap (a - b)))∧(∀ k a b,iMul k a b=(k.wrap (a * b)))∧(∀ k a b,iQuo k a b=(k.wrap (a.tdiv b)))∧(∀ a b,iRem a b=(a.tmod b))∧(∀ k a b,iShr k a b=(a.fdiv (2 ^ min b.toNat k.bits)))∧(∀ k a,iNeg k a=(k.wrap (0 - a)))∧(∀ k a,iCvt k a=(k.wrap a))∧(∀ a b,iMax a b=(if b > a then b else a))∧(∀ a b,iMin a b=(if b<a then b else a))∧(∀ a,bNot a=(!a))∧(∀ a b,bEq a b=(a == b))∧(∀ a b,bNe a b=(!(a == b)))∧(∀ a b,bAnd a b=(a && b))∧(∀ a b,bOr a b=(a || b))∧(∀ a b,sEq a b=(a.toList == b.toList))∧(∀ a b,sNe a b=(!(a.toList == b.toList)))∧(∀ a,sLen a=(a.size))∧(∀ a b,sCat a b=(a++b))∧(∀ a lo hi,sCut a lo hi=(a.extract lo.toNat hi.toNat))∧(∀ a n,sAt a n=((a.data.getD n.toNat 0).toNat))∧(∀ es,lenA es=(es.length))∧(∀ es,lenN es=(es.length))∧(∀ n,iOf n=(n))∧(∀ n,natOf n=(n.toNat))∧(∀ es n,atA es n=(es.getD n.toNat .undef))∧(∀ es n,atN es n=(es.getD n .undef))∧(∀ es lo hi,cutA es lo hi=((es.take hi.toNat).drop lo.toNat))∧(∀ es lo len,partA es lo len=((es.drop lo).take len))∧(∀ es lo,dropA es lo=(es.drop lo))∧(∀ a b,catA a b=(a++b))∧(∀ es n v,setA es n v=(es.set n v))∧(∀ n v,repA n v=(List.replicate n.toNat v))∧(∀ es lo m new,putA es lo m new=(putE es lo m new))∧(∀ lo n,idxN lo n=(lo+n.toNat))∧(∀ a b,addN a b=(a+b))∧(∀ a b,subN a b=(a - b.toNat))∧(∀ a b,minN a b=(min a b))∧(∀ lo hi,lenCut lo hi=(hi.toNat - lo.toNat))∧(∀ cs n k,rowA cs n k=((cs.drop (n.toNat * k)).take k))∧(∀ st es x,mOk st es x=(mOkL st es x))∧(∀ st es x,mHas st es x=(mHasL st es x))∧(∀ st es x z,mGet st es x z=(mGetL st es x z))∧(∀ st es x v,mPut st es x v=(mPutL st es x v))∧(∀ s,bytA s=(byteA s))∧(∀ n,encR n=(Utf8.encode n)))→p):p :=
 h Wd.iLt Wd.iLe Wd.iEq Wd.iNe Wd.iAdd Wd.iSub Wd.iMul Wd.iQuo Wd.iRem Wd.iShr Wd.iNeg Wd.iCvt Wd.iMax Wd.iMin Wd.bNot Wd.bEq Wd.bNe Wd.bAnd Wd.bOr Wd.sEq Wd.sNe Wd.sLen Wd.sCat Wd.sCut Wd.sAt Wd.lenA Wd.lenN Wd.iOf Wd.natOf Wd.atA Wd.atN Wd.cutA Wd.partA Wd.dropA Wd.catA Wd.setA Wd.repA Wd.putA Wd.idxN Wd.addN Wd.subN Wd.minN Wd.lenCut Wd.rowA Wd.mOk Wd.mHas Wd.mGet Wd.mPut Wd.bytA Wd.encR rfl rfl rfl rfl rfl rfl rfl rfl rfl rfl rfl rfl rfl rfl rfl rfl rfl rfl rfl rfl rfl rfl rfl rfl rfl rfl rfl rfl rfl rfl rfl rfl rfl rfl rfl rfl rfl rfl rfl rfl rfl rfl rfl rfl rfl rfl rfl rfl rfl rfl rfl ⟨fun _ _=>rfl,fun _ _=>rfl,fun _ _=>rfl,fun _ _=>rfl,fun _ _ _=>rfl,fun _ _ _=>rfl,fun _ _ _=>rfl,fun _ _ _=>rfl,fun _ _=>rfl,fun _ _ _=>rfl,fun _ _=>rfl,fun _ _=>rfl,fun _ _=>rfl,fun _ _=>rfl,fun _=>rfl,fun _ _=>rfl,fun _ _=>rfl,fun _ _=>rfl,fun _ _=>rfl,fun _ _=>rfl,fun _ _=>rfl,fun _=>rfl,fun _ _=>rfl,fun _ _ _=>rfl,fun _ _=>rfl,fun _=>rfl,fun _=>rfl,fun _=>rfl,fun _=>rfl,fun _ _=>rfl,fun _ _=>rfl,fun _ _ _=>rfl,fun _ _ _=>rfl,fun _ _=>rfl,fun _ _=>rfl,fun _ _ _=>rfl,fun _ _=>rfl,fun _ _ _ _=>rfl,fun _ _=>rfl,fun _ _=>rfl,fun _ _=>rfl,fun _ _=>rfl,fun _ _=>rfl,fun _ _ _=>rfl,fun _ _ _=>rfl,fun _ _ _=>rfl,fun _ _ _ _=>rfl,fun _ _ _ _=>rfl,fun _=>rfl,fun _=>rfl⟩
inductive Cd where
 | tt
 | and (a b:Cd)
 | dep (t:Bool) (a:Cd)
 | bb (b:Bool)
 | inB (n len:Int)
 | cut (lo hi n:Int)
 | cut2 (lo hi n c:Int)
 | nilc (a b:Int)
 | nlt (a b:Nat)
 | nle (a b:Nat)
 | neq (a b:Nat)
 | small (n bytes:Nat)
 | mk (n m:Int) (bytes:Nat)
 | nz (a:Int)
 | nn (a:Int)
 | ps (a:Int)
 | lt (a b:Int)
 | scat (a b:ByteArray)
 | one (es:List AV)
 | fit (k:Nat) (es:List AV)
 deriving Inhabited
def Cd.ok : Cd→Prop
 | .tt=>True
 | .and a b=>a.ok∧b.ok
 | .dep t a=>t=true→a.ok
 | .bb b=>b=true
 | .inB n len=>0≤n∧n<len
 | .cut lo hi n=>0≤lo∧lo≤hi∧hi≤n
 | .cut2 lo hi n c=>0≤lo∧lo≤hi∧hi≤c∧lo<c
 | .nilc a b=>a=0∧b=0
 | .nlt a b=>a<b
 | .nle a b=>a≤b
 | .neq a b=>a=b
 | .small n bytes=>n * (bytes+1)≤35184372088832
 | .mk n m bytes=>0≤n∧n=m∧n.toNat * (bytes+1)≤35184372088832∧n≤35184372088832
 | .nz a=>a≠0
 | .nn a=>0≤a
 | .ps a=>0<a
 | .lt a b=>a<b
 | .scat a b=>a.size+b.size≤9223372036854775807
 | .one es=>es.all AV.one=true
 | .fit k es=>wK k es=true
def vQ : Cd→Cd→Cd
 | .tt,b=>b
 | a,.tt=>a
 | a,b=>.and a b
theorem yL {a b:Cd} (h:(vQ a b).ok):a.ok∧b.ok:=by
 unfold vQ at h
 split at h
 · exact ⟨trivial,h⟩
 · exact ⟨h,trivial⟩
 · exact h
def tG (b:Bool):Cd :=
 match b with
 | true=>.tt
 | false=>.bb false
theorem wj {b:Bool} (h:(tG b).ok):b=true:=by cases b<;>first | rfl | exact h
section
variable (X:xg) (G:Nat→AV)
abbrev AnsX := Option (Cd × AV × zz)
def xp (v:AV) (H:zz):AnsX:=some (.tt,v,H)
def cmpX (op:BinOp) (a b:Int):Option Bool :=
 match op with
 | .eql=>some (X.iEq a b)
 | .neq=>some (X.iNe a b)
 | .lss=>some (X.iLt a b)
 | .leq=>some (X.iLe a b)
 | .gtr=>some (X.iLt b a)
 | .geq=>some (X.iLe b a)
 | _=>none
def binX (op:BinOp) (x y:AV) (H:zz):AnsX :=
 match x,y with
 | .val (.int k a),.val (.int k' b) =>
  match op with
  | .shr=>some (.nn b,.val (.int k (X.iShr k a b)),H)
  | _=>if k=k' then
   match op with
   | .add=>xp (.val (.int k (X.iAdd k a b))) H
   | .sub=>xp (.val (.int k (X.iSub k a b))) H
   | .mul=>xp (.val (.int k (X.iMul k a b))) H
   | .quo=>some (.nz b,.val (.int k (X.iQuo k a b)),H)
   | .rem=>some (.nz b,.val (.int k (X.iRem a b)),H)
   | _=>match cmpX X op a b with
    | some r=>xp (.val (.bool r)) H
    | none=>none
  else none
 | .val (.string a),.val (.string b)=>match op with
  | .add=>some (.scat a b,.val (.string (X.sCat a b)),H)
  | .eql=>xp (.val (.bool (X.sEq a b))) H
  | .neq=>xp (.val (.bool (X.sNe a b))) H
  | _=>none
 | _,_=>none
def eqX : List LK→List AV→List AV→Option Bool
 | [],_,_=>some true
 | .int :: ks,.val (.int k a) :: cs,.val (.int k' b) :: ds=>if k=k' then (eqX ks cs ds).map (X.bAnd (X.iEq a b)) else none
 | .bool :: ks,.val (.bool a) :: cs,.val (.bool b) :: ds=>(eqX ks cs ds).map (X.bAnd (X.bEq a b))
 | .str :: ks,.val (.string a) :: cs,.val (.string b) :: ds=>(eqX ks cs ds).map (X.bAnd (X.sEq a b))
 | _,_,_=>none
def elemsX (H:zz) (k:Nat):AV→Option (List AV)
 | .isl k' es=>if Nat.beq k k' then some es else none
 | .sl b k' lo len=>if Nat.beq k k' then (xj H b k).map fun es=>X.partA es lo len else none
 | .val (.slice none 0 0)=>some []
 | _=>none
def elemsSX (H:zz) (k:Nat) (x:AV):Option (List AV):=match x with
 | .val (.string s)=>if Nat.beq k 1 then some (X.bytA s) else none
 | x=>elemsX X H k x
def tV (H:zz) (k:Nat):AV→Cd
 | .sl b _ lo len=>match xj H b k with
  | some es=>.nle (X.addN lo len) (X.lenN es)
  | none=>.bb false
 | _=>.tt
def elems2X (H:zz) (k:Nat):AV→Option (List AV)
 | .slc b k' lo len _=>if Nat.beq k k' then (xj H b k).map fun es=>X.partA es lo len else none
 | x=>elemsX X H k x
def elems2OkX (H:zz) (k:Nat):AV→Cd
 | .sl b _ lo len | .slc b _ lo len _=>match xj H b k with
  | some es=>.nle (X.addN lo len) (X.lenN es)
  | none=>.bb false
 | _=>.tt
def opX (o:AOp) (F:AFr) (H:zz):AnsX :=
 match o with
 | .mv x=>xp (x.ev G F) H
 | .box x=>some (.one (x.ev G F).cells,.ptr H.length 0,H++[.cells (x.ev G F).cells])
 | .bslice k xs=>some (.fit k (xs.map (·.ev G F)),.sl H.length k 0 xs.length,H++[.arr k (xs.map (·.ev G F))])
 | .bin op x y=>binX X op (x.ev G F) (y.ev G F) H
 | .eqb neq x y=>match x.ev G F,y.ev G F with
  | .val (.bool a),.val (.bool b)=>xp (.val (.bool (if neq then X.bNe a b else X.bEq a b))) H
  | _,_=>none
 | .eqst neq ks x y=>match x.ev G F,y.ev G F with
  | .agg cs,.agg ds=>match eqX X ks cs ds with
   | some b=>xp (.val (.bool (if neq then X.bNot b else b))) H
   | none=>none
  | _,_=>none
 | .eqnil neq x y=>match y.ev G F,x.ev G F with
  | .val (.slice none 0 0),.val (.slice none _ _)=>xp (.val (.bool (if neq then false else true))) H
  | .val (.slice none 0 0),.slc ..=>xp (.val (.bool (if neq then true else false))) H
  | _,_=>none
 | .un op x=>match op,x.ev G F with
  | .not,.val (.bool b)=>xp (.val (.bool (X.bNot b))) H
  | .neg,.val (.int k a)=>xp (.val (.int k (X.iNeg k a))) H
  | _,_=>none
 | .cvi k x=>match x.ev G F with
  | .val (.int _ a)=>xp (.val (.int k (X.iCvt k a))) H
  | _=>none
 | .cvs x=>match x.ev G F with
  | .val (.int _ a)=>xp (.val (.string (X.encR a))) H
  | _=>none
 | .tob x=>match x.ev G F with
  | .val (.string s)=>xp (.isl 1 (X.bytA s)) H
  | _=>none
 | .ld k agg x=>match x.ev G F with
  | .iptr cs=>match vm cs 0 k agg with
   | some v=>xp v H
   | none=>none
  | .ptr b off=>match cellsOf H b with
   | some cs=>match vm cs off k agg with
    | some v=>xp v H
    | none=>none
   | none=>none
  | .eptr b k' i j=>match xj H b k' with
   | some es=>match vm (X.atN es i).cells j k agg with
    | some v=>some (.nlt i (X.lenN es),v,H)
    | none=>none
   | none=>none
  | _=>none
 | .st k x v=>match x.ev G F with
  | .ptr b off=>match cellsOf H b with
   | some cs=>some (vQ (tG (Nat.ble 1 k && Nat.beq (v.ev G F).cells.length k && Nat.ble (off+k) cs.length)) (.one (v.ev G F).cells),.undef,H.set b (.cells (ul cs off (v.ev G F).cells)))
   | none=>none
  | .eptr b k' i j=>match xj H b k' with
   | some es =>
    if Nat.beq k k' && Nat.beq j 0 then
     some (vQ (tG (Nat.ble 1 k && Nat.beq (v.ev G F).cells.length k)) (.and (.nlt i (X.lenN es)) (.one (v.ev G F).cells)),.undef,H.set b (.arr k' (X.setA es i (v.ev G F))))
    else
     some (vQ (tG (Nat.ble 1 k && Nat.beq (v.ev G F).cells.length k && Nat.ble (j+k) k')) (.and (.nlt i (X.lenN es)) (.one (v.ev G F).cells)),.undef,H.set b (.arr k' (X.setA es i (.agg (ul (X.atN es i).cells j (v.ev G F).cells)))))
   | none=>none
  | _=>none
 | .slc k x lo hi=>match zE G F lo,zE G F hi,x.ev G F with
  | some l,some h,.isl k' es=>if Nat.beq k k' then
   some (.cut (l.getD 0) (h.getD (X.lenA es)) (X.lenA es),.isl k (X.cutA es (l.getD 0) (h.getD (X.lenA es))),H) else none
  | some l,some h,.sl b k' lo' len=>if Nat.beq k k' then
   some (.cut (l.getD 0) (h.getD (X.iOf len)) (X.iOf len),.sl b k (X.idxN lo' (l.getD 0)) (X.lenCut (l.getD 0) (h.getD (X.iOf len))),H) else none
  | some l,some h,.slc b k' lo' len cap=>if Nat.beq k k' then
   some (.cut2 (l.getD 0) (h.getD (X.iOf len)) (X.iOf len) (X.iOf cap),.slc b k (X.idxN lo' (l.getD 0)) (X.lenCut (l.getD 0) (h.getD (X.iOf len))) (X.subN cap (l.getD 0)),H) else none
  | some l,some h,.val (.slice none 0 0)=>some (.nilc (l.getD 0) (h.getD 0),.val (.slice none 0 0),H)
  | _,_,_=>none
 | .slc3 k x lo hi m=>match zE G F lo,zE G F (some hi),zE G F (some m),x.ev G F with
  | some l,some (some h),some (some mm),.sl b k' lo' len=>if Nat.beq k k' then
   some (.and (.nilc (l.getD 0) 0) (.and (.cut 0 h mm) (.and (.cut 0 mm (X.iOf len)) (.ps (X.iOf len)))),.slc b k lo' (X.natOf h) (X.natOf mm),H) else none
  | some l,some (some h),some (some mm),.val (.slice none 0 0)=>some (.and (.nilc (l.getD 0) h) (.nilc mm 0),.val (.slice none 0 0),H)
  | some l,some (some h),some (some mm),.isl k' es=>if Nat.beq k k' then
   some (.and (.nilc (l.getD 0) 0) (.and (.cut 0 h mm) (.cut 0 mm (X.lenA es))),.isl k (X.cutA es 0 h),H) else none
  | _,_,_,_=>none
 | .slcs x lo hi=>match zE G F lo,zE G F hi,x.ev G F with
  | some l,some h,.val (.string s)=>some (.cut (l.getD 0) (h.getD (X.sLen s)) (X.sLen s),.val (.string (X.sCut s (l.getD 0) (h.getD (X.sLen s)))),H)
  | _,_,_=>none
 | .ia k x i=>match x.ev G F,i.ev G F with
  | .isl k' es,.val (.int _ n)=>if Nat.beq k k' then some (.inB n (X.lenA es),.iptr (X.atA es n).cells,H) else none
  | .sl b k' lo len,.val (.int _ n)=>if Nat.beq k k' then some (.inB n (X.iOf len),.eptr b k (X.idxN lo n) 0,H) else none
  | .slc b k' lo len _,.val (.int _ n)=>if Nat.beq k k' then some (.inB n (X.iOf len),.eptr b k (X.idxN lo n) 0,H) else none
  | _,_=>none
 | .iaA k len x i=>match x.ev G F,i.ev G F with
  | .ptr b o,.val (.int _ n)=>some (tG (decide (0≤n∧n<(len:Int))),.ptr b (o+n.toNat * k),H)
  | .iptr cs,.val (.int _ n)=>some (.inB n (len:Int),.iptr (X.rowA cs n k),H)
  | _,_=>none
 | .ixS x i=>match x.ev G F,i.ev G F with
  | .val (.string s),.val (.int _ n)=>some (.inB n (X.sLen s),.val (.int .u8 (X.sAt s n)),H)
  | _,_=>none
 | .len x=>match x.ev G F with
  | .isl _ es=>xp (.val (.int .i64 (X.lenA es))) H
  | .sl _ _ _ len=>xp (.val (.int .i64 (X.iOf len))) H
  | .slc _ _ _ len _=>xp (.val (.int .i64 (X.iOf len))) H
  | .val (.slice _ len _)=>xp (.val (.int .i64 len)) H
  | _=>none
 | .cap x=>match x.ev G F with
  | .slc _ _ _ _ c=>xp (.val (.int .i64 (X.iOf c))) H
  | .val (.slice none _ c)=>xp (.val (.int .i64 c)) H
  | _=>none
 | .lens x=>match x.ev G F with
  | .val (.string s)=>xp (.val (.int .i64 (X.sLen s))) H
  | _=>none
 | .app k bytes s x=>match elemsSX X H k (x.ev G F) with
  | some new=>match s.ev G F with
   | .val (.slice none 0 0)=>some (vQ (tV X H k (x.ev G F)) (.and (.fit k new) (.small (X.lenN new) bytes)),.sl H.length k 0 (X.lenN new),H++[.arr k new])
   | .sl b k' lo len=>match xj H b k with
    | some es=>some (vQ (tV X H k (x.ev G F)) (vQ (tG (Nat.beq k k')) (.and (.neq (X.addN lo len) (X.lenN es)) (.and (.fit k new) (.small (X.addN len (X.lenN new)) bytes)))),
     .sl H.length k 0 (X.addN len (X.lenN new)),H.set b .dead++[.arr k (X.catA (X.dropA es lo) new)])
    | none=>none
   | .slc b k' lo len cap=>match xj H b k with
    | some es=>some (vQ (tV X H k (x.ev G F)) (vQ (tG (Nat.beq k k')) (.and (.nle (X.addN lo len) (X.lenN es)) (.and (.fit k new) (.and (.small (X.addN len (X.lenN new)) bytes) (.and (.nlt cap (X.addN len (X.lenN new))) (.fit k (X.partA es lo len))))))),
     .sl H.length k 0 (X.addN len (X.lenN new)),H++[.arr k (X.catA (X.partA es lo len) new)])
    | none=>none
   | _=>none
  | none=>none
 | .copy k d s=>match elems2X X H k (s.ev G F),ownOf (d.ev G F) with
  | some new,some (b,k',lo,len)=>match xj H b k with
   | some es=>some (vQ (tG (Nat.beq k k')) (vQ (elems2OkX X H k (s.ev G F)) (.and (.nle (X.addN lo len) (X.lenN es)) (.fit k (X.partA new 0 (X.minN (X.lenN new) len))))),
    .val (.int .i64 (X.iOf (X.minN (X.lenN new) len))),H.set b (.arr k (X.putA es lo (X.minN (X.lenN new) len) new)))
   | none=>none
  | _,_=>none
 | .appz k bytes zero s n=>match n.ev G F,s.ev G F with
  | .val (.int .i64 m),.val (.slice none 0 0)=>some (vQ (tG (zero.cells.all AV.one && Nat.beq zero.cells.length k)) (.and (.ps m) (.small (X.natOf m) bytes)),.sl H.length k 0 (X.natOf m),H++[.arr k (X.repA m zero)])
  | .val (.int .i64 m),.slc b k' lo len cap=>match xj H b k with
   | some es=>some (vQ (tG (Nat.beq k k' && zero.cells.all AV.one && Nat.beq zero.cells.length k)) (.and (.and (.nle (X.addN lo len) (X.lenN es)) (.fit k (X.partA es lo len))) (.and (.ps m) (.and (.nlt cap (X.addN len (X.natOf m))) (.small (X.addN len (X.natOf m)) bytes)))),
    .sl H.length k 0 (X.addN len (X.natOf m)),H++[.arr k (X.catA (X.partA es lo len) (X.repA m zero))])
   | none=>none
  | _,_=>none
 | .mkmap=>xp (.amap H.length) (H++[.amap []])
 | .bnew t=>xp (.ptr H.length 0) (H++[.cells [.bsh t H.length false,.val (.slice none 0 0)]])
 | .mlook st zero m x ok=>match sR H (m.ev G F) with
  | some (_,es)=>some (tG (rX st (x.ev G F) && X.mOk st es (x.ev G F)),(if ok then .tup [X.mGet st es (x.ev G F) zero,.val (.bool (X.mHas st es (x.ev G F)))] else X.mGet st es (x.ev G F) zero),H)
  | none=>none
 | .mput st m x v=>match sR H (m.ev G F) with
  | some (b,es)=>some (tG (rX st (x.ev G F) && X.mOk st es (x.ev G F)),.undef,H.set b (.amap (X.mPut st es (x.ev G F) (v.ev G F))))
  | none=>none
 | .appb e bytes s x=>match x.ev G F with
  | .val (.string str)=>match s.ev G F with
   | .val (.slice none 0 0)=>some (.and (.nlt 0 (X.lenN (X.bytA str))) (.small (X.lenN (X.bytA str)) bytes),.bsl e H.length (X.lenN (X.bytA str)),H++[.arr 1 (X.bytA str)])
   | .bsl e' b n=>match xj H b 1 with
    | some es=>some (vQ (tG (Nat.beq e' e)) (.and (.neq n (X.lenN es)) (.small (X.addN n (X.lenN (X.bytA str))) bytes)),.bsl e H.length (X.addN n (X.lenN (X.bytA str))),H.set b .dead++[.arr 1 (X.catA es (X.bytA str))])
    | none=>none
   | _=>none
  | _=>none
 | .mx xs=>match (xs.map (·.ev G F):List AV) with
  | [.val (.int k a),.val (.int k' b)]=>if k=k' then xp (.val (.int k (X.iMax a b))) H else none
  | _=>none
 | .mn xs=>match (xs.map (·.ev G F):List AV) with
  | [.val (.int k a),.val (.int k' b)]=>if k=k' then xp (.val (.int k (X.iMin a b))) H else none
  | _=>none
 | .mkslice k bytes zero l c=>match l.ev G F,c.ev G F with
  | .val (.int .i64 n),.val (.int .i64 m)=>some (vQ (tG (zero.cells.all AV.one && Nat.beq zero.cells.length k)) (.mk n m bytes),.sl H.length k 0 (X.natOf n),H++[.arr k (X.repA n zero)])
  | _,_=>none
 | o=>match zF G o F H with
  | some (b,r)=>some (tG b,r)
  | none=>none
end
theorem ev1 {G:Nat→AV} {o:AOp} {F:AFr} {H H1:zz} {b:Bool} {v:AV} (h:zr G o F H=some (b,v,H1)) (hb:b=true):zF G o F H=some (true,v,H1):=by
 subst hb;exact evalOp_some1 h
theorem ev2 {G:Nat→AV} {o:AOp} {F:AFr} {H H1:zz} {b:Bool} {v:AV} (h0:zr G o F H=none) (h:zj G o F H=some (b,v,H1)) (hb:b=true):zF G o F H=some (true,v,H1):=by
 subst hb;simp only [zF,h0,h]
theorem binX_spec {G:Nat→AV} {op:BinOp} {x y:Opd} {F:AFr} {H H1:zz} {c:Cd} {v:AV} (h:binX std op (x.ev G F) (y.ev G F) H=some (c,v,H1)) (hc:c.ok):zF G (.bin op x y) F H=some (true,v,H1):=by
 have e:zr G (.bin op x y) F H=wa op (x.ev G F) (y.ev G F) H:=rfl
 unfold binX at h
 split at h
 · rename_i k a k' b hx hy
   split at h
   · simp only [Option.some.injEq,Prod.mk.injEq] at h
     obtain ⟨rfl,rfl,rfl⟩:=h
     refine ev2 (b:=decide (0≤b)) ?_ ?_ (decide_eq_true hc)
     · rw [e,hx,hy]
       unfold wa
       by_cases hk:k=k'
       · simp [hk,rW]
       · simp [hk]
     · simp only [zj,hx,hy,s8];rfl
   · rename_i hns
     split at h
     · rename_i hk
       subst hk
       cases op with
       | shr=>exact absurd rfl hns
       | quo=>simp only [Option.some.injEq,Prod.mk.injEq] at h;obtain ⟨rfl,rfl,rfl⟩:=h;exact ev1 (b:=!(b == 0)) (by rw [e,hx,hy];unfold wa;simp only [if_true];rfl) (by simpa [Cd.ok] using hc)
       | rem=>simp only [Option.some.injEq,Prod.mk.injEq] at h;obtain ⟨rfl,rfl,rfl⟩:=h;exact ev1 (b:=!(b == 0)) (by rw [e,hx,hy];unfold wa;simp only [if_true];rfl) (by simpa [Cd.ok] using hc)
       | _=>first
        | (simp [cmpX] at h;done)
        | (simp only [xp,cmpX,Option.some.injEq,Prod.mk.injEq] at h;obtain ⟨rfl,rfl,rfl⟩:=h;exact ev1 (b:=true) (by rw [e,hx,hy];unfold wa;simp only [if_true,rW,ans];rfl) rfl)
     · cases h
 · rename_i a b hx hy
   cases op with
   | add=>simp only [Option.some.injEq,Prod.mk.injEq] at h;obtain ⟨rfl,rfl,rfl⟩:=h;exact ev1 (b:=decide (a.size+b.size≤9223372036854775807)) (by rw [e,hx,hy];rfl) (decide_eq_true hc)
   | eql=>simp only [xp,Option.some.injEq,Prod.mk.injEq] at h;obtain ⟨rfl,rfl,rfl⟩:=h;exact ev1 (b:=true) (by rw [e,hx,hy];rfl) rfl
   | neq=>simp only [xp,Option.some.injEq,Prod.mk.injEq] at h;obtain ⟨rfl,rfl,rfl⟩:=h;exact ev1 (b:=true) (by rw [e,hx,hy];rfl) rfl
   | _=>simp at h
 · cases h
theorem eqX_eq : ∀ (ks:List LK) (cs ds:List AV),eqX std ks cs ds=xE ks cs ds
 | [],cs,ds=>by simp [eqX,xE]
 | k :: ks,cs,ds=>by
  unfold eqX
  split
  · contradiction
  · rename_i e
    cases e
    simp only [xE,eqX_eq]
    rfl
  · rename_i e
    cases e
    simp only [xE,eqX_eq]
    rfl
  · rename_i e
    cases e
    simp only [xE,eqX_eq]
    rfl
  · rename_i h1 h2 h3
    unfold xE
    split
    · contradiction
    · exact (h1 _ _ _ _ _ _ _ (by assumption) rfl rfl).elim
    · exact (h2 _ _ _ _ _ (by assumption) rfl rfl).elim
    · exact (h3 _ _ _ _ _ (by assumption) rfl rfl).elim
    · rfl
theorem elemsSX_eq (H:zz) (k:Nat) (v:AV):elemsSX std H k v=sL H k v:=by
 cases v with
 | val y=>cases y<;>rfl
 | _=>rfl
theorem elemsOkX_ok {H:zz} {k:Nat} {v:AV} (h:(tV std H k v).ok):wY H k v=true:=by
 cases v with
 | sl b k' lo len =>
  simp only [tV] at h
  simp only [wY]
  cases ha:xj H b k with
  | none=>rw [ha] at h;exact h
  | some es=>rw [ha] at h;exact decide_eq_true (p:=lo+len≤es.length) h
 | _=>rfl
theorem elems2X_eq (H:zz) (k:Nat) (v:AV):elems2X std H k v=elems2 H k v:=by
 cases v<;>rfl
theorem elems2OkX_ok {H:zz} {k:Nat} {v:AV} (h:(elems2OkX std H k v).ok):v7 H k v=true:=by
 cases v with
 | sl b k' lo len =>
  simp only [elems2OkX] at h
  simp only [v7,wY]
  cases ha:xj H b k with
  | none=>rw [ha] at h;exact h
  | some es=>rw [ha] at h;exact decide_eq_true (p:=lo+len≤es.length) h
 | slc b k' lo len cap =>
  simp only [elems2OkX] at h
  simp only [v7]
  cases ha:xj H b k with
  | none=>rw [ha] at h;exact h
  | some es=>rw [ha] at h;exact decide_eq_true (p:=lo+len≤es.length) h
 | _=>rfl
set_option maxHeartbeats 1000000 in
theorem vN {X:xg} (hX:X=std) {G:Nat→AV} {o:AOp} {F:AFr} {H H1:zz} {c:Cd} {v:AV} (h:opX X G o F H=some (c,v,H1)) (hc:c.ok):zF G o F H=some (true,v,H1):=by
 subst hX
 have fall:(match zF G o F H with | some (b,r)=>some (tG b,r) | none=>none)=some (c,v,H1)→zF G o F H=some (true,v,H1):=by
  intro h
  split at h
  · rename_i b r he
    simp only [Option.some.injEq,Prod.mk.injEq] at h
    obtain ⟨rfl,rfl⟩:=h
    rw [he,wj hc]
  · cases h
 cases o with
 | mv x=>simp only [opX,xp,Option.some.injEq,Prod.mk.injEq] at h;obtain ⟨rfl,rfl,rfl⟩:=h;exact ev1 (b:=true) rfl rfl
 | box x=>simp only [opX,Option.some.injEq,Prod.mk.injEq] at h;obtain ⟨rfl,rfl,rfl⟩:=h;exact ev1 (b:=(x.ev G F).cells.all AV.one) rfl hc
 | bslice k xs =>
  simp only [opX,Option.some.injEq,Prod.mk.injEq] at h
  obtain ⟨rfl,rfl,rfl⟩:=h
  have:(xs.all fun x=>Nat.beq (x.ev G F).cells.length k && (x.ev G F).cells.all AV.one)=wK k (xs.map (·.ev G F)):=by simp only [wK,List.all_map];rfl
  exact ev1 (b:=wK k (xs.map (·.ev G F))) (by simp only [zr,this]) (show wK k (xs.map (·.ev G F))=true from hc)
 | bin op x y=>exact binX_spec h hc
 | bnew t=>simp only [opX,xp,Option.some.injEq,Prod.mk.injEq] at h;obtain ⟨rfl,rfl,rfl⟩:=h;exact ev2 (b:=true) rfl rfl rfl
 | appb e bytes s x =>
  simp only [opX] at h
  split at h
  · rename_i str hx
    split at h
    · rename_i hs
      simp only [Option.some.injEq,Prod.mk.injEq] at h
      obtain ⟨rfl,rfl,rfl⟩:=h
      obtain ⟨h1,h2⟩:=hc
      exact ev2 (b:=decide (0<(byteA str).length) && decide ((byteA str).length * (bytes+1)≤35184372088832)) rfl (by simp only [zj,hx,hs];rfl) (by simp only [Bool.and_eq_true,decide_eq_true_eq];exact ⟨h1,h2⟩)
    · rename_i e' b n hs
      split at h
      · rename_i es he
        simp only [Option.some.injEq,Prod.mk.injEq] at h
        obtain ⟨rfl,rfl,rfl⟩:=h
        obtain ⟨h0,h1⟩:=yL hc
        obtain ⟨h1,h2⟩:=h1
        exact ev2 (b:=decide (e'=e) && decide (n=es.length) && decide ((n+(byteA str).length) * (bytes+1)≤35184372088832)) rfl (by simp only [zj,hx,hs,he];rfl) (by simp only [Bool.and_eq_true,decide_eq_true_eq];exact ⟨⟨Nat.eq_of_beq_eq_true (wj h0),h1⟩,h2⟩)
      · cases h
    · cases h
  · cases h
 | mkmap=>simp only [opX,xp,Option.some.injEq,Prod.mk.injEq] at h;obtain ⟨rfl,rfl,rfl⟩:=h;exact ev2 (b:=true) rfl rfl rfl
 | mlook st zero m x ok =>
  simp only [opX] at h
  split at h
  · rename_i b es hm
    simp only [Option.some.injEq,Prod.mk.injEq] at h
    obtain ⟨rfl,rfl,rfl⟩:=h
    exact ev2 (b:=rX st (x.ev G F) && mOkL st es (x.ev G F)) rfl (by simp only [zj,hm];rfl) (wj hc)
  · cases h
 | mput st m x v =>
  simp only [opX] at h
  split at h
  · rename_i b es hm
    simp only [Option.some.injEq,Prod.mk.injEq] at h
    obtain ⟨rfl,rfl,rfl⟩:=h
    exact ev2 (b:=rX st (x.ev G F) && mOkL st es (x.ev G F)) rfl (by simp only [zj,hm];rfl) (wj hc)
  · cases h
 | eqb neq x y =>
  simp only [opX] at h
  split at h
  · rename_i a b hx hy
    simp only [xp,Option.some.injEq,Prod.mk.injEq] at h
    obtain ⟨rfl,rfl,rfl⟩:=h
    exact ev1 (b:=true) (by simp only [zr,hx,hy,ans];rfl) rfl
  · cases h
 | eqst neq ks x y =>
  simp only [opX] at h
  split at h
  · rename_i a b hx hy
    rw [eqX_eq] at h
    split at h
    · rename_i t ht
      simp only [xp,Option.some.injEq,Prod.mk.injEq] at h
      obtain ⟨rfl,rfl,rfl⟩:=h
      exact ev1 (b:=true) (by simp only [zr,hx,hy,ht,ans];rfl) rfl
    · cases h
  · cases h
 | eqnil neq x y =>
  simp only [opX] at h
  split at h
  · rename_i hy hx
    simp only [xp,Option.some.injEq,Prod.mk.injEq] at h
    obtain ⟨rfl,rfl,rfl⟩:=h
    exact ev2 (b:=true) rfl (by simp only [zj,hx,hy,rp,ans];cases neq<;>rfl) rfl
  · rename_i hy hx
    simp only [xp,Option.some.injEq,Prod.mk.injEq] at h
    obtain ⟨rfl,rfl,rfl⟩:=h
    exact ev2 (b:=true) rfl (by simp only [zj,hx,hy,rp,ans];cases neq<;>rfl) rfl
  · cases h
 | un op x =>
  simp only [opX] at h
  split at h
  · rename_i b hx
    simp only [xp,Option.some.injEq,Prod.mk.injEq] at h
    obtain ⟨rfl,rfl,rfl⟩:=h
    exact ev1 (b:=true) (by simp only [zr,hx,ans];rfl) rfl
  · rename_i k a hx
    simp only [xp,Option.some.injEq,Prod.mk.injEq] at h
    obtain ⟨rfl,rfl,rfl⟩:=h
    exact ev1 (b:=true) (by simp only [zr,hx,ans];rfl) rfl
  · cases h
 | cvi k x =>
  simp only [opX] at h
  split at h
  · rename_i k' a hx
    simp only [xp,Option.some.injEq,Prod.mk.injEq] at h
    obtain ⟨rfl,rfl,rfl⟩:=h
    exact ev1 (b:=true) (by simp only [zr,hx,ans];rfl) rfl
  · cases h
 | cvs x =>
  simp only [opX] at h
  split at h
  · rename_i k' a hx
    simp only [xp,Option.some.injEq,Prod.mk.injEq] at h
    obtain ⟨rfl,rfl,rfl⟩:=h
    exact ev1 (b:=true) (by simp only [zr,hx,ans];rfl) rfl
  · cases h
 | tob x =>
  simp only [opX] at h
  split at h
  · rename_i s hx
    simp only [xp,Option.some.injEq,Prod.mk.injEq] at h
    obtain ⟨rfl,rfl,rfl⟩:=h
    exact ev1 (b:=true) (by simp only [zr,hx,ans];rfl) rfl
  · cases h
 | ld k agg x =>
  simp only [opX] at h
  split at h
  · rename_i cs hx
    split at h
    · rename_i u hu
      simp only [xp,Option.some.injEq,Prod.mk.injEq] at h
      obtain ⟨rfl,rfl,rfl⟩:=h
      exact ev1 (b:=true) (by simp only [zr,hx,hu,ans]) rfl
    · cases h
  · rename_i b off hx
    split at h
    · rename_i cs hcs
      split at h
      · rename_i u hu
        simp only [xp,Option.some.injEq,Prod.mk.injEq] at h
        obtain ⟨rfl,rfl,rfl⟩:=h
        exact ev1 (b:=true) (by simp only [zr,hx,hcs,hu,ans]) rfl
      · cases h
    · cases h
  · rename_i b k' i j hx
    split at h
    · rename_i es hes
      split at h
      · rename_i u hu
        simp only [Option.some.injEq,Prod.mk.injEq] at h
        obtain ⟨rfl,rfl,rfl⟩:=h
        exact ev1 (b:=decide (i<es.length)) (by simp only [zr,hx,hes,show vm (es.getD i .undef).cells j k agg=some u from hu]) (decide_eq_true hc)
      · cases h
    · cases h
  · cases h
 | st k x w =>
  simp only [opX] at h
  split at h
  · rename_i b off hx
    split at h
    · rename_i cs hcs
      simp only [Option.some.injEq,Prod.mk.injEq] at h
      obtain ⟨rfl,rfl,rfl⟩:=h
      obtain ⟨h1,h2⟩:=yL hc
      exact ev1 (b:=(Nat.ble 1 k && Nat.beq (w.ev G F).cells.length k && Nat.ble (off+k) cs.length) && (w.ev G F).cells.all AV.one) (by simp only [zr,hx,hcs]) (by rw [wj h1];exact h2)
    · cases h
  · rename_i b k' i j hx
    split at h
    · rename_i es hes
      split at h
      · rename_i hif
        simp only [Option.some.injEq,Prod.mk.injEq] at h
        obtain ⟨rfl,rfl,rfl⟩:=h
        obtain ⟨h1,h2,h3⟩:=yL hc
        have h1:=wj h1
        simp only [Bool.and_eq_true] at h1
        refine ev1 (b:=Nat.ble 1 k && decide (i<es.length) && Nat.beq (w.ev G F).cells.length k && (w.ev G F).cells.all AV.one) (by simp only [zr,hx,hes,if_pos hif];rfl) ?_
        simp only [Bool.and_eq_true,decide_eq_true_eq]
        exact ⟨⟨⟨h1.1,h2⟩,h1.2⟩,h3⟩
      · rename_i hif
        simp only [Option.some.injEq,Prod.mk.injEq] at h
        obtain ⟨rfl,rfl,rfl⟩:=h
        obtain ⟨h1,h2,h3⟩:=yL hc
        have h1:=wj h1
        simp only [Bool.and_eq_true] at h1
        refine ev1 (b:=Nat.ble 1 k && decide (i<es.length) && Nat.beq (w.ev G F).cells.length k && Nat.ble (j+k) k' && (w.ev G F).cells.all AV.one) (by simp only [zr,hx,hes,if_neg hif];rfl) ?_
        simp only [Bool.and_eq_true,decide_eq_true_eq]
        exact ⟨⟨⟨⟨h1.1.1,h2⟩,h1.1.2⟩,h1.2⟩,h3⟩
    · cases h
  · cases h
 | slc k x lo hi =>
  simp only [opX] at h
  split at h
  · rename_i l g k' es hl hg hx
    split at h
    · rename_i hk
      simp only [Option.some.injEq,Prod.mk.injEq] at h
      obtain ⟨rfl,rfl,rfl⟩:=h
      refine ev1 (b:=?_) (by simp only [zr,hl,hg,hx,if_pos hk];rfl) ?_
      exact decide_eq_true hc
    · cases h
  · rename_i l g b k' lo' len hl hg hx
    split at h
    · rename_i hk
      simp only [Option.some.injEq,Prod.mk.injEq] at h
      obtain ⟨rfl,rfl,rfl⟩:=h
      refine ev1 (b:=?_) (by simp only [zr,hl,hg,hx,if_pos hk];rfl) ?_
      exact decide_eq_true hc
    · cases h
  · rename_i l g b k' lo' len cap hl hg hx
    split at h
    · rename_i hk
      simp only [Option.some.injEq,Prod.mk.injEq] at h
      obtain ⟨rfl,rfl,rfl⟩:=h
      refine ev2 (b:=?_) (by simp only [zr,hl,hg,hx]) (by simp only [zj,hl,hg,hx,if_pos hk];rfl) ?_
      exact decide_eq_true hc
    · cases h
  · rename_i l g hl hg hx
    simp only [Option.some.injEq,Prod.mk.injEq] at h
    obtain ⟨rfl,rfl,rfl⟩:=h
    refine ev1 (b:=?_) (by simp only [zr,hl,hg,hx];rfl) ?_
    exact decide_eq_true hc
  · cases h
 | slc3 k x lo hi m =>
  simp only [opX] at h
  split at h
  · rename_i l g mm b k' lo' len hl hg hm hx
    split at h
    · rename_i hk
      simp only [Option.some.injEq,Prod.mk.injEq] at h
      obtain ⟨rfl,rfl,rfl⟩:=h
      obtain ⟨⟨h1,_⟩,⟨_,h2,h3⟩,⟨_,_,h4⟩,h5⟩:=hc
      refine ev2 (b:=?_) rfl (by simp only [zj,hl,hg,hm,hx,if_pos hk];rfl) ?_
      exact decide_eq_true ⟨h1,h2,h3,h4,h5⟩
    · cases h
  · rename_i l g mm hl hg hm hx
    simp only [Option.some.injEq,Prod.mk.injEq] at h
    obtain ⟨rfl,rfl,rfl⟩:=h
    obtain ⟨⟨h1,h2⟩,h3,_⟩:=hc
    refine ev2 (b:=?_) rfl (by simp only [zj,hl,hg,hm,hx];rfl) ?_
    exact decide_eq_true ⟨h1,h2,h3⟩
  · rename_i l g mm k' es hl hg hm hx
    split at h
    · rename_i hk
      simp only [Option.some.injEq,Prod.mk.injEq] at h
      obtain ⟨rfl,rfl,rfl⟩:=h
      obtain ⟨⟨h1,_⟩,⟨_,h2,h3⟩,⟨_,_,h4⟩⟩:=hc
      refine ev2 (b:=?_) rfl (by simp only [zj,hl,hg,hm,hx,if_pos hk];rfl) ?_
      exact decide_eq_true ⟨h1,h2,h3,h4⟩
    · cases h
  · cases h
 | slcs x lo hi =>
  simp only [opX] at h
  split at h
  · rename_i l g s hl hg hx
    simp only [Option.some.injEq,Prod.mk.injEq] at h
    obtain ⟨rfl,rfl,rfl⟩:=h
    refine ev1 (b:=?_) (by simp only [zr,hl,hg,hx];rfl) ?_
    exact decide_eq_true hc
  · cases h
 | ia k x i =>
  simp only [opX] at h
  split at h
  · rename_i k' es kk n hx hi
    split at h
    · rename_i hk
      simp only [Option.some.injEq,Prod.mk.injEq] at h
      obtain ⟨rfl,rfl,rfl⟩:=h
      refine ev1 (b:=?_) (by simp only [zr,hi,hx,if_pos hk];rfl) ?_
      exact decide_eq_true hc
    · cases h
  · rename_i b k' lo len kk n hx hi
    split at h
    · rename_i hk
      simp only [Option.some.injEq,Prod.mk.injEq] at h
      obtain ⟨rfl,rfl,rfl⟩:=h
      refine ev1 (b:=?_) (by simp only [zr,hi,hx,if_pos hk];rfl) ?_
      exact decide_eq_true hc
    · cases h
  · rename_i b k' lo len cap kk n hx hi
    split at h
    · rename_i hk
      simp only [Option.some.injEq,Prod.mk.injEq] at h
      obtain ⟨rfl,rfl,rfl⟩:=h
      refine ev2 (b:=?_) (by simp only [zr,hi,hx]) (by simp only [zj,hi,hx,if_pos hk];rfl) ?_
      exact decide_eq_true hc
    · cases h
  · cases h
 | iaA k len x i =>
  simp only [opX] at h
  split at h
  · rename_i b o kk n hx hi
    simp only [Option.some.injEq,Prod.mk.injEq] at h
    obtain ⟨rfl,rfl,rfl⟩:=h
    exact ev1 (b:=decide (0≤n∧n<(len:Int))) (by simp only [zr,hx,hi]) (wj hc)
  · rename_i cs kk n hx hi
    simp only [Option.some.injEq,Prod.mk.injEq] at h
    obtain ⟨rfl,rfl,rfl⟩:=h
    refine ev1 (b:=?_) (by simp only [zr,hi,hx];rfl) ?_
    exact decide_eq_true hc
  · cases h
 | ixS x i =>
  simp only [opX] at h
  split at h
  · rename_i s kk n hx hi
    simp only [Option.some.injEq,Prod.mk.injEq] at h
    obtain ⟨rfl,rfl,rfl⟩:=h
    refine ev1 (b:=?_) (by simp only [zr,hi,hx];rfl) ?_
    exact decide_eq_true hc
  · cases h
 | len x =>
  simp only [opX] at h
  split at h
  · rename_i k es hx
    simp only [xp,Option.some.injEq,Prod.mk.injEq] at h
    obtain ⟨rfl,rfl,rfl⟩:=h
    exact ev1 (b:=true) (by simp only [zr,hx,ans];rfl) rfl
  · rename_i b k lo len hx
    simp only [xp,Option.some.injEq,Prod.mk.injEq] at h
    obtain ⟨rfl,rfl,rfl⟩:=h
    exact ev1 (b:=true) (by simp only [zr,hx,ans];rfl) rfl
  · rename_i b k lo len cap hx
    simp only [xp,Option.some.injEq,Prod.mk.injEq] at h
    obtain ⟨rfl,rfl,rfl⟩:=h
    exact ev2 (b:=true) (by simp only [zr,hx]) (by simp only [zj,hx,ans];rfl) rfl
  · rename_i a n c hx
    simp only [xp,Option.some.injEq,Prod.mk.injEq] at h
    obtain ⟨rfl,rfl,rfl⟩:=h
    exact ev1 (b:=true) (by simp only [zr,hx,ans]) rfl
  · cases h
 | cap x =>
  simp only [opX] at h
  split at h
  · rename_i b k lo len cap hx
    simp only [xp,Option.some.injEq,Prod.mk.injEq] at h
    obtain ⟨rfl,rfl,rfl⟩:=h
    exact ev2 (b:=true) rfl (by simp only [zj,hx,ans];rfl) rfl
  · rename_i n c hx
    simp only [xp,Option.some.injEq,Prod.mk.injEq] at h
    obtain ⟨rfl,rfl,rfl⟩:=h
    exact ev2 (b:=true) rfl (by simp only [zj,hx,ans]) rfl
  · cases h
 | lens x =>
  simp only [opX] at h
  split at h
  · rename_i s hx
    simp only [xp,Option.some.injEq,Prod.mk.injEq] at h
    obtain ⟨rfl,rfl,rfl⟩:=h
    exact ev1 (b:=true) (by simp only [zr,hx,ans];rfl) rfl
  · cases h
 | app k bytes s x =>
  simp only [opX,elemsSX_eq] at h
  split at h
  · rename_i new hne
    split at h
    · rename_i hs
      simp only [Option.some.injEq,Prod.mk.injEq] at h
      obtain ⟨rfl,rfl,rfl⟩:=h
      obtain ⟨h1,h2,h3⟩:=yL hc
      refine ev1 (b:=wY H k (x.ev G F) && new.all (fun e=>Nat.beq e.cells.length k && e.cells.all AV.one) && decide (new.length * (bytes+1)≤35184372088832)) (by simp only [zr,hne,hs];rfl) ?_
      simp only [Bool.and_eq_true,decide_eq_true_eq]
      exact ⟨⟨elemsOkX_ok h1,h2⟩,h3⟩
    · rename_i b k' lo len hs
      split at h
      · rename_i es hes
        simp only [Option.some.injEq,Prod.mk.injEq] at h
        obtain ⟨rfl,rfl,rfl⟩:=h
        obtain ⟨h1,h2⟩:=yL hc
        obtain ⟨h2,h3,h4,h5⟩:=yL h2
        refine ev1 (b:=wY H k (x.ev G F) && Nat.beq k k' && decide (lo+len=es.length) && new.all (fun e=>Nat.beq e.cells.length k && e.cells.all AV.one) && decide ((len+new.length) * (bytes+1)≤35184372088832)) (by simp only [zr,hne,hs,hes];rfl) ?_
        simp only [Bool.and_eq_true,decide_eq_true_eq]
        exact ⟨⟨⟨⟨elemsOkX_ok h1,wj h2⟩,h3⟩,h4⟩,h5⟩
      · cases h
    · rename_i b k' lo len cap hs
      split at h
      · rename_i es hes
        simp only [Option.some.injEq,Prod.mk.injEq] at h
        obtain ⟨rfl,rfl,rfl⟩:=h
        obtain ⟨h1,h2⟩:=yL hc
        obtain ⟨h2,h3,h4,h5,h6,h7⟩:=yL h2
        refine ev1 (b:=wY H k (x.ev G F) && Nat.beq k k' && decide (lo+len≤es.length) && new.all (fun e=>Nat.beq e.cells.length k && e.cells.all AV.one) && decide ((len+new.length) * (bytes+1)≤35184372088832) && decide (cap<len+new.length) && ((es.drop lo).take len).all (fun e=>Nat.beq e.cells.length k && e.cells.all AV.one)) (by simp only [zr,hne,hs,hes];rfl) ?_
        simp only [Bool.and_eq_true,decide_eq_true_eq]
        exact ⟨⟨⟨⟨⟨⟨elemsOkX_ok h1,wj h2⟩,h3⟩,h4⟩,h5⟩,h6⟩,h7⟩
      · cases h
    · cases h
  · cases h
 | copy k d s =>
  simp only [opX,elems2X_eq] at h
  split at h
  · rename_i new b k' lo len hne hown
    split at h
    · rename_i es hes
      simp only [Option.some.injEq,Prod.mk.injEq] at h
      obtain ⟨rfl,rfl,rfl⟩:=h
      obtain ⟨h1,h2⟩:=yL hc
      obtain ⟨h2,h3,h4⟩:=yL h2
      refine ev2 (b:=Nat.beq k k' && v7 H k (s.ev G F) && decide (lo+len≤es.length) && wK k (new.take (min new.length len))) rfl (by simp only [zj,hne,hown,hes];rfl) ?_
      simp only [Bool.and_eq_true,decide_eq_true_eq]
      exact ⟨⟨⟨wj h1,elems2OkX_ok h2⟩,h3⟩,h4⟩
    · cases h
  · cases h
 | appz k bytes zero s n =>
  simp only [opX] at h
  split at h
  · rename_i m hn hs
    simp only [Option.some.injEq,Prod.mk.injEq] at h
    obtain ⟨rfl,rfl,rfl⟩:=h
    obtain ⟨h1,h2,h3⟩:=yL hc
    have h1:=wj h1
    simp only [Bool.and_eq_true] at h1
    refine ev2 (b:=decide (0<m∧m.toNat * (bytes+1)≤35184372088832) && zero.cells.all AV.one && Nat.beq zero.cells.length k) rfl (by simp only [zj,hn,hs];rfl) ?_
    simp only [Bool.and_eq_true,decide_eq_true_eq]
    exact ⟨⟨⟨h2,h3⟩,h1.1⟩,h1.2⟩
  · rename_i m b k' lo len cap hn hs
    split at h
    · rename_i es hes
      simp only [Option.some.injEq,Prod.mk.injEq] at h
      obtain ⟨rfl,rfl,rfl⟩:=h
      obtain ⟨h1,⟨h2,h3⟩,h4,h5,h6⟩:=yL hc
      have h1:=wj h1
      simp only [Bool.and_eq_true] at h1
      refine ev2 (b:=Nat.beq k k' && decide (lo+len≤es.length) && wK k ((es.drop lo).take len) && decide (0<m∧(cap:Int)<len+m∧(len+m.toNat) * (bytes+1)≤35184372088832) && zero.cells.all AV.one && Nat.beq zero.cells.length k) rfl (by simp only [zj,hn,hs,hes];rfl) ?_
      simp only [Bool.and_eq_true,decide_eq_true_eq]
      have h4':0<m:=h4
      have h5':cap<len+m.toNat:=h5
      exact ⟨⟨⟨⟨⟨h1.1.1,h2⟩,h3⟩,h4,by omega,h6⟩,h1.1.2⟩,h1.2⟩
    · cases h
  · cases h
 | mx xs =>
  simp only [opX] at h
  split at h
  · rename_i k a k' b hx
    split at h
    · rename_i hk
      simp only [xp,Option.some.injEq,Prod.mk.injEq] at h
      obtain ⟨rfl,rfl,rfl⟩:=h
      exact ev1 (b:=true) (by simp only [zr,hx,if_pos hk,ans];rfl) rfl
    · cases h
  · cases h
 | mn xs =>
  simp only [opX] at h
  split at h
  · rename_i k a k' b hx
    split at h
    · rename_i hk
      simp only [xp,Option.some.injEq,Prod.mk.injEq] at h
      obtain ⟨rfl,rfl,rfl⟩:=h
      exact ev1 (b:=true) (by simp only [zr,hx,if_pos hk,ans];rfl) rfl
    · cases h
  · cases h
 | mkslice k bytes zero l m =>
  simp only [opX] at h
  split at h
  · rename_i n n' hx hy
    simp only [Option.some.injEq,Prod.mk.injEq] at h
    obtain ⟨rfl,rfl,rfl⟩:=h
    obtain ⟨h1,h2⟩:=yL hc
    have h1:=wj h1
    simp only [Bool.and_eq_true] at h1
    refine ev1 (b:=decide (0≤n∧n=n'∧n.toNat * (bytes+1)≤35184372088832∧n≤35184372088832) && zero.cells.all AV.one && Nat.beq zero.cells.length k) (by simp only [zr,hx,hy];rfl) ?_
    simp only [Bool.and_eq_true,decide_eq_true_eq]
    exact ⟨⟨h2,h1.1⟩,h1.2⟩
  · cases h
 | _=>exact fall h
inductive KI where
 | seq (a:ACode)
 | block (id:Nat)
inductive Cur where
 | code (a:ACode)
 | ops (l:List AOper)
 | out (e:zL)
abbrev Cfg := Cd × Cur × List KI × AFr × zz
def rh (c:Cd) (r:Cfg):Cfg :=
 match r with
 | (c',r)=>(vQ c c',r)
def rR (t:Bool):Cd→Cd
 | .tt=>.tt
 | c=>.dep t c
theorem su {t:Bool} {c:Cd} (h:(rR t c).ok) (ht:t=true):c.ok:=by
 cases c<;>first | trivial | exact h ht
def inSeg (d:Nat) (b:Bool) (o:AOper):Bool :=
 match o.guard with
 | some (d',b')=>Nat.beq d d' && (b == b') && yJ o.op && (match o.dst with | some e=>!Nat.beq e d | none=>true)
 | none=>false
def s9 (d:Nat) (b:Bool):List AOper→Option (List AOper × AOper × List AOper)
 | []=>none
 | o :: l=>if inSeg d b o then (s9 d b l).map fun r=>(o :: r.1,r.2) else
  match o.guard,o.op with
  | none,.pick (.t d') _ _=>if Nat.beq d d' then some ([],o,l) else none
  | _,_=>none
def uG (X:xg) (G:Nat→AV):List AOper→AFr→zz→Option (Cd × AFr)
 | [],F,_=>some (.tt,F)
 | o :: l,F,H=>match opX X G o.op F H with
  | some (c,v,_)=>match uG X G l (F.set o.dst v) H with
   | some (c',F')=>some (vQ c c',F')
   | none=>none
  | none=>none
def yi : List AOper→AFr→AFr
 | [],F=>F
 | o :: l,F=>yi l (F.set o.dst .undef)
def v6 (X:xg) (G:Nat→AV) (b t:Bool) (o:AOper) (F1 F:AFr):Option AV :=
 match b,o.op with
 | true,.pick _ x (.c (.val (.bool false)))=>match x.ev G F1 with
  | .val (.bool x1)=>some (.val (.bool (X.bAnd t x1)))
  | _=>none
 | false,.pick _ (.c (.val (.bool true))) x=>match x.ev G F1 with
  | .val (.bool x1)=>some (.val (.bool (X.bOr t x1)))
  | _=>none
 | _,_=>none
def rb (F:AFr) (o:AOper):Bool:=o.op.opds.all fun x=>match x with
 | .t i=>match F.get i with
  | .undef=>false
  | _=>true
 | _=>true
def ug (X:xg) (G:Nat→AV):List AOper→AFr→zz→Option (Cd × AFr)
 | [],F,_=>some (.tt,F)
 | o :: l,F,H=>if rb F o then match opX X G o.op F H with
  | some (c,v,_)=>match ug X G l (F.set o.dst v) H with
   | some (c',F')=>some (vQ c c',F')
   | none=>none
  | none=>none else none
def rU (X:xg) (G:Nat→AV):Nat→List AOper→AFr→zz→Option (Cd × AFr)
 | 0,_,_,_=>none
 | _+1,[],F,_=>some (.tt,F)
 | f+1,o :: l,F,H =>
  match o.guard with
  | none=>if yJ o.op && rb F o then match opX X G o.op F H with
   | some (c,v,_)=>match rU X G f l (F.set o.dst v) H with
    | some (c',F')=>some (vQ c c',F')
    | none=>none
   | none=>none else none
  | some (d,b)=>match F.get d with
   | .val (.bool t)=>match s9 d b (o :: l) with
    | some (seg,p,rest)=>match ug X G seg F H with
     | some (c,F1)=>match v6 X G b t p F1 F with
      | some v=>match rU X G f rest ((yi seg F).set p.dst v) H with
       | some (c',F')=>some (vQ (rR (cond b t (X.bNot t)) c) c',F')
       | none=>none
      | none=>none
     | none=>none
    | none=>none
   | _=>none
def exec (X:xg) (G:Nat→AV):Nat→Nat→Cur→List KI→AFr→zz→Cfg
 | 0,_,cur,k,F,H=>(.tt,cur,k,F,H)
 | f+1,g,.out e,k,F,H =>
  match k with
  | []=>(.tt,.out e,[],F,H)
  | .seq b :: k=>match e with
   | .normal=>exec X G f g (.code b) k F H
   | e=>exec X G f g (.out e) k F H
  | .block id :: k=>match e with
   | .exit i=>exec X G f g (.out (cond (Nat.beq i id) .normal (.exit i))) k F H
   | e=>exec X G f g (.out e) k F H
 | f+1,g,.code a,k,F,H =>
  match a with
  | .skip=>exec X G f g (.out .normal) k F H
  | .ret=>exec X G f g (.out .ret) k F H
  | .exit i=>exec X G f g (.out (.exit i)) k F H
  | .seq a b=>exec X G f g (.code a) (.seq b :: k) F H
  | .block id a=>exec X G f g (.code a) (.block id :: k) F H
  | .reg ops=>exec X G f g (.ops ops) k F H
  | .cond c a b=>match g with
   | 0=>(.tt,.code (.cond c a b),k,F,H)
   | g+1=>match c.ev G F with
    | .val (.bool t)=>exec X G f g (.code (cond t a b)) k F H
    | _=>(.tt,.code (.cond c a b),k,F,H)
  | .draw ops=>cond (uZ ops (vL ops [])) (match rU X G 1000 ops F H with
   | some (c,F1)=>rh c (exec X G f g (.out .normal) k F1 H)
   | none=>(.tt,.code (.draw ops),k,F,H)) (.tt,.code (.draw ops),k,F,H)
  | a=>(.tt,.code a,k,F,H)
 | f+1,g,.ops [],k,F,H=>exec X G f g (.out .normal) k F H
 | f+1,g,.ops (o :: l),k,F,H =>
  match o.guard with
  | none=>match opX X G o.op F H with
   | some (c,v,H1)=>rh c (exec X G f g (.ops l) k (F.set o.dst v) H1)
   | none=>(.tt,.ops (o :: l),k,F,H)
  | some (d,b)=>match F.get d with
   | .val (.bool t)=>match s9 d b (o :: l) with
    | some (seg,p,rest)=>match uG X G seg F H with
     | some (c,F1)=>match v6 X G b t p F1 F with
      | some v=>rh (rR (cond b t (X.bNot t)) c) (exec X G f g (.ops rest) k ((yi seg F).set p.dst v) H)
      | none=>(.tt,.ops (o :: l),k,F,H)
     | none=>(.tt,.ops (o :: l),k,F,H)
    | none=>match g with
     | 0=>(.tt,.ops (o :: l),k,F,H)
     | g+1=>cond (t == b)
      (match opX X G o.op F H with
      | some (c,v,H1)=>rh c (exec X G f g (.ops l) k (F.set o.dst v) H1)
      | none=>(.tt,.ops (o :: l),k,F,H))
      (exec X G f g (.ops l) k (F.set o.dst (skV o)) H)
   | .val v=>match isU v with
    | true=>exec X G f g (.ops l) k (F.set o.dst (skV o)) H
    | false=>(.tt,.ops (o :: l),k,F,H)
   | _=>(.tt,.ops (o :: l),k,F,H)
theorem evalBin_quiet {op:BinOp} {x y:AV} {H H1:zz} {c:Bool} {v:AV} (h:wa op x y H=some (c,v,H1)):H1=H:=by
 unfold wa at h
 split at h
 · split at h
   · cases op<;>simp [ans,rW] at h<;>exact h.2.2.symm
   · cases h
 · cases op<;>simp [ans] at h<;>exact h.2.2.symm
 · cases h
theorem quiet_heap1 {G:Nat→AV} {o:AOp} {F:AFr} {H H1:zz} {c:Bool} {v:AV} (hq:yJ o=true) (h:zr G o F H=some (c,v,H1)):H1=H:=by
 cases o with
 | bin op x y=>exact evalBin_quiet h
 | _=>first | (cases hq;done) | (simp only [zr,ans] at h;(repeat' split at h)<;>first | (simp only [Option.some.injEq,Prod.mk.injEq] at h;exact h.2.2.symm) | cases h)
theorem quiet_heap2 {G:Nat→AV} {o:AOp} {F:AFr} {H H1:zz} {c:Bool} {v:AV} (hq:yJ o=true) (h:zj G o F H=some (c,v,H1)):H1=H:=by
 cases o with
 | bin op x y =>
  cases op with
  | shr =>
   simp only [zj,s8] at h
   split at h
   · simp only [Option.some.injEq,Prod.mk.injEq] at h;exact h.2.2.symm
   · cases h
  | _=>simp [zj] at h
 | _=>first | (cases hq;done) | (simp only [zj,ans] at h;(repeat' split at h)<;>first | (simp only [Option.some.injEq,Prod.mk.injEq] at h;exact h.2.2.symm) | cases h)
theorem vZ {G:Nat→AV} {o:AOp} {F:AFr} {H H1:zz} {c:Bool} {v:AV} (hq:yJ o=true) (h:zF G o F H=some (c,v,H1)):H1=H:=by
 rcases evalOp_some2 h with h | h
 · exact quiet_heap1 hq h
 · exact quiet_heap2 hq h
section
variable (E:Env) (n N:Nat) (Q:zL→AFr→zz→Prop)
def uo : List KI→zL→AFr→zz→Prop
 | [],e,F,H=>Q e F H
 | .seq b :: k,e,F,H=>match e with
  | .normal=>AWP E n N b F H (uo k)
  | e=>uo k e F H
 | .block id :: k,e,F,H=>match e with
  | .exit i=>if i=id then uo k .normal F H else uo k (.exit i) F H
  | e=>uo k e F H
def zl : Cur→List KI→AFr→zz→Prop
 | .code a,k,F,H=>AWP E n N a F H (uo E n N Q k)
 | .ops l,k,F,H=>AOps E n N l F H (uo E n N Q k .normal)
 | .out e,k,F,H=>uo E n N Q k e F H
end
section
variable {E:Env} {n N:Nat} {Q:zL→AFr→zz→Prop}
structure s4 (d:Nat) (b:Bool) (o:AOper):Prop where
 guard:o.guard=some (d,b)
 quiet:yJ o.op=true
 dst:o.dst≠some d
theorem inSeg_spec {d:Nat} {b:Bool} {o:AOper} (h:inSeg d b o=true):s4 d b o:=by
 unfold inSeg at h
 cases hg:o.guard with
 | none=>rw [hg] at h;cases h
 | some p =>
  obtain ⟨d',b'⟩:=p
  rw [hg] at h
  simp only [Bool.and_eq_true] at h
  obtain ⟨⟨⟨h1,h2⟩,h3⟩,h4⟩:=h
  have hd:=Nat.eq_of_beq_eq_true h1
  have hb:b=b':=by simpa using h2
  subst hd hb
  exact ⟨hg,h3,fun hd=>by rw [hd] at h4;simp [Nat.beq_refl] at h4⟩
theorem segOf_spec {d:Nat} {b:Bool}:∀ {l:List AOper} {seg:List AOper} {p:AOper} {rest:List AOper},s9 d b l=some (seg,p,rest)→l=seg++p :: rest∧(∀ o∈seg,s4 d b o)∧p.guard=none∧∃ x y,p.op=.pick (.t d) x y
 | [],_,_,_,h=>by cases h
 | o :: l,seg,p,rest,h=>by
  unfold s9 at h
  by_cases hi:inSeg d b o=true
  · rw [if_pos hi] at h
    obtain ⟨⟨seg',p',rest'⟩,hr,he⟩:=Option.map_eq_some_iff.1 h
    cases he
    obtain ⟨e1,e2,e3⟩:=segOf_spec hr
    refine ⟨by rw [e1];rfl,fun o' ho'=>?_,e3⟩
    rcases List.mem_cons.1 ho' with rfl | ho'
    · exact inSeg_spec hi
    · exact e2 o' ho'
  · rw [if_neg hi] at h
    split at h
    · rename_i d' x y hg hop
      by_cases hc:Nat.beq d d'=true
      · rw [if_pos hc] at h
        have hd:=Nat.eq_of_beq_eq_true hc
        subst hd
        cases h
        exact ⟨rfl,(fun o ho=>by cases ho),hg,x,y,hop⟩
      · rw [if_neg hc] at h;cases h
    · cases h
theorem AOps.weak {l:List AOper} {F Fb:AFr} {H:zz} {Q:AFr→zz→Prop} (hw:∀ t,Fb.get t=F.get t∨Fb.get t=.undef) (h:AOps E n N l Fb H Q):AOps E n N l F H Q:=by
 intro ops li hl K w tmps T ds k cs h1 h2 h3
 refine h ops li hl K w tmps T ds k cs h1 ⟨h2.1,fun t=>?_⟩ h3
 rcases hw t with e | e
 · rw [e];exact h2.2 t
 · rw [e];exact .undef _
theorem seg_run {X:xg} (hXs:X=std) {d:Nat} {b t:Bool} (htb:(t == b)=true) {rest:List AOper} {H:zz} {Q:AFr→zz→Prop} {F1:AFr}:∀ (seg:List AOper) (F:AFr) (c:Cd),(∀ o∈seg,s4 d b o)→F.get d=.val (.bool t)→uG X E.G seg F H=some (c,F1)→c.ok →
 (F1.get d=.val (.bool t)→AOps E n N rest F1 H Q)→AOps E n N (seg++rest) F H Q
 | [],F,c,_,hd,hr,hc,h=>by simp [uG] at hr;obtain ⟨_,rfl⟩:=hr;exact h hd
 | o :: seg,F,c,hs,hd,hr,hc,h=>by
  obtain ⟨g1,g2,g3⟩:=hs o List.mem_cons_self
  simp only [uG] at hr
  split at hr
  · rename_i c0 v H1 hop
    split at hr
    · rename_i c' F' hr'
      simp only [Option.some.injEq,Prod.mk.injEq] at hr
      obtain ⟨e1,e2⟩:=hr
      subst e1 e2
      have hc:=yL hc
      have hop:=vN hXs hop hc.1
      have hH:=vZ g2 hop
      subst hH
      exact wm (by rw [g1];simp only [zH,hd,htb]) hop rfl (seg_run hXs htb seg _ _ (fun o' ho'=>hs o' (List.mem_cons_of_mem _ ho')) (by rw [AFr.get_set,if_neg g3];exact hd) hr' hc.2 h)
    · cases hr
  · cases hr
theorem seg_skip {d:Nat} {b t:Bool} (htb:(t == b)=false) {rest:List AOper} {H:zz} {Q:AFr→zz→Prop}:∀ (seg:List AOper) (F:AFr),(∀ o∈seg,s4 d b o)→F.get d=.val (.bool t) →
 ((yi seg F).get d=.val (.bool t)→AOps E n N rest (yi seg F) H Q)→AOps E n N (seg++rest) F H Q
 | [],F,_,hd,h=>h hd
 | o :: seg,F,hs,hd,h=>by
  obtain ⟨g1,g2,g3⟩:=hs o List.mem_cons_self
  exact aops_skip (by rw [g1];simp only [zH,hd,htb]) (seg_skip htb seg _ (fun o' ho'=>hs o' (List.mem_cons_of_mem _ ho')) (by rw [AFr.get_set,if_neg g3];exact hd) h)
theorem seg_weak {X:xg} {G:Nat→AV} {H:zz} {F1:AFr}:∀ (seg:List AOper) (F Fb:AFr) (c:Cd),(∀ t,Fb.get t=F.get t∨Fb.get t=.undef)→uG X G seg F H=some (c,F1)→∀ t,(yi seg Fb).get t=F1.get t∨(yi seg Fb).get t=.undef
 | [],F,Fb,c,hw,hr,t=>by simp [uG] at hr;obtain ⟨_,rfl⟩:=hr;exact hw t
 | o :: seg,F,Fb,c,hw,hr,t=>by
  simp only [uG] at hr
  split at hr
  · rename_i c0 v H1 hop
    split at hr
    · rename_i c' F' hr'
      simp only [Option.some.injEq,Prod.mk.injEq] at hr
      obtain ⟨e1,e2⟩:=hr
      subst e2
      refine seg_weak seg _ _ _ (fun t=>?_) hr' t
      rw [AFr.get_set,AFr.get_set]
      split
      · exact .inr rfl
      · exact hw t
    · cases hr
  · cases hr
theorem wd_bAnd (a b:Bool):std.bAnd a b=(a && b):=rfl
theorem wd_bOr (a b:Bool):std.bOr a b=(a || b):=rfl
theorem seg_sound {X:xg} (hXs:X=std) {d:Nat} {b t:Bool} {ops seg rest:List AOper} {p:AOper} {F F1:AFr} {H:zz} {Q:AFr→zz→Prop} {c:Cd} {v:AV} (hd:F.get d=.val (.bool t)) (hs:s9 d b ops=some (seg,p,rest)) (hr:uG X E.G seg F H=some (c,F1)) (hv:v6 X E.G b t p F1 F=some v)
 (hc:(rR (cond b t (X.bNot t)) c).ok) (h:AOps E n N rest ((yi seg F).set p.dst v) H Q):AOps E n N ops F H Q:=by
 obtain ⟨rfl,hok,hpg,x,y,hop⟩:=segOf_spec hs
 have hweak:∀ t',((yi seg F).set p.dst v).get t'=(F1.set p.dst v).get t'∨((yi seg F).set p.dst v).get t'=.undef:=by
  intro t'
  rw [AFr.get_set,AFr.get_set]
  split
  · exact .inl rfl
  · exact seg_weak seg F F c (fun t=>.inl rfl) hr t'
 unfold v6 at hv
 rw [hop] at hv
 cases b with
 | true =>
  cases t with
  | true =>
   have hc':c.ok:=su hc (by subst hXs;rfl)
   refine seg_run hXs rfl seg F c hok hd hr hc' fun hd1=>wm (by rw [hpg];rfl) (c:=true) (v:=v) (H1:=H) ?_ rfl (AOps.weak hweak h)
   rw [hop]
   split at hv
   · rename_i x' y' heq
     cases heq
     split at hv
     · rename_i x1 hX
       cases hv
       simp only [zF,zr,show Opd.ev E.G F1 (.t d)=.val (.bool true) from hd1,ans,cond_true,hX,hXs,wd_bAnd,Bool.true_and]
     · cases hv
   · contradiction
   · cases hv
  | false =>
   refine seg_skip rfl seg F hok hd fun hd1=>wm (by rw [hpg];rfl) (c:=true) (v:=v) (H1:=H) ?_ rfl h
   rw [hop]
   split at hv
   · rename_i x' y' heq
     cases heq
     split at hv
     · rename_i x1 hX
       cases hv
       simp only [zF,zr,Opd.ev,hd1,ans,cond_false,hXs,wd_bAnd,Bool.false_and]
     · cases hv
   · contradiction
   · cases hv
 | false =>
  cases t with
  | false =>
   have hc':c.ok:=su hc (by subst hXs;rfl)
   refine seg_run hXs rfl seg F c hok hd hr hc' fun hd1=>wm (by rw [hpg];rfl) (c:=true) (v:=v) (H1:=H) ?_ rfl (AOps.weak hweak h)
   rw [hop]
   split at hv
   · contradiction
   · rename_i x' y' heq
     cases heq
     split at hv
     · rename_i x1 hX
       cases hv
       simp only [zF,zr,show Opd.ev E.G F1 (.t d)=.val (.bool false) from hd1,ans,cond_false,hX,hXs,wd_bOr,Bool.false_or]
     · cases hv
   · cases hv
  | true =>
   refine seg_skip rfl seg F hok hd fun hd1=>wm (by rw [hpg];rfl) (c:=true) (v:=v) (H1:=H) ?_ rfl h
   rw [hop]
   split at hv
   · contradiction
   · rename_i x' y' heq
     cases heq
     split at hv
     · rename_i x1 hX
       cases hv
       simp only [zF,zr,Opd.ev,hd1,ans,cond_true,hXs,wd_bOr,Bool.true_or]
     · cases hv
   · cases hv
def Weak (F F0:AFr):Prop:=∀ t,F.get t=F0.get t∨F.get t=.undef
theorem Weak.set {F F0:AFr} (h:Weak F F0) (d:Option Nat) (v:AV):Weak (F.set d v) (F0.set d v):=fun t=>by
 rw [AFr.get_set,AFr.get_set];split
 · exact .inl rfl
 · exact h t
theorem Weak.ev {G:Nat→AV} {F F0:AFr} (h:Weak F F0) {o:AOper} (hd:rb F o=true):∀ x∈o.op.opds,x.ev G F=x.ev G F0:=by
 intro x hx
 have:=List.all_eq_true.1 hd x hx
 cases x with
 | t i =>
  rcases h i with e | e
  · exact e
  · simp only [e] at this;cases this
 | _=>rfl
theorem Weak.val {G:Nat→AV} {F F0:AFr} (h:Weak F F0) {x:Opd} {v:Value} (hx:x.ev G F=.val v):x.ev G F0=.val v:=by
 cases x with
 | t i =>
  rcases h i with e | e
  · exact e.symm.trans hx
  · have hx':F.get i=.val v:=hx
    rw [e] at hx';cases hx'
 | _=>exact hx
theorem segD_run {X:xg} (hXs:X=std) {E:Env} {H:zz} {d:Nat} {b t:Bool} (htb:(t == b)=true):∀ (seg:List AOper) (F F0 F1:AFr) (c:Cd),(∀ o∈seg,s4 d b o)→F0.get d=.val (.bool t)→Weak F F0→ug X E.G seg F H=some (c,F1)→c.ok →
 ∃ F1',QR E H seg F0 F1'∧Weak F1 F1'∧F1'.get d=.val (.bool t)
 | [],F,F0,F1,c,_,hd,hw,hr,hc=>by simp [ug] at hr;obtain ⟨_,rfl⟩:=hr;exact ⟨F0,.nil _,hw,hd⟩
 | o :: seg,F,F0,F1,c,hs,hd,hw,hr,hc=>by
  obtain ⟨g1,g2,g3⟩:=hs o List.mem_cons_self
  unfold ug at hr
  by_cases hdf:rb F o=true
  · rw [if_pos hdf] at hr
    split at hr
    · rename_i c0 v H1 hop
      split at hr
      · rename_i c' F' hr'
        simp only [Option.some.injEq,Prod.mk.injEq] at hr
        obtain ⟨e1,e2⟩:=hr
        subst e1 e2
        have hc:=yL hc
        have hop:=vN hXs hop hc.1
        rw [yG (hw.ev hdf)] at hop
        have hH:=vZ g2 hop
        rw [hH] at hop
        obtain ⟨F1',a1,a2,a3⟩:=segD_run hXs htb seg _ (F0.set o.dst v) _ _ (fun o' ho'=>hs o' (List.mem_cons_of_mem _ ho')) (by rw [AFr.get_set,if_neg g3];exact hd) (hw.set _ _) hr' hc.2
        exact ⟨F1',.op (by rw [g1];simp only [zH,hd,htb]) hop a1,a2,a3⟩
      · cases hr
    · cases hr
  · rw [if_neg hdf] at hr;cases hr
theorem segD_skip {E:Env} {H:zz} {d:Nat} {b t:Bool} (htb:(t == b)=false):∀ (seg:List AOper) (F F0:AFr),(∀ o∈seg,s4 d b o)→F0.get d=.val (.bool t)→Weak F F0 →
 QR E H seg F0 (yi seg F0)∧Weak (yi seg F) (yi seg F0)∧(yi seg F0).get d=.val (.bool t)
 | [],F,F0,_,hd,hw=>⟨.nil _,hw,hd⟩
 | o :: seg,F,F0,hs,hd,hw=>by
  obtain ⟨g1,g2,g3⟩:=hs o List.mem_cons_self
  obtain ⟨a1,a2,a3⟩:=segD_skip (E:=E) (H:=H) htb seg (F.set o.dst .undef) (F0.set o.dst .undef) (fun o' ho'=>hs o' (List.mem_cons_of_mem _ ho')) (by rw [AFr.get_set,if_neg g3];exact hd) (hw.set _ _)
  exact ⟨.skip (by rw [g1];simp only [zH,hd,htb]) a1,a2,a3⟩
theorem segD_weak {X:xg} {G:Nat→AV} {H:zz} {F1:AFr}:∀ (seg:List AOper) (F Fb:AFr) (c:Cd),Weak Fb F→ug X G seg F H=some (c,F1)→Weak (yi seg Fb) F1
 | [],F,Fb,c,hw,hr=>by simp [ug] at hr;obtain ⟨_,rfl⟩:=hr;exact hw
 | o :: seg,F,Fb,c,hw,hr=>by
  unfold ug at hr
  by_cases hdf:rb F o=true
  · rw [if_pos hdf] at hr
    split at hr
    · rename_i c0 v H1 hop
      split at hr
      · rename_i c' F' hr'
        simp only [Option.some.injEq,Prod.mk.injEq] at hr
        obtain ⟨e1,e2⟩:=hr
        subst e2
        refine segD_weak seg _ _ _ (fun t=>?_) hr'
        rw [AFr.get_set,AFr.get_set]
        split
        · exact .inr rfl
        · exact hw t
      · cases hr
    · cases hr
  · rw [if_neg hdf] at hr;cases hr
theorem Weak.trans {F F1 F2:AFr} (a:Weak F F1) (b:Weak F1 F2):Weak F F2:=fun t=>by
 rcases a t with e | e
 · rw [e];exact b t
 · exact .inr e
theorem chosen_run {X:xg} (hXs:X=std) {G:Nat→AV} {H:zz} {b t:Bool} {p:AOper} {d:Nat} {x y:Opd} {F1 F F1':AFr} {v:AV} (htb:(t == b)=true) (hop:p.op=.pick (.t d) x y) (hv:v6 X G b t p F1 F=some v) (hw:Weak F1 F1') (hd:F1'.get d=.val (.bool t)):zF G p.op F1' H=some (true,v,H):=by
 unfold v6 at hv
 rw [hop] at hv ⊢
 cases b with
 | true =>
  cases t with
  | true =>
   split at hv
   · rename_i x' y' heq
     cases heq
     split at hv
     · rename_i x1 hX
       cases hv
       simp only [zF,zr,show Opd.ev G F1' (.t d)=.val (.bool true) from hd,ans,cond_true,hw.val hX,hXs,wd_bAnd,Bool.true_and]
     · cases hv
   · contradiction
   · cases hv
  | false=>cases htb
 | false =>
  cases t with
  | true=>cases htb
  | false =>
   split at hv
   · contradiction
   · rename_i x' y' heq
     cases heq
     split at hv
     · rename_i x1 hX
       cases hv
       simp only [zF,zr,show Opd.ev G F1' (.t d)=.val (.bool false) from hd,ans,cond_false,hw.val hX,hXs,wd_bOr,Bool.false_or]
     · cases hv
   · cases hv
theorem chosen_skip {X:xg} (hXs:X=std) {G:Nat→AV} {H:zz} {b t:Bool} {p:AOper} {d:Nat} {x y:Opd} {F1 F F1':AFr} {v:AV} (htb:(t == b)=false) (hop:p.op=.pick (.t d) x y) (hv:v6 X G b t p F1 F=some v) (hd:F1'.get d=.val (.bool t)):zF G p.op F1' H=some (true,v,H):=by
 unfold v6 at hv
 rw [hop] at hv ⊢
 cases b with
 | true =>
  cases t with
  | false =>
   split at hv
   · rename_i x' y' heq
     cases heq
     split at hv
     · rename_i x1 hX
       cases hv
       simp only [zF,zr,Opd.ev,hd,ans,cond_false,hXs,wd_bAnd,Bool.false_and]
     · cases hv
   · contradiction
   · cases hv
  | true=>cases htb
 | false =>
  cases t with
  | false=>cases htb
  | true =>
   split at hv
   · contradiction
   · rename_i x' y' heq
     cases heq
     split at hv
     · rename_i x1 hX
       cases hv
       simp only [zF,zr,Opd.ev,hd,ans,cond_true,hXs,wd_bOr,Bool.true_or]
     · cases hv
   · cases hv
theorem runQ_sound {X:xg} (hXs:X=std) {E:Env} {H:zz}:∀ (f:Nat) (l:List AOper) (F F0 Fs:AFr) (c:Cd),Weak F F0→rU X E.G f l F H=some (c,Fs)→c.ok→∃ F1,QR E H l F0 F1∧Weak Fs F1
 | 0,l,F,F0,Fs,c,hw,hr,hc=>by cases hr
 | f+1,[],F,F0,Fs,c,hw,hr,hc=>by simp [rU] at hr;obtain ⟨_,rfl⟩:=hr;exact ⟨F0,.nil _,hw⟩
 | f+1,o :: l,F,F0,Fs,c,hw,hr,hc=>by
  unfold rU at hr
  split at hr
  · rename_i hg
    by_cases hdf:(yJ o.op && rb F o)=true
    · rw [if_pos hdf] at hr
      simp only [Bool.and_eq_true] at hdf
      split at hr
      · rename_i c0 v H1 hop
        split at hr
        · rename_i c' F' hr'
          simp only [Option.some.injEq,Prod.mk.injEq] at hr
          obtain ⟨e1,e2⟩:=hr
          subst e1 e2
          have hc:=yL hc
          have hop:=vN hXs hop hc.1
          rw [yG (hw.ev hdf.2)] at hop
          have hH:=vZ hdf.1 hop
          rw [hH] at hop
          obtain ⟨F1,a1,a2⟩:=runQ_sound hXs f l _ (F0.set o.dst v) _ _ (hw.set _ _) hr' hc.2
          exact ⟨F1,.op (by rw [hg];rfl) hop a1,a2⟩
        · cases hr
      · cases hr
    · rw [if_neg hdf] at hr;cases hr
  · rename_i d b hg
    split at hr
    · rename_i t ht
      split at hr
      · rename_i seg p rest hseg
        split at hr
        · rename_i c0 F1 hrun
          split at hr
          · rename_i v hv
            split at hr
            · rename_i c' F' hr'
              simp only [Option.some.injEq,Prod.mk.injEq] at hr
              obtain ⟨e1,e2⟩:=hr
              subst e1 e2
              have hc:=yL hc
              obtain ⟨e,hok,hpg,x,y,hop⟩:=segOf_spec hseg
              rw [e]
              have ht0:F0.get d=.val (.bool t):=hw.val (G:=E.G) (x:=.t d) ht
              have fin:∀ F1',QR E H seg F0 F1'→Weak ((yi seg F).set p.dst v) (F1'.set p.dst v)→zF E.G p.op F1' H=some (true,v,H)→∃ F2,QR E H (seg++p :: rest) F0 F2∧Weak F' F2:=by
               intro F1' q1 q2 q3
               obtain ⟨F2,b1,b2⟩:=runQ_sound hXs f rest _ _ _ _ q2 hr' hc.2
               exact ⟨F2,q1.append (.op (by rw [hpg];rfl) q3 b1),b2⟩
              cases htb:(t == b) with
              | true =>
               have hc0:c0.ok:=su hc.1 (by subst hXs;cases b<;>cases t<;>first | rfl | cases htb)
               obtain ⟨F1',a1,a2,a3⟩:=segD_run hXs htb seg F F0 F1 c0 hok ht0 hw hrun hc0
               exact fin F1' a1 (((segD_weak seg F F c0 (fun t=>.inl rfl) hrun).trans a2).set _ _) (chosen_run hXs htb hop hv a2 a3)
              | false =>
               obtain ⟨a1,a2,a3⟩:=segD_skip (E:=E) (H:=H) htb seg F F0 hok ht0 hw
               exact fin _ a1 (a2.set _ _) (chosen_skip hXs htb hop hv a3)
            · cases hr
          · cases hr
        · cases hr
      · cases hr
    · cases hr
theorem yj (hm:E.P.follows .mixedOrders=true) {X:xg} (hXs:X=std):∀ (f g:Nat) (cur:Cur) (k:List KI) (F:AFr) (H:zz) {c:Cd} {cur':Cur} {k':List KI} {F':AFr} {H':zz},exec X E.G f g cur k F H=(c,cur',k',F',H')→c.ok→zl E n N Q cur' k' F' H'→zl E n N Q cur k F H
 | 0,g,cur,k,F,H,c,cur',k',F',H',he,hc,h=>by simp only [exec] at he;cases he;exact h
 | f+1,g,.out e,k,F,H,c,cur',k',F',H',he,hc,h=>by
  cases k with
  | nil=>simp only [exec] at he;cases he;exact h
  | cons x k =>
   cases x with
   | seq b =>
    cases e with
    | normal=>exact yj hm hXs f g (.code b) k F H he hc h
    | exit i=>exact yj hm hXs f g (.out (.exit i)) k F H he hc h
    | ret=>exact yj hm hXs f g (.out .ret) k F H he hc h
   | block id =>
    cases e with
    | normal=>exact yj hm hXs f g (.out .normal) k F H he hc h
    | ret=>exact yj hm hXs f g (.out .ret) k F H he hc h
    | exit i =>
     have:=yj hm hXs f g _ k F H he hc h
     show (if i=id then uo E n N Q k .normal F H else uo E n N Q k (.exit i) F H)
     by_cases hi:i=id
     · subst hi;rw [if_pos rfl];rw [Nat.beq_refl] at this;exact this
     · have hb:Nat.beq i id=false:=by cases hbb:Nat.beq i id with
        | false=>rfl
        | true=>exact absurd (Nat.eq_of_beq_eq_true hbb) hi
       rw [if_neg hi];rw [hb] at this;exact this
 | f+1,g,.code a,k,F,H,c,cur',k',F',H',he,hc,h=>by
  cases a with
  | skip=>exact awp_skip (yj hm hXs f g (.out .normal) k F H he hc h)
  | ret=>exact awp_ret (yj hm hXs f g (.out .ret) k F H he hc h)
  | exit i=>exact awp_exit (yj hm hXs f g (.out (.exit i)) k F H he hc h)
  | seq a b=>exact awp_seq (AWP.mono (yj hm hXs f g (.code a) (.seq b :: k) F H he hc h) fun e F H h=>by cases e<;>exact h)
  | block id a=>exact awp_block (AWP.mono (yj hm hXs f g (.code a) (.block id :: k) F H he hc h) fun e F H h=>by cases e<;>exact h)
  | reg ops=>exact awp_reg (yj hm hXs f g (.ops ops) k F H he hc h)
  | cond x a b =>
   cases g with
   | zero=>simp only [exec] at he;cases he;exact h
   | succ g =>
    simp only [exec] at he
    split at he
    · rename_i t ht
      refine awp_cond ht ?_
      have:=yj hm hXs f g _ k F H he hc h
      cases t<;>exact this
    · cases he;exact h
  | draw ops =>
   simp only [exec] at he
   cases hwf:uZ ops (vL ops []) with
   | false=>rw [hwf,cond_false] at he;cases he;exact h
   | true =>
    rw [hwf,cond_true] at he
    split at he
    · rename_i c0 F1 hr
      cases hx:exec X E.G f g (.out .normal) k F1 H with
      | mk c1 r =>
       obtain ⟨cur1,k1,F1',H1'⟩:=r
       rw [hx] at he
       simp only [rh,Prod.mk.injEq] at he
       obtain ⟨e1,rfl,rfl,rfl,rfl⟩:=he
       subst e1
       have hc:=yL hc
       obtain ⟨F2,q1,q2⟩:=runQ_sound hXs 1000 ops F F F1 c0 (fun t=>.inl rfl) hr hc.1
       have key:=yj hm hXs f g (.out .normal) k F1 H hx hc.2 h
       exact AWP.weakEnd (awp_drawq hm hwf q1 ⟨F1,q2,key⟩)
    · cases he;exact h
  | _=>simp only [exec] at he;cases he;exact h
 | f+1,g,.ops [],k,F,H,c,cur',k',F',H',he,hc,h=>aops_nil (yj hm hXs f g (.out .normal) k F H he hc h)
 | f+1,g,.ops (o :: l),k,F,H,c,cur',k',F',H',he,hc,h=>by
  have step:∀ {g:Nat} {c0:Cd} {v:AV} {H1:zz},zH F o.guard=some true→opX X E.G o.op F H=some (c0,v,H1)→rh c0 (exec X E.G f g (.ops l) k (F.set o.dst v) H1)=(c,cur',k',F',H')→zl E n N Q (.ops (o :: l)) k F H:=by
   intro g c0 v H1 hw ho he
   cases hx:exec X E.G f g (.ops l) k (F.set o.dst v) H1 with
   | mk c1 r =>
    obtain ⟨cur1,k1,F1,H1'⟩:=r
    rw [hx] at he
    simp only [rh,Prod.mk.injEq] at he
    obtain ⟨e1,rfl,rfl,rfl,rfl⟩:=he
    subst e1
    have hc:=yL hc
    exact wm hw (vN hXs ho hc.1) rfl (yj hm hXs f g (.ops l) k _ _ hx hc.2 h)
  simp only [exec] at he
  split at he
  · rename_i hg
    split at he
    · rename_i c0 v H1 ho
      exact step (by rw [hg];rfl) ho he
    · cases he;exact h
  · rename_i d b hg
    split at he
    · rename_i t ht
      split at he
      · rename_i seg p rest hseg
        split at he
        · rename_i c0 F1 hrun
          split at he
          · rename_i v hv
            cases hx:exec X E.G f g (.ops rest) k ((yi seg F).set p.dst v) H with
            | mk c1 r =>
             obtain ⟨cur1,k1,F1',H1'⟩:=r
             rw [hx] at he
             simp only [rh,Prod.mk.injEq] at he
             obtain ⟨e1,rfl,rfl,rfl,rfl⟩:=he
             subst e1
             have hc:=yL hc
             exact seg_sound hXs ht hseg hrun hv hc.1 (yj hm hXs f g (.ops rest) k _ _ hx hc.2 h)
          · cases he;exact h
        · cases he;exact h
      · split at he
        · cases he;exact h
        · by_cases htb:(t == b)=true
          · rw [htb,cond_true] at he
            split at he
            · rename_i c0 v H1 ho
              exact step (by rw [hg];simp only [zH,ht,htb]) ho he
            · cases he;exact h
          · have htb:(t == b)=false:=by cases hx:(t == b)<;>simp_all
            rw [htb,cond_false] at he
            exact aops_skipq (by rw [hg];simp only [zH,ht,htb]) (yj hm hXs f _ (.ops l) k _ _ he hc h)
    · rename_i v hnv hv
      split at he
      · rename_i hu
        exact aops_skipuq hg (by rw [hv,isU_spec hu]) (yj hm hXs f _ (.ops l) k _ _ he hc h)
      · cases he;exact h
    · cases he;exact h
theorem go (hm:E.P.follows .mixedOrders=true) {X:xg} (hXs:X=std) (g:Nat) {cur:Cur} {k:List KI} {F:AFr} {H:zz} {c:Cd} {cur':Cur} {k':List KI} {F':AFr} {H':zz} (he:exec X E.G 1000 g cur k F H=(c,cur',k',F',H')) (hc:c.ok) (h:zl E n N Q cur' k' F' H'):zl E n N Q cur k F H :=
 yj hm hXs 1000 g cur k F H he hc h
end
end Go.Am
end
section
namespace Go.Am
section
variable {E:Env} {n N:Nat} {Q:zL→AFr→zz→Prop} {k:List KI} {F:AFr} {H:zz}
theorem on_cond {x:Opd} {a b:ACode} {t:Bool} (hx:x.ev E.G F=.val (.bool t)) (h1:t=true→zl E n N Q (.code a) k F H) (h2:t=false→zl E n N Q (.code b) k F H):zl E n N Q (.code (.cond x a b)) k F H:=by
 refine awp_cond hx ?_
 cases t
 · exact h2 rfl
 · exact h1 rfl
theorem Ent.same {F':AFr} (h:∀ t,F.get t=F'.get t):Ent E n N F H F' H:=fun K w tmps h1 h2 h3=>⟨K,h1,⟨h2.1,fun t=>by rw [← h t];exact h2.2 t⟩,Ev.refl _ _ _ _ h3⟩
theorem AOps.ent {l:List AOper} {F':AFr} {H':zz} {Q:AFr→zz→Prop} (he:Ent E n N F H F' H') (h:AOps E n N l F' H' Q):AOps E n N l F H Q:=by
 intro ops li hl K w tmps T ds k cs h1 h2 h3
 obtain ⟨K1,g1,g2,ev1⟩:=he K w tmps h1 h2 h3
 obtain ⟨F2,H2,K2,w2,tmps2,q,a,b,ev2,x⟩:=h ops li hl K1 w tmps T ds k cs g1 g2 ev1.len
 exact ⟨F2,H2,K2,w2,tmps2,q,a,b,ev1.trans ev2,x⟩
theorem zG {o:AOper} {l:List AOper} {d:Nat} {b t:Bool} (_hg:o.guard=some (d,b)) (hx:F.get d=.val (.bool t)) (h1:t=true→zl E n N Q (.ops (o :: l)) k ((d,.val (.bool true)) :: F) H) (h2:t=false→zl E n N Q (.ops (o :: l)) k ((d,.val (.bool false)) :: F) H) :
 zl E n N Q (.ops (o :: l)) k F H:=by
 have same:Ent E n N F H ((d,.val (.bool t)) :: F) H:=Ent.same fun t'=>by
  have:=AFr.get_set F (some d) (.val (.bool t)) t'
  simp only [AFr.set] at this
  rw [this]
  split
  · rename_i h;cases h;exact hx
  · rfl
 refine AOps.ent same ?_
 cases t
 · exact h2 rfl
 · exact h1 rfl
theorem sG {cur:ACode} {F':AFr} {H':zz} (he:Ent E n N F H F' H') (h:zl E n N Q (.code cur) k F' H'):zl E n N Q (.code cur) k F H:=AWP.ent he h
theorem zh {o:AOper} {l:List AOper} {f:FuncId} {xs:List Opd} {args:List AV} {v:AV} (hg:o.guard=none) (ho:o.op=.call f xs) (ha:xs.map (·.ev E.G F)=args) (hc:PCall E f args v) (hcl:AV.closedL args=true)
 (h:zl E n N Q (.ops l) k (F.set o.dst v) H):zl E n N Q (.ops (o :: l)) k F H :=
 aops_pcall (by rw [hg];rfl) ho ha hc hcl h
def LoopQ (E:Env) (n N:Nat) {ι:Type} (inv:ι→AFr × zz) (μ:ι→Nat) (x:ι) (k:List KI) (Q:zL→AFr→zz→Prop) (e:zL) (F':AFr) (H':zz):Prop :=
 match e with
 | .normal=>∃ x',μ x'<μ x∧Ent E n N F' H' (inv x').1 (inv x').2
 | e=>uo E n N Q k e F' H'
theorem on_loop {ι:Type} {a:ACode} (inv:ι→AFr × zz) (μ:ι→Nat) (x0:ι) (h0:Ent E n N F H (inv x0).1 (inv x0).2) (round:∀ x,zl E n N (LoopQ E n N inv μ x k Q) (.code a) [] (inv x).1 (inv x).2):zl E n N Q (.code (.loop a)) k F H :=
 awp_loop inv μ x0 h0 fun x=>AWP.mono (round x) fun e F H h=>by cases e<;>exact h
def LoopP (E:Env) (n N:Nat) {ι:Type} (inv:ι→AFr × zz) (good:ι→Prop) (μ:ι→Nat) (x:ι) (k:List KI) (Q:zL→AFr→zz→Prop) (e:zL) (F':AFr) (H':zz):Prop :=
 match e with
 | .normal=>∃ x',good x'∧μ x'<μ x∧Ent E n N F' H' (inv x').1 (inv x').2
 | e=>uo E n N Q k e F' H'
theorem ze {ι:Type} {a:ACode} (inv:ι→AFr × zz) (good:ι→Prop) (μ:ι→Nat) (x0:ι) (g0:good x0) (h0:Ent E n N F H (inv x0).1 (inv x0).2)
 (round:∀ x,good x→zl E n N (LoopP E n N inv good μ x k Q) (.code a) [] (inv x).1 (inv x).2):zl E n N Q (.code (.loop a)) k F H :=
 on_loop (ι:={ x:ι // good x }) (fun x=>inv x.1) (fun x=>μ x.1) ⟨x0,g0⟩ h0 fun x=>AWP.mono (round x.1 x.2) fun e F H h=>by
  cases e with
  | normal=>obtain ⟨x',g,m,he⟩:=h;exact ⟨⟨x',g⟩,m,he⟩
  | _=>exact h
theorem zm {ι:Type} {inv:ι→AFr × zz} {good:ι→Prop} {μ:ι→Nat} {x:ι} (x':ι) (hg:good x') (hm:μ x'<μ x) (he:Ent E n N F H (inv x').1 (inv x').2):zl E n N (LoopP E n N inv good μ x k Q) (.out .normal) [] F H:=⟨x',hg,hm,he⟩
theorem zk {ι:Type} {inv:ι→AFr × zz} {good:ι→Prop} {μ:ι→Nat} {x:ι} {i:Nat} (h:zl E n N Q (.out (.exit i)) k F H):zl E n N (LoopP E n N inv good μ x k Q) (.out (.exit i)) [] F H:=h
theorem zf {ι:Type} {inv:ι→AFr × zz} {good:ι→Prop} {μ:ι→Nat} {x:ι} (h:zl E n N Q (.out .ret) k F H):zl E n N (LoopP E n N inv good μ x k Q) (.out .ret) [] F H:=h
end
def vC (rvs:List RV) (v:AV) (e:zL) (F':AFr) (H':zz):Prop :=
 match e with
 | .exit _=>False
 | _=>∃ vs,w7 F' H' rvs=some vs∧Fz H' (wP vs) v
theorem fn_body {E:Env} {f:FuncId} {fn:Func} {ac:ACode} {args:List AV} {v:AV} {n:Nat} {rvs:List RV} (hf:E.P.funcs[f]? = some fn) (hnm:(fn.name == "runtime.NumGoroutine")=false) (hb:fn.body.map (yF E.P n)=some ac) (hnt:fn.ntmps=n) (hrv:fn.results.toList.map (wE E.P)=rvs.map some) (hn:Nat.ble args.length n=true)
 (h:zl E n 0 (vC rvs v) (.code ac) [] (wL 0 args) []):PCall E f args v:=by
 subst hnt
 exact pcall_body hf hnm hb hrv (Nat.le_of_ble_eq_true hn) (AWP.mono h fun e F H h=>by cases e<;>exact h)
theorem zP {E:Env} {n N:Nat} {rvs:List RV} {v u:AV} {F:AFr} {H:zz} {vs:List AV} (h1:w7 F H rvs=some vs) (h2:wP vs=u) (h3:Fz H u v):zl E n N (vC rvs v) (.out .ret) [] F H:=⟨vs,h1,h2 ▸ h3⟩
theorem Fz.val {H:zz} {v v':Value} (h:v=v'):Fz H (.val v) (.val v'):=⟨[],trivial,h ▸ .refl _⟩
def FW (M:Nat) (F:AFr):AFr→Prop
 | []=>True
 | (d,v) :: r=>Wk M (F.get d) v∧FW M F r
theorem FW.spec {M:Nat} {F:AFr}:∀ {F':AFr},FW M F F'→∀ t,Wk M (F.get t) (F'.get t)
 | [],_,t=>by simp only [AFr.get];exact .undef _
 | (d,v) :: r,h,t=>by
  simp only [AFr.get]
  by_cases e:d=t
  · subst e;rw [Nat.beq_refl,cond_true];exact h.1
  · have hb:Nat.beq d t=false:=by cases hbb:Nat.beq d t with
     | false=>rfl
     | true=>exact absurd (Nat.eq_of_beq_eq_true hbb) e
    rw [hb,cond_false];exact FW.spec h.2 t
theorem yz {E:Env} {n N:Nat} {F F':AFr} {H:zz} (h:FW H.length F F'):Ent E n N F H F' H :=
 fun K _w _tmps h1 h2 h3=>⟨K,h1,⟨h2.1,fun t=>(h.spec t).rep (h2.2 t)⟩,Ev.refl _ _ _ _ h3⟩
theorem Wk.of {M:Nat} {v v':AV} (h:v=v'):Wk M v v':=h ▸ .refl _
theorem Wk.int {M:Nat} {k:IntKind} {a b:Int} (h:a=b):Wk M (.val (.int k a)) (.val (.int k b)):=h ▸ .refl _
theorem xc (σ:Nat→Sub):∀ (n:Nat) (v:AV),SizeOf.sizeOf v≤n→v.closed=true→v.sub σ=v:=by
 intro n
 induction n with
 | zero=>intro v hv;cases v<;>simp at hv<;>omega
 | succ n ih =>
  have lst:∀ (cs:List AV),SizeOf.sizeOf cs≤n→AV.closedL cs=true→AV.subL σ cs=cs:=by
   intro cs hc hcl
   rw [AV.subL_eq]
   conv=>rhs;rw [← List.map_id cs]
   exact List.map_congr_left fun c hm=>ih c (by have:=List.sizeOf_lt_of_mem hm;omega) (AV.closedL_mem hcl c hm)
  intro v hv hcl
  cases v<;>simp only [AV.sub]<;>simp at hv<;>first | rfl | (cases hcl;done) | (rw [lst _ (by omega) hcl]) | (simp only [AV.closed] at hcl;exact congrArg _ (ih _ (by omega) hcl))
theorem Wk.cl {M:Nat} {σ:Nat→Sub} {v:AV} (h:v.closed=true):Wk M (v.sub σ) v:=Wk.of (xc σ _ v (Nat.le_refl _) h)
structure MapBox where
 g:(α:Type)→(α→AV)→List α→List AV
 h:∀ α e l,g α e l=l.map e
theorem mapBox_ne : Nonempty MapBox:=⟨⟨fun _ e l=>l.map e,fun _ _ _=>rfl⟩⟩
noncomputable def zy {α:Type} (e:α→AV) (l:List α):List AV:=(Classical.choice mapBox_ne).g α e l
theorem zu {α:Type} (e:α→AV) (l:List α):zy e l=l.map e:=(Classical.choice mapBox_ne).h _ _ _
theorem zp {α:Type} (e:α→AV) (l:List α):(zy e l).length=l.length:=by rw [zu,List.length_map]
theorem yU {α:Type} {e:α→AV} (h:∀ x,(e x).closed=true) (l:List α):AV.closedL (zy e l)=true:=by rw [zu];exact AV.closedL_map e h l
theorem wrap64 {x:Int} (h1:-9223372036854775808≤x) (h2:x<9223372036854775808):IntKind.i64.wrap x=x:=by
 unfold IntKind.wrap
 simp [IntKind.bits,IntKind.signed]
 omega
end Go.Am
end
section
namespace Go.Am
def tU (L:List Nat) (m:Nat) (b:Nat):Nat:=if b<L.length then L.getD b 0 else b - L.length+m
def td (L:List Nat) (m:Nat):Nat→Sub:=fun b=>.to (tU L m b)
def vD (x:Nat):Nat→List Nat→Option Nat
 | _,[]=>none
 | i,y :: r=>cond (Nat.beq x y) (some i) (vD x (i+1) r)
def wD (L:List Nat):Nat→Sub:=fun x=>match vD x 0 L with
 | some j=>.to j
 | none=>.gone
theorem vj {x:Nat}:∀ {L:List Nat} {i j:Nat},vD x i L=some j→i≤j∧L[j - i]? = some x
 | [],i,j,h=>by cases h
 | y :: r,i,j,h=>by
  simp only [vD] at h
  cases hb:Nat.beq x y with
  | true =>
   rw [hb,cond_true] at h;cases h
   exact ⟨Nat.le_refl _,by simp [Nat.eq_of_beq_eq_true hb]⟩
  | false =>
   rw [hb,cond_false] at h
   obtain ⟨h1,h2⟩:=vj h
   refine ⟨by omega,?_⟩
   rw [show j - i=(j - (i+1))+1 by omega];simpa using h2
theorem posOf_none {x:Nat}:∀ {L:List Nat} {i:Nat},vD x i L=none→x∉L
 | [],i,_=>by simp
 | y :: r,i,h=>by
  simp only [vD] at h
  cases hb:Nat.beq x y with
  | true=>rw [hb,cond_true] at h;cases h
  | false =>
   rw [hb,cond_false] at h
   intro hm
   rcases List.mem_cons.1 hm with rfl | hm
   · rw [Nat.beq_refl] at hb;cases hb
   · exact posOf_none h hm
def x8 (H:zz) (L:List Nat) (H':zz):zz :=
 (List.range H.length).map (fun x=>match vD x 0 L with
  | some j=>(H'.getD j .dead).sub (td L H.length)
  | none=>H.getD x .dead)++(H'.drop L.length).map (AObj.sub (td L H.length))
theorem mergeH_len (H:zz) (L:List Nat) (H':zz):(x8 H L H').length=H.length+(H'.length - L.length):=by simp [x8]
theorem mergeH_lt {H:zz} {L:List Nat} {H':zz} {x:Nat} (hx:x<H.length):(x8 H L H')[x]? = some (match vD x 0 L with
 | some j=>(H'.getD j .dead).sub (td L H.length)
 | none=>H.getD x .dead):=by
 unfold x8
 rw [List.getElem?_append_left (by simpa using hx)]
 simp [hx]
theorem mergeH_ge {H:zz} {L:List Nat} {H':zz} {x:Nat} (hx:H.length≤x):(x8 H L H')[x]? = (H'[x - H.length+L.length]?).map (AObj.sub (td L H.length)):=by
 unfold x8
 rw [List.getElem?_append_right (by simpa using hx)]
 simp only [List.length_map,List.length_range,List.getElem?_map,List.getElem?_drop]
 rw [Nat.add_comm L.length]
theorem getElem?_getD {α:Type} {l:List α} {i:Nat} {x d:α} (h:l[i]? = some x):l.getD i d=x:=by simp [List.getD_eq_getElem?_getD,h]
def sQ (H:zz):Bool:=H.all fun o=>match o with | .ext _ _=>false | _=>true
theorem noExt_get {H:zz} (h:sQ H=true) {b j:Nat} {st:Bool}:H[b]?≠some (.ext j st):=fun hb=>by
 have:=List.all_eq_true.1 h _ (List.mem_of_getElem? hb)
 cases this
theorem ACall.frame {E:Env} {f:FuncId} {args:List AV} {Hl:zz} {R:AV→zz→Prop} (h:ACall E f args Hl R) {H:zz} {args':List AV} (L:List Nat) (hnd:L.Nodup) (hlt:∀ x∈L,x<H.length)
 (hHl:Hl=L.map fun x=>(H.getD x .dead).sub (wD L)) (hargs:args=args'.map (AV.sub (wD L))) (hx:sQ Hl=true:=by rfl) :
 ACall E f args' H fun v H2=>∃ v0 H',R v0 H'∧L.length≤H'.length∧v=v0.sub (td L H.length)∧H2=x8 H L H':=by
 intro K w ys hh hv
 have hn:Hl.length=L.length:=by rw [hHl,List.length_map]
 have hLj:∀ {j x:Nat},L[j]? = some x→x<H.length:=fun h=>hlt _ (List.mem_of_getElem? h)
 have hpos:∀ {j x:Nat},L[j]? = some x→vD x 0 L=some j:=by
  intro j x hj
  cases hp:vD x 0 L with
  | none=>exact absurd (List.mem_of_getElem? hj) (posOf_none hp)
  | some i =>
   obtain ⟨_,hi⟩:=vj hp
   rw [Nat.sub_zero] at hi
   rw [(List.getElem?_inj (List.getElem?_eq_some_iff.1 hi).1 hnd).1 (hi.trans hj.symm)]
 have hin:∀ {j x:Nat},L[j]? = some x→tU L H.length j=x:=by
  intro j x hj
  have:=(List.getElem?_eq_some_iff.1 hj).1
  rw [tU,if_pos this,getElem?_getD hj]
 let Kl:Ctx:=⟨fun j=>match L[j]? with | some x=>K.γ x | none=>none,K.I,fun _=>False,false⟩
 have hKl:∀ {j x:Nat},L[j]? = some x→Kl.γ j=K.γ x:=fun {j x} hj=>by show (match L[j]? with | some x=>K.γ x | none=>none)=_;rw [hj]
 have sok:sS E K w H (wD L) Kl Hl.length:=by
  refine ⟨fun b b' hb hs=>?_,fun b k es hb hs=>?_,fun b cs hb hs=>?_,fun b h=>h,fun b blk base hb h1 h2=>?_⟩
  · unfold wD at hs
    split at hs
    · rename_i j hp
      cases hs
      obtain ⟨_,hj⟩:=vj hp
      rw [Nat.sub_zero] at hj
      exact ⟨by rw [hn];exact (List.getElem?_eq_some_iff.1 hj).1,hKl hj⟩
    · cases hs
  · unfold wD at hs;split at hs<;>cases hs
  · unfold wD at hs;split at hs<;>cases hs
  · exfalso
    cases hp:vD b 0 L with
    | some j=>exact h1 j (by simp only [wD,hp])
    | none=>exact h2 (by simp only [wD,hp])
 have out:∀ v y,VRep K H.length w v y→VRep Kl Hl.length w (v.sub (wD L)) y:=fun v y hv=>vp hh sok _ v y (Nat.le_refl _) hv
 have hget:∀ {j:Nat} {o:AObj},Hl[j]? = some o→∃ (x:Nat) (o0:AObj),L[j]? = some x∧H[x]? = some o0∧o=o0.sub (wD L):=by
  intro j o hj
  rw [hHl,List.getElem?_map] at hj
  obtain ⟨x,hx,rfl⟩:=Option.map_eq_some_iff.1 hj
  have hxl:=hLj hx
  exact ⟨x,H.getD x .dead,hx,by simp [List.getD_eq_getElem?_getD,hxl],rfl⟩
 have hownl:∀ {blk:Nat},yb Kl Hl blk→∃ (j x:Nat),L[j]? = some x∧∃ o base,H[x]? = some o∧o.live∧K.γ x=some (blk,base):=by
  rintro blk (⟨j,o,base,h1,h2,h3⟩ | h)
  case inr=>exact h.elim
  obtain ⟨x,o0,g1,g2,rfl⟩:=hget h1
  exact ⟨j,x,g1,o0,base,g2,AObj.sub_live h2,by rw [← hKl g1];exact h3⟩
 have hHRl:HRep E Kl w Hl:=by
  refine ⟨fun j o hj=>?_,fun j j' o o' blk b1 b2 h1 h2 l1 l2 e1 e2=>?_,fun blk hb hi=>?_,hh.low,fun g=>?_,⟨fun _ _ h=>h,fun _ h=>h.elim,fun b j st hb=>absurd hb (noExt_get hx)⟩⟩
  · obtain ⟨x,o0,g1,g2,rfl⟩:=hget hj
    rw [hKl g1]
    exact tZ out (hh.obj x o0 g2)
  · obtain ⟨x,o0,g1,g2,rfl⟩:=hget h1
    obtain ⟨x',o0',g1',g2',rfl⟩:=hget h2
    rw [hKl g1] at e1;rw [hKl g1'] at e2
    have:=hh.inj x x' o0 o0' blk b1 b2 g2 g2' (AObj.sub_live l1) (AObj.sub_live l2) e1 e2
    subst this
    exact (List.getElem?_inj (List.getElem?_eq_some_iff.1 g1).1 hnd).1 (g1.trans g1'.symm)
  · obtain ⟨j,x,g1,o,base,g2,g3,g4⟩:=hownl hb
    exact hh.disj blk (.inl ⟨x,o,base,g2,g3,g4⟩) hi
  · exact VRep.mono (K:=K) (K':=Kl) (fun b hb=>absurd hb (Nat.not_lt_zero _)) (Nat.le_refl _) (fun _ h=>h) (fun _ _ _=>rfl) (fun b c ty fz h=>⟨c,fz,h,rfl⟩) (hh.glob g)
 have hvl:VReps Kl Hl.length w args ys:=by
  refine ⟨by rw [hargs,List.length_map];exact hv.1,fun i x y hx hy=>?_⟩
  rw [hargs,List.getElem?_map] at hx
  obtain ⟨x0,hx0,rfl⟩:=Option.map_eq_some_iff.1 hx
  exact out _ _ (hv.2 i x0 y hx0 hy)
 refine (h Kl w ys hHRl hvl).mono ?_
 rintro e w' ⟨v0,y,H',K1,rfl,hR,hh1,hv1,ev⟩
 have hlen:L.length≤H'.length:=by rw [← hn];exact ev.len
 let K2:Ctx:=⟨fun x=>if x<H.length then K.γ x else K1.γ (x - H.length+L.length),K1.I,K.B,K.e⟩
 have hK2in:∀ b,K2.γ (tU L H.length b)=K1.γ b:=by
  intro b
  show (if tU L H.length b<H.length then K.γ (tU L H.length b) else K1.γ (tU L H.length b - H.length+L.length))=K1.γ b
  by_cases hb:b<L.length
  · have hj:=List.getElem?_eq_getElem hb
    rw [hin hj,if_pos (hLj hj),← hKl hj]
    exact (ev.γ b (by rw [hn];exact hb)).symm
  · have e1:tU L H.length b=b - L.length+H.length:=by rw [tU,if_neg hb]
    rw [e1,if_neg (by omega),show b - L.length+H.length - H.length+L.length=b by omega]
 have hK2lt:∀ x,x<H.length→K2.γ x=K.γ x:=fun x hx=>by show (if x<H.length then _ else _)=_;rw [if_pos hx]
 have hinlt:∀ b,b<H'.length→tU L H.length b<(x8 H L H').length:=by
  intro b hb
  rw [mergeH_len]
  by_cases hbl:b<L.length
  · have hj:=List.getElem?_eq_getElem hbl
    rw [hin hj];have:=hLj hj;omega
  · rw [tU,if_neg hbl];omega
 have sok2:sS E K1 w' H' (td L H.length) K2 (x8 H L H').length:=by
  refine ⟨fun b b' hb hs=>?_,fun b k es hb hs=>?_,fun b cs hb hs=>?_,fun b h=>h,fun b blk base hb h1 h2=>?_⟩
  · cases hs;exact ⟨hinlt b hb,hK2in b⟩
  · cases hs
  · cases hs
  · exact absurd rfl (h1 _)
 have inn:∀ v y,VRep K1 H'.length w' v y→VRep K2 (x8 H L H').length w' (v.sub (td L H.length)) y:=fun v y hv=>vp hh1 sok2 _ v y (Nat.le_refl _) hv
 -- the blocks that the call was not given
 have hnot:∀ {x:Nat} {o:AObj} {blk base:Nat},x∉L→H[x]? = some o→o.live→K.γ x=some (blk,base)→¬ yb Kl Hl blk:=by
  intro x o blk base hx ho hl hg hb
  obtain ⟨j,x',g1,o',base',g2,g3,g4⟩:=hownl hb
  have:=hh.inj x x' o o' blk base base' ho g2 hl g3 hg g4
  subst this
  exact hx (List.mem_of_getElem? g1)
 have hmv:Mv K H.length w K2 (x8 H L H').length w':=by
  refine ⟨hK2lt,by rw [mergeH_len];omega,ev.I,fun b hb o=>?_,ev.cells⟩
  have hnb:¬ yb Kl Hl b:=fun hx=>hHRl.disj b hx hb
  exact yI (ev.frame b (hh.low b hb) hnb) o
 -- a live object of the new heap
 have src:∀ {x:Nat} {o:AObj} {blk base:Nat},(x8 H L H')[x]? = some o→o.live→K2.γ x=some (blk,base) →
  (∃ (b:Nat) (o':AObj),x=tU L H.length b∧H'[b]? = some o'∧o'.live∧K1.γ b=some (blk,base))∨(x∉L∧x<H.length∧H[x]? = some o∧K.γ x=some (blk,base)):=by
  intro x o blk base hx hl hg
  by_cases hlt':x<H.length
  · rw [mergeH_lt hlt'] at hx
    cases hp:vD x 0 L with
    | some j =>
     rw [hp] at hx
     simp only [Option.some.injEq] at hx
     obtain ⟨_,hj⟩:=vj hp
     rw [Nat.sub_zero] at hj
     have hjl:j<H'.length:=by have:=(List.getElem?_eq_some_iff.1 hj).1;omega
     have hoj:H'[j]? = some (H'.getD j .dead):=by simp [List.getD_eq_getElem?_getD,hjl]
     subst hx
     exact .inl ⟨j,_,(hin hj).symm,hoj,AObj.sub_live hl,by rw [← hK2in,hin hj];exact hg⟩
    | none =>
     rw [hp] at hx
     simp only [Option.some.injEq] at hx
     have:H[x]? = some (H.getD x .dead):=by simp [List.getD_eq_getElem?_getD,hlt']
     exact .inr ⟨posOf_none hp,hlt',by rw [this,hx],by rw [← hK2lt x hlt'];exact hg⟩
  · rw [mergeH_ge (by omega)] at hx
    obtain ⟨o',ho',rfl⟩:=Option.map_eq_some_iff.1 hx
    have e1:tU L H.length (x - H.length+L.length)=x:=by rw [tU,if_neg (by omega)];omega
    exact .inl ⟨_,o',e1.symm,ho',AObj.sub_live hl,by rw [← hK2in,e1];exact hg⟩
 have hown2:∀ {blk:Nat},ws K2 (x8 H L H') blk→ws K1 H' blk∨∃ (x:Nat) (o:AObj) (base:Nat),x∉L∧H[x]? = some o∧o.live∧K.γ x=some (blk,base):=by
  rintro blk ⟨x,o,base,h1,h2,h3⟩
  rcases src h1 h2 h3 with ⟨b,o',_,g1,g2,g3⟩ | ⟨g1,_,g2,g3⟩
  · exact .inl ⟨b,o',base,g1,g2,g3⟩
  · exact .inr ⟨x,o,base,g1,g2,h2,g3⟩
 have hownK1:∀ {blk:Nat},yb Kl Hl blk→ws K H blk:=fun hb=>by
  obtain ⟨j,x,g1,o,base,g2,g3,g4⟩:=hownl hb
  exact ⟨x,o,base,g2,g3,g4⟩
 have hownK:∀ {blk:Nat},yb Kl Hl blk→yb K H blk:=fun hb=>.inl (hownK1 hb)
 have hBn:∀ {blk:Nat},K.B blk→¬ yb Kl Hl blk:=fun hB hb=>hh.x.dis _ (hownK1 hb) hB
 have hown12:∀ blk,ws K2 (x8 H L H') blk→ws K H blk∨w.heap.size≤blk:=fun blk hb=>by
  rcases hown2 hb with hb | ⟨x,o,base,g1,g2,g3,g4⟩
  · exact (ev.own blk (.inl hb)).imp hownK1 id
  · exact .inl ⟨x,o,base,g2,g3,g4⟩
 have hKe:K1.e=false:=ev.e
 have hx2:XRep E K2 w' (x8 H L H'):=by
  refine hh.x.stay rfl ev.I (fun b hb=>?_) ev.cells ev.size hown12 (fun x j st hx=>?_)
  · rcases hb with hb | hb
    · exact ev.frame b (hh.x.low b hb) (hBn hb)
    · exact ev.frame b (hh.low b hb) fun hx=>hHRl.disj b hx hb
  · have no:∀ (i:Nat) (o:AObj) (τ:Nat→Sub),H'[i]? = some o→o.sub τ≠.ext j st:=fun i o τ hi he=>by
     cases o<;>cases he
     have:=(hh1.x.ext i j st hi).1
     rw [hKe] at this;cases this
    by_cases hlt':x<H.length
    · rw [mergeH_lt hlt'] at hx
      cases hp:vD x 0 L with
      | some i =>
       rw [hp] at hx
       simp only [Option.some.injEq] at hx
       obtain ⟨_,hj⟩:=vj hp
       rw [Nat.sub_zero] at hj
       have hjl:i<H'.length:=by have:=(List.getElem?_eq_some_iff.1 hj).1;omega
       exact absurd hx (no i _ _ (by simp [List.getD_eq_getElem?_getD,hjl]))
      | none =>
       rw [hp] at hx
       simp only [Option.some.injEq] at hx
       exact ⟨x,by rw [← hx];simp [List.getD_eq_getElem?_getD,hlt']⟩
    · rw [mergeH_ge (by omega)] at hx
      obtain ⟨o',ho',he⟩:=Option.map_eq_some_iff.1 hx
      exact absurd he (no _ o' _ ho')
 have hh2:HRep E K2 w' (x8 H L H'):=by
  refine ⟨fun x o hx=>?_,fun x x' o o' blk b1 b2 h1 h2 l1 l2 e1 e2=>?_,fun blk hb hi=>?_,hh1.low,fun g=>?_,hx2⟩
  · by_cases hlt':x<H.length
    · rw [mergeH_lt hlt'] at hx
      cases hp:vD x 0 L with
      | some j =>
       rw [hp] at hx
       simp only [Option.some.injEq] at hx
       obtain ⟨_,hj⟩:=vj hp
       rw [Nat.sub_zero] at hj
       have hjl:j<H'.length:=by have:=(List.getElem?_eq_some_iff.1 hj).1;omega
       have hoj:H'[j]? = some (H'.getD j .dead):=by simp [List.getD_eq_getElem?_getD,hjl]
       subst hx
       rw [show K2.γ x=K1.γ j by rw [← hK2in,hin hj]]
       exact tZ inn (hh1.obj j _ hoj)
      | none =>
       rw [hp] at hx
       simp only [Option.some.injEq] at hx
       have hox:H[x]? = some o:=by rw [← hx];simp [List.getD_eq_getElem?_getD,hlt']
       rw [hK2lt x hlt']
       refine hmv.orep (hh.obj x o hox) fun blk base hg hl=>?_
       exact ev.frame blk (yE hh (.inl ⟨x,o,base,hox,hl,hg⟩)) (hnot (posOf_none hp) hox hl hg)
    · rw [mergeH_ge (by omega)] at hx
      obtain ⟨o',ho',rfl⟩:=Option.map_eq_some_iff.1 hx
      have e1:tU L H.length (x - H.length+L.length)=x:=by rw [tU,if_neg (by omega)];omega
      rw [show K2.γ x=K1.γ (x - H.length+L.length) by rw [← hK2in,e1]]
      exact tZ inn (hh1.obj _ _ ho')
  · rcases src h1 l1 e1 with ⟨b,p,q1,q2,q3,q4⟩ | ⟨q1,q2,q3,q4⟩<;>rcases src h2 l2 e2 with ⟨b',p',r1,r2,r3,r4⟩ | ⟨r1,r2,r3,r4⟩
    · rw [q1,r1,hh1.inj b b' p p' blk b1 b2 q2 r2 q3 r3 q4 r4]
    · rcases ev.own blk (.inl ⟨b,p,b1,q2,q3,q4⟩) with hc | hc
      · exact absurd hc (hnot r1 r3 l2 r4)
      · have:=yE hh (.inl ⟨x',o',b2,r3,l2,r4⟩);omega
    · rcases ev.own blk (.inl ⟨b',p',b2,r2,r3,r4⟩) with hc | hc
      · exact absurd hc (hnot q1 q3 l1 q4)
      · have:=yE hh (.inl ⟨x,o,b1,q3,l1,q4⟩);omega
    · exact hh.inj x x' o o' blk b1 b2 q3 r3 l1 l2 q4 r4
  · rcases hb with hb | hb
    case inr =>
     rcases ev.I' blk hi with hc | hc | hc
     · exact hh.disj blk (.inr hb) hc
     · exact hBn hb hc
     · have:=hh.x.low blk hb;omega
    rcases hown2 hb with hb | ⟨x,o,base,g1,g2,g3,g4⟩
    · exact hh1.disj blk (.inl hb) hi
    · have hox:yb K H blk:=.inl ⟨x,o,base,g2,g3,g4⟩
      rcases ev.I' blk hi with hc | hc | hc
      · exact hh.disj blk hox hc
      · exact hnot g1 g2 g3 g4 hc
      · have:=yE hh hox;omega
  · exact VRep.mono (K:=K1) (K':=K2) (fun b hb=>absurd hb (Nat.not_lt_zero _)) (Nat.le_refl _) (fun _ h=>h) (fun _ _ _=>rfl) (fun b c ty fz h=>⟨c,fz,h,rfl⟩) (hh1.glob g)
 refine ⟨_,y,_,K2,rfl,⟨v0,H',hR,hlen,rfl,rfl⟩,hh2,inn _ _ hv1,⟨hK2lt,by rw [mergeH_len];omega,ev.I,fun b hb=>?_,fun b hb=>?_,fun b hb hno=>ev.frame b hb fun hx=>hno (hownK hx),ev.size,ev.cells,ev.loops,ev.os,ev.out,rfl⟩⟩
 · rcases ev.I' b hb with hc | hc | hc
   · exact .inl hc
   · exact .inr (.inl (hownK hc))
   · exact .inr (.inr hc)
 · rcases hb with hb | hb
   · exact (hown12 b hb).imp .inl id
   · exact .inl (.inr hb)
end Go.Am
end
section
namespace Go.Am
theorem zw (σ:Nat→Sub) {cs:List AV} (h:AV.closedL cs=true):AV.subL σ cs=cs:=by
 rw [AV.subL_eq]
 conv=>rhs;rw [← List.map_id cs]
 exact List.map_congr_left fun c hm=>xc σ _ c (Nat.le_refl _) (AV.closedL_mem h c hm)
theorem wg {a b:List AV} (ha:AV.closedL a=true) (hb:AV.closedL b=true):AV.closedL (a++b)=true :=
 AV.closedL_of fun c hc=>(List.mem_append.1 hc).elim (AV.closedL_mem ha c) (AV.closedL_mem hb c)
theorem zR {H:zz} {M:Nat} {σ:Nat→Sub} {τ:Nat→Option Nat} {b' b k:Nat} {es es':List AV} (hH:H[b]? = some (.arr k es)) (ht:τ b'=some b) (hs:σ b=.to b') (he:es=es') (hcl:AV.closedL es'=true):sM H M σ τ b' (.arr k es'):=by
 subst he
 refine .some b _ _ hH ht hs (.arr k es es (by rw [zw σ hcl];exact WkL.refl M es) fun i e e' h1 h2=>?_)
 rw [h1] at h2;cases h2;rfl
theorem zx {H:zz} {M:Nat} {σ:Nat→Sub} {τ:Nat→Option Nat} {b' b:Nat} {cs cs':List AV} (hH:H[b]? = some (.cells cs)) (ht:τ b'=some b) (hs:σ b=.to b') (he:WkL M (AV.subL σ cs) cs'):sM H M σ τ b' (.cells cs') :=
 .some b _ _ hH ht hs (.cells cs cs' he)
theorem xm {σ:Nat→Sub} {b k n:Nat} {es:List AV} (hs:σ b=.isl k es) (hn:n=es.length):(AV.sl b k 0 n).sub σ=.isl k es:=by
 subst hn
 simp only [AV.sub,hs,Nat.beq_refl,Bool.true_and,Nat.zero_add]
 have:Nat.ble es.length es.length=true:=Nat.ble_eq_true_of_le (Nat.le_refl _)
 rw [this];simp
def rk : Nat→List (Option Nat)→Prop
 | _,[]=>True
 | i,x :: r=>x=some i∧rk (i+1) r
theorem keepT_spec : ∀ {T:List (Option Nat)} {i:Nat},rk i T→∀ (b:Nat),b<T.length→T[b]? = some (some (i+b))
 | [],i,h,b,hb=>by simp at hb
 | x :: r,i,h,b,hb=>by
  cases b with
  | zero=>simp [h.1]
  | succ b=>have:=keepT_spec h.2 b (by simpa using hb);simp [this];omega
theorem tQ {E:Env} {n N:Nat} {F F':AFr} {H H':zz} (L:List Sub) (T:List (Option Nat)) (hN:rk 0 (T.take N)) (hT:N≤T.length) (hNH:N≤H'.length) (h1:SubL H H'.length T (ofL L) 0 L) (h2:ObjL H H'.length (ofL L) (ofT T) 0 H') (h3:FWk H'.length (ofL L) F F'):Ent E n N F H F' H':=by
 intro K w tmps hh hF _
 have key:∀ b s,ofL L b=s→s≠.gone→L[b]? = some s:=by
  intro b s h hs
  unfold ofL at h
  cases hb:L[b]? with
  | none=>rw [hb] at h;exact absurd h.symm hs
  | some x=>rw [hb] at h;simp at h;rw [h]
 obtain ⟨K',a,b,c⟩:=hrep_sub (N:=N) hh (ofL L) (ofT T) (fun b hb=>by
  have:=keepT_spec hN b (by rw [List.length_take];omega)
  rw [List.getElem?_take,if_pos hb] at this
  simp [ofT,this]) hNH (fun b b' _ hs=>by
  have:=h1.spec b _ (key b _ hs (by simp))
  simp only [Nat.zero_add] at this
  exact ⟨this.1,by simp [ofT,this.2]⟩) (fun b k es' _ hs=>by
  have:=h1.spec b _ (key b _ hs (by simp));simpa only [Nat.zero_add] using this) (fun b cs' _ hs=>by
  have:=h1.spec b _ (key b _ hs (by simp));simpa only [Nat.zero_add] using this) (fun b' o' ho=>by
  have:=h2.spec b' o' ho;simpa only [Nat.zero_add] using this)
 exact ⟨K',a,⟨hF.1,fun t=>(h3.spec t).rep (vp hh b _ _ _ (Nat.le_refl _) (hF.2 t))⟩,c⟩
def vt (m:Nat):Nat→Sub:=fun b=>cond (Nat.blt b m) (.to b) .gone
theorem keepS_or (m b:Nat):(vt m b=.to b∧b<m)∨vt m b=.gone:=by
 unfold vt
 cases hc:Nat.blt b m with
 | true=>exact .inl ⟨rfl,Nat.le_of_ble_eq_true hc⟩
 | false=>exact .inr rfl
theorem hrep_drop {E:Env} {K:Ctx} {w:World} {H X:zz} (hh:HRep E K w (H++X)) (hb:∀ o∈H,o.sub (vt H.length)=o) :
 HRep E K w H∧(∀ N,N≤H.length→Ev N K (H++X) w K H w)∧∀ v y,VRep K (H++X).length w v y→VRep K H.length w (v.sub (vt H.length)) y:=by
 have hle:H.length≤(H++X).length:=by simp
 have sok:sS E K w (H++X) (vt H.length) K H.length:=by
  refine ⟨fun b b' hb hs=>?_,fun b k es hb hs=>?_,fun b cs hb hs=>?_,fun b h=>h,fun b blk base hb h1 h2=>?_⟩
  all_goals rcases keepS_or H.length b with ⟨hc,hl⟩ | hc
  · rw [hc] at hs;cases hs;exact ⟨hl,rfl⟩
  · rw [hc] at hs;cases hs
  · rw [hc] at hs;cases hs
  · rw [hc] at hs;cases hs
  · rw [hc] at hs;cases hs
  · rw [hc] at hs;cases hs
  · exact absurd hc (h1 b)
  · exact absurd hc h2
 have rep:∀ v y,VRep K (H++X).length w v y→VRep K H.length w (v.sub (vt H.length)) y:=fun v y hv=>vp hh sok _ v y (Nat.le_refl _) hv
 have get:∀ {b:Nat} {o:AObj},H[b]? = some o→(H++X)[b]? = some o:=fun {b o} h=>by rw [List.getElem?_append_left (List.getElem?_eq_some_iff.1 h).1];exact h
 have hown1:∀ b,ws K H b→ws K (H++X) b:=fun b ⟨i,o,base,h1,h2,h3⟩=>⟨i,o,base,get h1,h2,h3⟩
 have own:∀ b,yb K H b→yb K (H++X) b:=fun b h=>h.imp (hown1 b) id
 refine ⟨⟨fun b o hb'=>?_,fun b b' o o' blk b1 b2 h1 h2=>hh.inj b b' o o' blk b1 b2 (get h1) (get h2),fun blk h=>hh.disj blk (own blk h),hh.low,hh.glob,hh.xsame rfl (fun _ h=>h) hown1 (fun b j st h=>⟨b,get h⟩)⟩,
  fun N hN=>{ Ev.refl N K (H++X) w (by omega) with len:=hN,I:=fun _ h=>h,I':=fun _ h=>.inl h,own:=fun b h=>.inl (own b h) },rep⟩
 have:=tZ rep (hh.obj b o (get hb'))
 rwa [hb o (List.mem_of_getElem? hb')] at this
theorem on_drop {E:Env} {n N:Nat} {F F':AFr} {H X:zz} {l:List AOper} {Q:zL→AFr→zz→Prop} {k:List KI} (hb:∀ o∈H,o.sub (vt H.length)=o) (hN:N≤H.length) (hF:FWk H.length (vt H.length) F F') (h:zl E n N Q (.ops l) k F' H):zl E n N Q (.ops l) k F (H++X):=by
 refine AOps.ent (fun K w tmps h1 h2 h3=>?_) h
 obtain ⟨a,b,c⟩:=hrep_drop h1 hb
 exact ⟨K,a,⟨h2.1,fun t=>(hF.spec t).rep (c _ _ (h2.2 t))⟩,b N hN⟩
def sI (l:Nat):Nat→Sub:=fun b=>cond (Nat.beq b l) (.to l) .gone
theorem onlyS_or (l b:Nat):(sI l b=.to l∧b=l)∨sI l b=.gone:=by
 unfold sI
 cases hc:Nat.beq b l with
 | true=>exact .inl ⟨rfl,Nat.eq_of_beq_eq_true hc⟩
 | false=>exact .inr rfl
def HEnt (E:Env) (N l:Nat) (H H':zz):Prop :=
 ∀ K w,HRep E K w H→N≤H.length→∃ K',HRep E K' w H'∧Ev N K H w K' H' w∧∀ v y,VRep K H.length w v y→VRep K' H'.length w (v.sub (sI l)) y
theorem HEnt.ent {E:Env} {n N l:Nat} {H H':zz} {F F':AFr} (h:HEnt E N l H H') (hF:FWk H'.length (sI l) F F'):Ent E n N F H F' H':=by
 intro K w tmps h1 h2 h3
 obtain ⟨K',a,b,c⟩:=h K w h1 h3
 exact ⟨K',a,⟨h2.1,fun t=>(hF.spec t).rep (c _ _ (h2.2 t))⟩,b⟩
theorem HEnt.refl {E:Env} {N l:Nat} {H:zz} (hl:l<H.length):HEnt E N l H H:=by
 intro K w h1 h3
 refine ⟨K,h1,Ev.refl _ _ _ _ h3,fun v y hv=>?_⟩
 refine vp h1 (σ:=sI l) (K':=K) ⟨fun b b' hb hs=>?_,fun b k es hb hs=>?_,fun b cs hb hs=>?_,fun b h=>h,fun b blk base hb h1 h2=>?_⟩ _ v y (Nat.le_refl _) hv
 all_goals rcases onlyS_or l b with ⟨hc,e⟩ | hc
 · rw [hc] at hs;cases hs;rw [e];exact ⟨hl,rfl⟩
 · rw [hc] at hs;cases hs
 · rw [hc] at hs;cases hs
 · rw [hc] at hs;cases hs
 · rw [hc] at hs;cases hs
 · rw [hc] at hs;cases hs
 · exact absurd hc (h1 l)
 · exact absurd hc h2
theorem xx {E:Env} {N l:Nat} {H H':zz} (L:List Sub) (T:List (Option Nat)) (hl:L[l]? = some (.to l)) (hN:rk 0 (T.take N)) (hT:N≤T.length) (hNH:N≤H'.length) (h1:SubL H H'.length T (ofL L) 0 L) (h2:ObjL H H'.length (ofL L) (ofT T) 0 H'):HEnt E N l H H':=by
 intro K w hh h3
 have key:∀ b s,ofL L b=s→s≠.gone→L[b]? = some s:=by
  intro b s h hs
  unfold ofL at h
  cases hb:L[b]? with
  | none=>rw [hb] at h;exact absurd h.symm hs
  | some x=>rw [hb] at h;simp at h;rw [h]
 obtain ⟨K',a,b,c⟩:=hrep_sub (N:=N) hh (ofL L) (ofT T) (fun b hb=>by
  have:=keepT_spec hN b (by rw [List.length_take];omega)
  rw [List.getElem?_take,if_pos hb] at this
  simp [ofT,this]) hNH (fun b b' _ hs=>by
  have:=h1.spec b _ (key b _ hs (by simp))
  simp only [Nat.zero_add] at this
  exact ⟨this.1,by simp [ofT,this.2]⟩) (fun b k es' _ hs=>by
  have:=h1.spec b _ (key b _ hs (by simp));simpa only [Nat.zero_add] using this) (fun b cs' _ hs=>by
  have:=h1.spec b _ (key b _ hs (by simp));simpa only [Nat.zero_add] using this) (fun b' o' ho=>by
  have:=h2.spec b' o' ho;simpa only [Nat.zero_add] using this)
 refine ⟨K',a,c,fun v y hv=>?_⟩
 have hol:ofL L l=.to l:=by simp [ofL,hl]
 refine vp hh (σ:=sI l) (K':=K') ⟨fun x b' hx hs=>?_,fun x k es hx hs=>?_,fun x cs hx hs=>?_,b.I,fun x blk base hx h1 h2=>?_⟩ _ v y (Nat.le_refl _) hv
 all_goals rcases onlyS_or l x with ⟨hc,e⟩ | hc
 · rw [hc] at hs;cases hs;rw [e] at hx ⊢;exact b.to _ _ hx hol
 · rw [hc] at hs;cases hs
 · rw [hc] at hs;cases hs
 · rw [hc] at hs;cases hs
 · rw [hc] at hs;cases hs
 · rw [hc] at hs;cases hs
 · exact absurd hc (h1 l)
 · exact absurd hc h2
section
variable {E:Env} {n N:Nat} {Q:zL→AFr→zz→Prop} {k:List KI} {F:AFr} {H:zz}
theorem on_callv {o:AOper} {l:List AOper} {x:Opd} {xs:List Opd} {fv:AV} {args:List AV} {R:AV→zz→Prop} (hg:o.guard=none) (ho:o.op=.callv x xs) (hf:x.ev E.G F=fv) (ha:xs.map (·.ev E.G F)=args) (hc:ACallV E fv args H R)
 (h:∀ v H1,R v H1→zl E n N Q (.ops l) k (F.set o.dst v) H1):zl E n N Q (.ops (o :: l)) k F H :=
 aops_callv (by rw [hg];rfl) ho hf ha hc h
theorem xv {o:AOper} {l:List AOper} {f:FuncId} {xs:List Opd} {args:List AV} {v:AV} {d:Nat} {b:Bool} (hg:o.guard=some (d,b)) (hd:F.get d=.val (.bool b)) (ho:o.op=.call f xs) (ha:xs.map (·.ev E.G F)=args) (hc:PCall E f args v) (hcl:AV.closedL args=true)
 (h:zl E n N Q (.ops l) k (F.set o.dst v) H):zl E n N Q (.ops (o :: l)) k F H :=
 aops_pcall (by rw [hg];simp only [zH,hd];cases b<;>rfl) ho ha hc hcl h
def OCall (E:Env) (f:FuncId) (args:List AV) (v:AV) (H0:zz):Prop:=xu E.P f∧ACall E f args [] fun v' H'=>v'=v∧H'=H0
def sh (m:Nat):Nat→Sub:=fun b=>.to (b+m)
theorem subIn_nil (m:Nat):td [] m=sh m:=by funext b;simp [td,sh,tU]
theorem OCall.lift {f:FuncId} {args:List AV} {v:AV} {H0:zz} (h:OCall E f args v H0) (hcl:AV.closedL args=true):ACall E f args H fun v' H'=>v'=v.sub (sh H.length)∧H'=H++H0.map (AObj.sub (sh H.length)):=by
 refine ACall.mono (ACall.frame h.2 (H:=H) (args':=args) [] List.nodup_nil (fun x hx=>by cases hx) rfl ?_) ?_
 · have:=zw (wD []) hcl
   rw [AV.subL_eq] at this;exact this.symm
 · rintro v' H' ⟨v0,H1,⟨rfl,rfl⟩,_,rfl,rfl⟩
   rw [subIn_nil]
   refine ⟨rfl,?_⟩
   unfold x8
   rw [subIn_nil]
   congr 1
   apply List.ext_getElem?
   intro i
   by_cases hi:i<H.length
   · simp [vD,hi,List.getD_eq_getElem?_getD]
   · rw [List.getElem?_eq_none (by simp;omega),List.getElem?_eq_none (by omega)]
theorem wH {o:AOper} {l:List AOper} {f:FuncId} {xs:List Opd} {args:List AV} {v v':AV} {H0 H':zz} (hg:o.guard=none) (ho:o.op=.call f xs) (ha:xs.map (·.ev E.G F)=args) (hc:OCall E f args v H0) (hcl:AV.closedL args=true)
 (hv:v.sub (sh H.length)=v') (hH:H0.map (AObj.sub (sh H.length))=H') (h:zl E n N Q (.ops l) k (F.set o.dst v') (H++H')):zl E n N Q (.ops (o :: l)) k F H:=by
 refine vG (by rw [hg];rfl) ho ha hc.1 (hc.lift hcl) ?_
 rintro _ _ ⟨rfl,rfl⟩
 rw [hv,hH];exact h
theorem on_fcall {o:AOper} {l:List AOper} {f:FuncId} {xs:List Opd} {args:List AV} {R:AV→zz→Prop} {Hl:zz} (L:List Nat) (hg:o.guard=none) (ho:o.op=.call f xs) (hen:xu E.P f) (hc:ACall E f args Hl R) (hnd:L.Nodup) (hlt:∀ x∈L,x<H.length)
 (hHl:Hl=L.map fun x=>(H.getD x .dead).sub (wD L)) (hargs:args=xs.map fun x=>(x.ev E.G F).sub (wD L))
 (h:∀ v0 H',R v0 H'→L.length≤H'.length→zl E n N Q (.ops l) k (F.set o.dst (v0.sub (td L H.length))) (x8 H L H')) (hx:sQ Hl=true:=by rfl):zl E n N Q (.ops (o :: l)) k F H:=by
 refine vG (by rw [hg];rfl) ho rfl hen (ACall.frame hc (H:=H) (args':=xs.map (·.ev E.G F)) L hnd hlt hHl (by rw [hargs,List.map_map];rfl) hx) ?_
 rintro _ _ ⟨v0,H',h1,h2,rfl,rfl⟩
 exact h v0 H' h1 h2
theorem AWP.entEnd {ac:ACode} {Q:zL→AFr→zz→Prop} (h:AWP E n N ac F H (fun e F' H'=>∃ F2 H2,Ent E n N F' H' F2 H2∧Q e F2 H2)):AWP E n N ac F H Q:=by
 intro c hc K w tmps T rs k cs h1 h2 h3 h4
 obtain ⟨e,F',H',K',w',tmps',nw,todo,⟨F2,H2,he,hq⟩,a1,a2,a3,a4,a5,a6,a7⟩:=h c hc K w tmps T rs k cs h1 h2 h3 h4
 obtain ⟨K2,b1,b2,b3⟩:=he K' w' tmps' a1 a2 a3.len
 exact ⟨e,F2,H2,K2,w',tmps',nw,todo,hq,b1,b2,a3.trans b3,a4.ev b3,a5,a6,a7⟩
def OQ (E:Env) (n N:Nat) (rvs:List RV) (R:AV→zz→Prop) (e:zL) (F':AFr) (H':zz):Prop :=
 match e with
 | .exit _=>False
 | _=>∃ F2 H2 vs,Ent E n N F' H' F2 H2∧w7 F2 H2 rvs=some vs∧R (wP vs) H2
theorem rcall_body {E:Env} {f:FuncId} {fn:Func} {ac:ACode} {args:List AV} {H:zz} {R:AV→zz→Prop} {n:Nat} {rvs:List RV} (hf:E.P.funcs[f]? = some fn) (hb:fn.body.map (yF E.P n)=some ac) (hnt:fn.ntmps=n) (hrv:fn.results.toList.map (wE E.P)=rvs.map some) (hn:Nat.ble args.length n=true)
 (h:zl E n H.length (OQ E n H.length rvs R) (.code ac) [] (wL 0 args) H):ACall E f args H R:=by
 subst hnt
 refine acall_body hf hb hrv (Nat.le_of_ble_eq_true hn) (AWP.entEnd (AWP.mono h fun e F' H' h=>?_))
 cases e with
 | exit i=>exact h.elim
 | normal=>obtain ⟨F2,H2,vs,a,b,c⟩:=h;exact ⟨F2,H2,a,vs,b,c⟩
 | ret=>obtain ⟨F2,H2,vs,a,b,c⟩:=h;exact ⟨F2,H2,a,vs,b,c⟩
theorem enters_of {P:Program} {f:FuncId} {fn:Func} {n:Nat} {ac:ACode} (hf:P.funcs[f]? = some fn) (hnm:(fn.name == "runtime.NumGoroutine")=false) (hb:fn.body.map (yF P n)=some ac):xu P f :=
 enters_body hf hnm (by cases hbb:fn.body with | none=>rw [hbb] at hb;cases hb | some b=>rfl)
theorem ocall_body {E:Env} {f:FuncId} {fn:Func} {ac:ACode} {args:List AV} {v:AV} {H0:zz} {n:Nat} {rvs:List RV} (hf:E.P.funcs[f]? = some fn) (hnm:(fn.name == "runtime.NumGoroutine")=false) (hb:fn.body.map (yF E.P n)=some ac) (hnt:fn.ntmps=n) (hrv:fn.results.toList.map (wE E.P)=rvs.map some) (hn:Nat.ble args.length n=true)
 (h:zl E n 0 (OQ E n 0 rvs (fun v' H'=>v'=v∧H'=H0)) (.code ac) [] (wL 0 args) []):OCall E f args v H0 :=
 ⟨enters_of hf hnm hb,rcall_body hf hb hnt hrv hn h⟩
theorem wo {rvs:List RV} {R:AV→zz→Prop} {F F2:AFr} {H H2:zz} {vs:List AV} (he:Ent E n N F H F2 H2) (h1:w7 F2 H2 rvs=some vs) (h2:R (wP vs) H2):zl E n N (OQ E n N rvs R) (.out .ret) [] F H:=⟨F2,H2,vs,he,h1,h2⟩
theorem t6 {rvs:List RV} {R:AV→zz→Prop} {F F2:AFr} {H H2:zz} {vs:List AV} (he:Ent E n N F H F2 H2) (h1:w7 F2 H2 rvs=some vs) (h2:R (wP vs) H2):zl E n N (OQ E n N rvs R) (.out .normal) [] F H:=⟨F2,H2,vs,he,h1,h2⟩
end
end Go.Am
end
section
namespace Go.Am
def QD (E:Env) (H:zz) (ops:List AOper) (F:AFr) (P:AFr→Prop):Prop:=∀ F0,Weak F F0→∃ F1 Fs,QR E H ops F0 F1∧Weak Fs F1∧P Fs
section
variable {E:Env} {n N:Nat} {Q:zL→AFr→zz→Prop} {k:List KI} {F:AFr} {H:zz} {P:AFr→Prop}
theorem QD.op {o:AOper} {l:List AOper} {v:AV} (hg:zH F o.guard=some true) (hd:rb F o=true) (_hq:yJ o.op=true) (he:zF E.G o.op F H=some (true,v,H)) (h:QD E H l (F.set o.dst v) P):QD E H (o :: l) F P:=by
 intro F0 hw
 obtain ⟨F1,Fs,h1,h2,h3⟩:=h (F0.set o.dst v) (hw.set _ _)
 refine ⟨F1,Fs,.op ?_ ?_ h1,h2,h3⟩
 · cases hgd:o.guard with
   | none=>rfl
   | some p =>
    obtain ⟨d,b⟩:=p
    rw [hgd] at hg
    simp only [zH] at hg ⊢
    split at hg
    · rename_i t ht
      rw [hw.val (G:=E.G) (x:=.t d) ht |> fun h=>(show F0.get d=.val (.bool t) from h)];exact hg
    · cases hg
 · rw [yG (hw.ev hd)] at he;exact he
theorem wantA_weak {F F0:AFr} {g:Option (Nat × Bool)} {b:Bool} (hw:Weak F F0) (h:zH F g=some b):zH F0 g=some b:=by
 cases g with
 | none=>exact h
 | some p =>
  obtain ⟨d,c⟩:=p
  simp only [zH] at h ⊢
  split at h
  · rename_i t ht
    rw [show F0.get d=.val (.bool t) from hw.val (G:=fun _=>.undef) (x:=.t d) ht];exact h
  · cases h
theorem QD.skip {o:AOper} {l:List AOper} (hg:zH F o.guard=some false) (h:QD E H l (F.set o.dst .undef) P):QD E H (o :: l) F P:=by
 intro F0 hw
 obtain ⟨F1,Fs,h1,h2,h3⟩:=h (F0.set o.dst .undef) (hw.set _ _)
 exact ⟨F1,Fs,.skip (wantA_weak hw hg) h1,h2,h3⟩
end
section
variable {E:Env} {H:zz} {P:AFr→Prop}
end
theorem xU {iLt:Int→Int→Bool} {lenA:List AV→Int} (e1:iLt=Wd.iLt) (e2:lenA=Wd.lenA) {i:Int} {es:List AV} (h:i<es.length):iLt i (lenA es)=true:=by subst e1 e2;exact decide_eq_true h
theorem xR {iLt:Int→Int→Bool} {lenA:List AV→Int} (e1:iLt=Wd.iLt) (e2:lenA=Wd.lenA) {i:Int} {es:List AV} (h:¬ i<es.length):iLt i (lenA es)=false:=by subst e1 e2;exact decide_eq_false h
theorem yX {α:Type} {atA:List AV→Int→AV} (e:atA=Wd.atA) {enc:α→AV} {l d r:List α} {c:α} {es:List AV} {i:Int} (hes:zy enc l=es) (hl:l=d++c :: r) (hi:i=d.length):atA es i=enc c:=by
 subst e hes hi hl
 rw [zu];simp [Wd.atA]
theorem yh {iAdd:IntKind→Int→Int→Int} (e:iAdd=Wd.iAdd) {i:Int} {n:Nat} (hi:i=n) (hn:n<1152921504606846976):iAdd .i64 i 1=((n+1:Nat):Int):=by
 subst e hi
 show IntKind.i64.wrap _=_
 rw [wrap64 (by omega) (by omega)];rfl
theorem uh {iAdd:IntKind→Int→Int→Int} (e:iAdd=Wd.iAdd) {a b:Int} (h1:-9223372036854775808≤a+b) (h2:a+b<9223372036854775808):iAdd .i64 a b=a+b:=by
 subst e;exact wrap64 h1 h2
theorem zZ {E:Env} {n N:Nat} {Q:zL→AFr→zz→Prop} {k:List KI} {F:AFr} {H:zz} {o:AOper} {l:List AOper} {d:Nat} {b:Bool} (hg:o.guard=some (d,b)) (hd:F.get d=.val (.bool (!b))) (h:zl E n N Q (.ops l) k (F.set o.dst .undef) H):zl E n N Q (.ops (o :: l)) k F H :=
 aops_skip (by rw [hg];simp only [zH,hd];cases b<;>rfl) h
end Go.Am
end
section
namespace Go.Am
section
variable {E:Env} {n N:Nat} {F:AFr} {H:zz}
variable {Q:zL→AFr→zz→Prop} {k:List KI}
theorem yw {o:AOper} {l:List AOper} {d x:Nat} {b:Bool} (hg:o.guard=some (d,b)) (hd:F.get d=.val (.bool (!b))) (hx:o.dst=some x) (hn:Nat.blt x n=true) (h:zl E n N Q (.ops l) k ((x,.val undef) :: F) H):zl E n N Q (.ops (o :: l)) k F H :=
 aops_skipv (by rw [hg];simp only [zH,hd];cases b<;>rfl) (by rw [hx];exact h) (fun y hy=>by rw [hx] at hy;cases hy;exact Nat.le_of_ble_eq_true hn)
end
end Go.Am
end
