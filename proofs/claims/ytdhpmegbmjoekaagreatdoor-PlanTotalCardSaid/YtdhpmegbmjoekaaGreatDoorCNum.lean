/- Whole numbers, as they are wrapped, sated, scaled. -/
import Derived.Test.YtdhpmegbmjoekaaGreatDoorCKind14d
namespace Go.Proofs.YtdhpmegbmjoekaaGreatDoor.G
open Go Go.Sh
set_option linter.unusedVariables false
abbrev fc (x:Int):Int:=IntKind.wrap .i64 x
def io (x lo hi:Int):Int:=if x<lo then lo else if x>hi then hi else x
def iX (x:Int):Int:=io x (-2147483648) 2147483647
theorem GZ (x:Int): -2147483648≤iX x∧iX x≤2147483647:=by
 unfold iX io
 split
 ·decide
 ·split
  ·decide
  ·omega
def Mn (x n:Int):Int:=if Int.tmod x n<0 then fc (fc (Int.tdiv x n)-1) else fc (Int.tdiv x n)
def Ps (x n:Int):Int:=fc (x-fc (Mn x n*n))
def Qy (x n:Int):Int:=if n<1 then 0 else if Ps x n≥fc (n-Ps x n) then fc (Mn x n+1) else Mn x n
def Qz:Nat→Int
 |0=>1
 |n+1=>fc (Qz n*2)
def QA (x s:Int):Int:=if s<0 then 0 else if s>62 then 0 else Qy x (Qz s.toNat)
def Bw (a b:Int):Int×Bool:=
 if a=0 then(0,true) else if b=0 then(0,true) else if(a= -1∧b= -9223372036854775808)∨(b= -1∧a= -9223372036854775808) then(0,false)
 else if fc (Int.tdiv (fc (a*b)) b)≠a then(0,false) else(fc (a*b),true)
def PN (x m s:Int):Int:=
 if m<0∨m>32767∨s<0∨s>30 then 0 else if(Bw x m).2=true then iX (QA (Bw x m).1 s) else if x<0 then-2147483648 else 2147483647
def nM (a b:Int):Int:=
 if b>0∧a>fc (9223372036854775807-b) then 9223372036854775807 else if b<0∧a<fc (-9223372036854775808-b) then-9223372036854775808 else fc (a+b)
def yp (xs:List Int):Int:=xs.foldl (fun n x=>iX (nM n x)) 0
def ID (xs:List Int):Int×Int:=xs.foldl (fun s x=>(fc (s.1+gz x 32),fc (s.2+cS .i64 x 4294967295))) (0,0)
def Pt (xs:List Int):Int×Bool:=
 if fc ((ID xs).1+gz (ID xs).2 32)< -2147483648 then(0,false) else if fc ((ID xs).1+gz (ID xs).2 32)>2147483647 then(0,false)
 else(fc (Hd .i64 (fc ((ID xs).1+gz (ID xs).2 32)) 32+cS .i64 (ID xs).2 4294967295),true)
def RF (xs:List Int):Int:=if(Pt xs).2=true then if xs.length=0 then 0 else Qy (Pt xs).1 (xs.length:Int) else 0
def RG (xs:List Int):Nat:=(List.range xs.length).foldl (fun a i=>if xs.getD i 0>xs.getD a 0 then i else a) 0
def RH (n:Nd) (x:Int):Int:=
 let z:=if cS .i64 n.post 1=1 then PN (iX x) n.mult n.shift else iX x
 if cS .i64 n.post 2=2 then io z n.low n.high else z
end Go.Proofs.YtdhpmegbmjoekaaGreatDoor.G
