/- Whole numbers, as they are wrapped, sated, scaled. -/
import Derived.Test.YtdhpmegbmjoekaaGreatDoorCKind14d
namespace Go.Proofs.YtdhpmegbmjoekaaGreatDoor.G
open Go Go.Sh
set_option linter.unusedVariables false
abbrev dV (x:Int):Int:=IntKind.wrap .i64 x
def fz (x lo hi:Int):Int:=if x<lo then lo else if x>hi then hi else x
def dZ (x:Int):Int:=fz x (-2147483648) 2147483647
theorem tN (x:Int): -2147483648≤dZ x∧dZ x≤2147483647:=by
 unfold dZ fz;split
 ·decide
 ·split
  ·decide
  ·omega
def IJ (x n:Int):Int:=if Int.tmod x n<0 then dV (dV (Int.tdiv x n)-1) else dV (Int.tdiv x n)
def LT (x n:Int):Int:=dV (x-dV (IJ x n*n))
def Ok (x n:Int):Int:=if n<1 then 0 else if LT x n≥dV (n-LT x n) then dV (IJ x n+1) else IJ x n
def Qo:Nat→Int
 |0=>1
 |n+1=>dV (Qo n*2)
def LU (x s:Int):Int:=if s<0 then 0 else if s>62 then 0 else Ok x (Qo s.toNat)
def tw (a b:Int):Int×Bool:=
 if a=0 then(0,true) else if b=0 then(0,true) else if(a= -1∧b= -9223372036854775808)∨(b= -1∧a= -9223372036854775808) then(0,false)
 else if dV (Int.tdiv (dV (a*b)) b)≠a then(0,false) else(dV (a*b),true)
def jc (x m s:Int):Int:=
 if m<0∨m>32767∨s<0∨s>30 then 0 else if(tw x m).2=true then dZ (LU (tw x m).1 s) else if x<0 then-2147483648 else 2147483647
theorem HG (x m s:Int): -2147483648≤jc x m s∧jc x m s≤2147483647:=by
 unfold jc;split
 ·decide
 ·split
  ·exact tN _
  ·split<;>decide
def mf (a b:Int):Int:=
 if b>0∧a>dV (9223372036854775807-b) then 9223372036854775807 else if b<0∧a<dV (-9223372036854775808-b) then-9223372036854775808 else dV (a+b)
def tx (xs:List Int):Int:=xs.foldl (fun n x=>dZ (mf n x)) 0
def Aj (xs:List Int):Int×Int:=xs.foldl (fun s x=>(dV (s.1+fu x 32),dV (s.2+cn .i64 x 4294967295))) (0,0)
def Bm (xs:List Int):Int×Bool:=
 if dV ((Aj xs).1+fu (Aj xs).2 32)< -2147483648 then(0,false) else if dV ((Aj xs).1+fu (Aj xs).2 32)>2147483647 then(0,false)
 else(dV (HP .i64 (dV ((Aj xs).1+fu (Aj xs).2 32)) 32+cn .i64 (Aj xs).2 4294967295),true)
def Di (xs:List Int):Int:=if(Bm xs).2=true then if xs.length=0 then 0 else Ok (Bm xs).1 (xs.length:Int) else 0
def pH (xs:List Int):Nat:=(List.range xs.length).foldl (fun a i=>if xs.getD i 0>xs.getD a 0 then i else a) 0
def fA (n:Nd) (x:Int):Int:=
 let z:=if cn .i64 n.post 1=1 then jc (dZ x) n.mult n.shift else dZ x
 if cn .i64 n.post 2=2 then fz z n.low n.high else z
end Go.Proofs.YtdhpmegbmjoekaaGreatDoor.G

