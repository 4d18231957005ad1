/- Whole numbers, as they are wrapped, sated, scaled. -/
import Derived.Test.YtdhpmegbmjoekaaGreatDoorCKind14d
namespace Go.Proofs.YtdhpmegbmjoekaaGreatDoor.G
open Go Go.Sh
set_option linter.unusedVariables false
abbrev w64 (x:Int):Int:=IntKind.wrap .i64 x
def clampI (x lo hi:Int):Int:=if x<lo then lo else if x>hi then hi else x
def sat32 (x:Int):Int:=clampI x (-2147483648) 2147483647
def quotI (x n:Int):Int:=if Int.tmod x n<0 then w64 (w64 (Int.tdiv x n)-1) else w64 (Int.tdiv x n)
def restI (x n:Int):Int:=w64 (x-w64 (quotI x n*n))
def divI (x n:Int):Int:=if n<1 then 0 else if restI x n≥w64 (n-restI x n) then w64 (quotI x n+1) else quotI x n
def powI:Nat→Int
 |0=>1
 |n+1=>w64 (powI n*2)
def halfI (x s:Int):Int:=if s<0 then 0 else if s>62 then 0 else divI x (powI s.toNat)
def mulI (a b:Int):Int×Bool:=
 if a=0 then(0,true) else if b=0 then(0,true) else if(a= -1∧b= -9223372036854775808)∨(b= -1∧a= -9223372036854775808) then(0,false)
 else if w64 (Int.tdiv (w64 (a*b)) b)≠a then(0,false) else(w64 (a*b),true)
def scaleI (x m s:Int):Int:=
 if m<0∨m>32767∨s<0∨s>30 then 0 else if(mulI x m).2=true then sat32 (halfI (mulI x m).1 s) else if x<0 then-2147483648 else 2147483647
def plusI (a b:Int):Int:=
 if b>0∧a>w64 (9223372036854775807-b) then 9223372036854775807 else if b<0∧a<w64 (-9223372036854775808-b) then-9223372036854775808 else w64 (a+b)
def addI (xs:List Int):Int:=xs.foldl (fun n x=>sat32 (plusI n x)) 0
def sumS (xs:List Int):Int×Int:=xs.foldl (fun s x=>(w64 (s.1+shrI x 32),w64 (s.2+andI .i64 x 4294967295))) (0,0)
def sumI2 (xs:List Int):Int×Bool:=
 if w64 ((sumS xs).1+shrI (sumS xs).2 32)< -2147483648 then(0,false) else if w64 ((sumS xs).1+shrI (sumS xs).2 32)>2147483647 then(0,false)
 else(w64 (shlI .i64 (w64 ((sumS xs).1+shrI (sumS xs).2 32)) 32+andI .i64 (sumS xs).2 4294967295),true)
def meanI (xs:List Int):Int:=if(sumI2 xs).2=true then if xs.length=0 then 0 else divI (sumI2 xs).1 (xs.length:Int) else 0
def mostI (xs:List Int):Nat:=(List.range xs.length).foldl (fun a i=>if xs.getD i 0>xs.getD a 0 then i else a) 0
def postI (n:Nd) (x:Int):Int:=
 let z:=if andI .i64 n.post 1=1 then scaleI (sat32 x) n.mult n.shift else sat32 x
 if andI .i64 n.post 2=2 then clampI z n.low n.high else z
end Go.Proofs.YtdhpmegbmjoekaaGreatDoor.G
