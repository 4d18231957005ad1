/- Whole numbers, as they are wrapped, sated, scaled. -/
import Derived.Test.YtdhpmegbmjoekaaGreatDoorCKind14d
namespace Go.Proofs.YtdhpmegbmjoekaaGreatDoor.G
open Go Go.Sh
set_option linter.unusedVariables false
abbrev cP(x:Int):Int:=IntKind.wrap .i64 x
def dT(x lo hi:Int):Int:=if x<lo then lo else if x>hi then hi else x
def dO(x:Int):Int:=dT x (-2147483648) 2147483647
theorem iJ(x:Int): -2147483648≤dO x∧dO x≤2147483647:=by
 unfold dO dT;split
 ·decide
 ·split
  ·decide
  ·omega
def DF(x n:Int):Int:=if Int.tmod x n<0 then cP (cP (Int.tdiv x n)-1) else cP (Int.tdiv x n)
def FS(x n:Int):Int:=cP (x-cP (DF x n*n))
def PT(x n:Int):Int:=if n<1 then 0 else if FS x n≥cP (n-FS x n) then cP (DF x n+1) else DF x n
def NL:Nat→Int
 |0=>1
 |n+1=>cP (NL n*2)
def IZ(x s:Int):Int:=if s<0 then 0 else if s>62 then 0 else PT x (NL s.toNat)
def pW(a b:Int):Int×Bool:=
 if a=0 then(0,true) else if b=0 then(0,true) else if(a= -1∧b= -9223372036854775808)∨(b= -1∧a= -9223372036854775808) then(0,false)
 else if cP (Int.tdiv (cP (a*b)) b)≠a then(0,false) else(cP (a*b),true)
def jc(x m s:Int):Int:=
 if m<0∨m>32767∨s<0∨s>30 then 0 else if(pW x m).2=true then dO (IZ (pW x m).1 s) else if x<0 then-2147483648 else 2147483647
def jJ(a b:Int):Int:=
 if b>0∧a>cP (9223372036854775807-b) then 9223372036854775807 else if b<0∧a<cP (-9223372036854775808-b) then-9223372036854775808 else cP (a+b)
def nj(xs:List Int):Int:=xs.foldl (fun n x=>dO (jJ n x)) 0
def yk(xs:List Int):Int×Int:=xs.foldl (fun s x=>(cP (s.1+fV x 32),cP (s.2+cF .i64 x 4294967295))) (0,0)
def DG(xs:List Int):Int×Bool:=
 if cP ((yk xs).1+fV (yk xs).2 32)< -2147483648 then(0,false) else if cP ((yk xs).1+fV (yk xs).2 32)>2147483647 then(0,false)
 else(cP (zC .i64 (cP ((yk xs).1+fV (yk xs).2 32)) 32+cF .i64 (yk xs).2 4294967295),true)
def AM(n:Nd)(x:Int):Int:=
 let z:=if cF .i64 n.post 1=1 then jc (dO x) n.mult n.shift else dO x
 if cF .i64 n.post 2=2 then dT z n.low n.high else z
