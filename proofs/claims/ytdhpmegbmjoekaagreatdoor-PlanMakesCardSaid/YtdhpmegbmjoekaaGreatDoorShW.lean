/- Sh, part 9: the words in which a function's printed formula is written. -/
import Derived.Test.YtdhpmegbmjoekaaGreatDoorShI
set_option linter.unusedVariables false
namespace Go.Sh
def af(k:IntKind)(h:ah)(a:Addr)(K:Int→Prop):Prop:= ∃n:Int,aB h a=some (.int k n)∧K n
def dH(h:ah)(a:Addr)(K:Bool→Prop):Prop:= ∃n:Bool,aB h a=some (.bool n)∧K n
def sr(h:ah)(a:Addr)(K:ByteArray→Prop):Prop:= ∃n:ByteArray,aB h a=some (.string n)∧K n
def iZ(h:ah)(a:Addr)(K:Option Addr→Prop):Prop:= ∃n:Option Addr,aB h a=some (.pointer n)∧K n
def am(h:ah)(a:Addr)(K:Option Addr→Nat→Nat→Prop):Prop:= ∃(p:Option Addr)(l c:Nat),aB h a=some (.slice p l c)∧K p l c
def AE(h:ah)(a:Addr)(K:Option Nat→Prop):Prop:= ∃n:Option Nat,aB h a=some (.map n)∧K n
def O8(h:ah)(a:Addr)(K:Value→Prop):Prop:= ∃n:Value,aB h a=some n∧K n
def cB(p:Option Addr)(K:Addr→Prop):Prop:= ∃a,p=some a∧K a
def aS(b:Option Addr)(i:Int)(c:Nat)(K:Addr→Prop):Prop:= ∃a,b=some a∧0≤i∧i<(c:Int)∧K a
def lZ(i:Int)(a:Nat)(K:Unit→Prop):Prop:=0≤i∧i<(a:Int)∧K ()
def zB(s:ByteArray)(i:Int)(K:UInt8→Prop):Prop:=0≤i∧ ∃b:UInt8,s[i.toNat]? =some b∧K b
def aP(h:ah)(o:Obj)(K:Nat→ah→Prop):Prop:=K h.size (h.push o)
def pP(i:Int)(y:Nat)(K:Nat→Prop):Prop:=0≤i∧i≤(y:Int)∧K i.toNat
def aI(b:Bool)(A B:Prop):Prop:=(b=true→A)∧(b=false→B)
def oo(a b:ByteArray)(K:Unit→Prop):Prop:=((a.size+b.size:Nat):Int)≤IntKind.i64.max∧K ()
def KI(y:Int)(K:Unit→Prop):Prop:=y≠0∧K ()
def B8(y:Int)(K:Unit→Prop):Prop:=0≤y∧K ()
def aE(P:Program)(k:IntKind)(f:FuncId)(args:Array Value)(h:ah)(K:Int→ah→Prop):Prop:=au P f args h fun v a=> ∃n:Int,v= .int k n∧K n a
def aN(P:Program)(f:FuncId)(args:Array Value)(h:ah)(K:Bool→ah→Prop):Prop:=au P f args h fun v a=> ∃n:Bool,v= .bool n∧K n a
def uY(P:Program)(f:FuncId)(args:Array Value)(h:ah)(K:ByteArray→ah→Prop):Prop:=au P f args h fun v a=> ∃n:ByteArray,v= .string n∧K n a
def L7(P:Program)(f:FuncId)(args:Array Value)(h:ah)(K:Option Addr→ah→Prop):Prop:=au P f args h fun v a=> ∃n:Option Addr,v= .pointer n∧K n a
def Rf(P:Program)(f:FuncId)(args:Array Value)(h:ah)(K:Option Nat→ah→Prop):Prop:=au P f args h fun v a=> ∃n:Option Nat,v= .map n∧K n a
def bF(P:Program)(f:FuncId)(args:Array Value)(h:ah)(K:Option Addr→Nat→Nat→ah→Prop):Prop:=au P f args h fun v a=> ∃(p:Option Addr)(l c:Nat),v= .slice p l c∧K p l c a
def bt(P:Program)(f:FuncId)(args:Array Value)(h:ah)(K:ah→Prop):Prop:=au P f args h fun v a=>v= .tuple #[]∧K a
def eI(e sz a:Nat)(z:Value)(base:Option Addr)(f d:Nat)(b:Option Addr)(n:Nat)(h:ah)(K:Option Addr→Nat→Nat→ah→Prop):Prop:=
 Pk e sz a z base f d b n h fun v g=> ∃(p:Option Addr)(l c:Nat),v= .slice p l c∧K p l c g
def q6(e sz a:Nat)(z:Value)(l c:Int)(h:ah)(K:Nat→ah→Prop):Prop:=
 sz≠0∧0≤l∧l≤c∧c<2 ^ 63∧(a:Int)*c≤2 ^ 48∧
  K h.size (h.push (.cells ((Array.range (c.toNat*sz)).map (z.cells[· % z.cells.size]!)) e (0,0)))
def cF(k:IntKind)(x y:Int):Int:=k.wrap ((BitVec.ofInt k.bits x&&& BitVec.ofInt k.bits y).toNat:Int)
def B3(k:IntKind)(x y:Int):Int:=k.wrap ((BitVec.ofInt k.bits x|||BitVec.ofInt k.bits y).toNat:Int)
def pb(k:IntKind)(x y:Int):Int:=k.wrap ((BitVec.ofInt k.bits x ^^^ BitVec.ofInt k.bits y).toNat:Int)
def zC(k:IntKind)(x:Int)(n:Nat):Int:=k.wrap (x*2 ^ n)
def fV(x:Int)(n:Nat):Int:=x.fdiv (2 ^ n)
def TZ:(s:Sc)→ah→Addr→(s.T→Prop)→Prop
 | .int k,h,a,K=>af k h a K
 | .bool,h,a,K=>dH h a K
 | .str,h,a,K=>sr h a K
 | .ptr,h,a,K=>iZ h a K
 | .slice,h,a,K=>am h a fun p l c=>K (p,l,c)
 | .map,h,a,K=>AE h a K
 | .any,h,a,K=>O8 h a K
 | .adr,h,a,K=> ∃n:Addr,aB h a=some (.pointer (some n))∧K n
def KJ:(l:List Sc)→ah→Addr→Nat→(TS l→Prop)→Prop
 |[],_,_,_,K=>K ()
 |s::r,h,a,i,K=>TZ s h (a.add i) fun x=>KJ r h a (i+1) fun xs=>K (x,xs)
def aT(l:List Sc)(h:ah)(a:Addr)(K:TS l→Prop):Prop:=KJ l h a 0 K
def T0:(s:Sc)→(s.T→Prop)→Prop
 | .int _,K=> ∃x:Int,K x
 | .bool,K=> ∃x:Bool,K x
 | .str,K=> ∃x:ByteArray,K x
 | .ptr,K=> ∃x:Option Addr,K x
 | .slice,K=> ∃(p:Option Addr)(l c:Nat),K (p,l,c)
 | .map,K=> ∃x:Option Nat,K x
 | .any,K=> ∃x:Value,K x
 | .adr,K=> ∃x:Addr,K x
def zD:(l:List Sc)→(TS l→Prop)→Prop
 |[],K=>K ()
 |s::r,K=>T0 s fun x=>zD r fun xs=>K (x,xs)
def bA(l:List Sc)(x:TS l):Value:= .agg (aK l x).toArray
def VA:(s:Sc)→s.T
 | .int _=>(0:Int)
 | .bool=>false
 | .str=>ByteArray.mk #[]
 | .ptr=>(none:Option Addr)
 | .adr=>(default:Addr)
 | .slice=>((none:Option Addr),0,0)
 | .map=>(none:Option Nat)
 | .any=>Value.nilFunc
def zT:(l:List Sc)→TS l
 |[]=>()
 |s::r=>(VA s,zT r)
def aU:List Nat→OR→OR
 |[],r=>r
 |i::l,r=> .one i (aU l r)
