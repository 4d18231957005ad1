/- Sh, part 9: the words in which a function's printed formula is written. -/
import Derived.Test.YtdhpmegbmjoekaaGreatDoorShI
set_option linter.unusedVariables false
namespace Go.Sh
def ah (k:IntKind) (h:ae) (a:Addr) (K:Int→Prop):Prop:= ∃n:Int,aD h a=some (.int k n)∧K n
def qx (h:ae) (a:Addr) (K:Bool→Prop):Prop:= ∃n:Bool,aD h a=some (.bool n)∧K n
def vw (h:ae) (a:Addr) (K:ByteArray→Prop):Prop:= ∃n:ByteArray,aD h a=some (.string n)∧K n
def i8 (h:ae) (a:Addr) (K:Option Addr→Prop):Prop:= ∃n:Option Addr,aD h a=some (.pointer n)∧K n
def av (h:ae) (a:Addr) (K:Option Addr→Nat→Nat→Prop):Prop:= ∃(p:Option Addr) (l c:Nat),aD h a=some (.slice p l c)∧K p l c
def tn (h:ae) (a:Addr) (K:Option Nat→Prop):Prop:= ∃n:Option Nat,aD h a=some (.map n)∧K n
def Mr (h:ae) (a:Addr) (K:Value→Prop):Prop:= ∃n:Value,aD h a=some n∧K n
def cH (p:Option Addr) (K:Addr→Prop):Prop:= ∃a,p=some a∧K a
def bl (b:Option Addr) (i:Int) (len:Nat) (K:Addr→Prop):Prop:= ∃a,b=some a∧0≤i∧i<(len:Int)∧K a
def si (i:Int) (len:Nat) (K:Unit→Prop):Prop:=0≤i∧i<(len:Int)∧K ()
def vT (s:ByteArray) (i:Int) (K:UInt8→Prop):Prop:=0≤i∧ ∃b:UInt8,s[i.toNat]? =some b∧K b
def aW (h:ae) (o:Obj) (K:Nat→ae→Prop):Prop:=K h.size (h.push o)
def qy (i:Int) (y:Nat) (K:Nat→Prop):Prop:=0≤i∧i≤(y:Int)∧K i.toNat
def aL (b:Bool) (A B:Prop):Prop:=(b=true→A)∧(b=false→B)
def ov (a b:ByteArray) (K:Unit→Prop):Prop:=((a.size+b.size:Nat):Int)≤IntKind.i64.max∧K ()
def Ob (y:Int) (K:Unit→Prop):Prop:=y≠0∧K ()
def Be (y:Int) (K:Unit→Prop):Prop:=0≤y∧K ()
def aI (P:Program) (k:IntKind) (f:FuncId) (args:Array Value) (h:ae) (K:Int→ae→Prop):Prop:=aq P f args h fun v h'=> ∃n:Int,v= .int k n∧K n h'
def aE (P:Program) (f:FuncId) (args:Array Value) (h:ae) (K:Bool→ae→Prop):Prop:=aq P f args h fun v h'=> ∃n:Bool,v= .bool n∧K n h'
def tW (P:Program) (f:FuncId) (args:Array Value) (h:ae) (K:ByteArray→ae→Prop):Prop:=aq P f args h fun v h'=> ∃n:ByteArray,v= .string n∧K n h'
def On (P:Program) (f:FuncId) (args:Array Value) (h:ae) (K:Option Addr→ae→Prop):Prop:=aq P f args h fun v h'=> ∃n:Option Addr,v= .pointer n∧K n h'
def Oo (P:Program) (f:FuncId) (args:Array Value) (h:ae) (K:Option Nat→ae→Prop):Prop:=aq P f args h fun v h'=> ∃n:Option Nat,v= .map n∧K n h'
def bM (P:Program) (f:FuncId) (args:Array Value) (h:ae) (K:Option Addr→Nat→Nat→ae→Prop):Prop:=aq P f args h fun v h'=> ∃(p:Option Addr) (l c:Nat),v= .slice p l c∧K p l c h'
def bc (P:Program) (f:FuncId) (args:Array Value) (h:ae) (K:ae→Prop):Prop:=aq P f args h fun v h'=>v= .tuple #[]∧K h'
def jm (e sz by_:Nat) (z:Value) (base:Option Addr) (len cap:Nat) (b:Option Addr) (n:Nat) (h:ae) (K:Option Addr→Nat→Nat→ae→Prop):Prop:=
 MD e sz by_ z base len cap b n h fun v h'=> ∃(p:Option Addr) (l c:Nat),v= .slice p l c∧K p l c h'
def zW (e sz by_:Nat) (z:Value) (l c:Int) (h:ae) (K:Nat→ae→Prop):Prop:=
 sz≠0∧0≤l∧l≤c∧c<2 ^ 63∧(by_:Int)*c≤2 ^ 48∧
  K h.size (h.push (.cells ((Array.range (c.toNat*sz)).map (z.cells[· % z.cells.size]!)) e (0,0)))
def Sx (sz:Nat) (base:Option Addr) (len:Nat) (b:Option Addr) (n:Nat) (h:ae) (K:Int→ae→Prop):Prop:=
 ∃ys,readO h b (Nat.min n len*sz) ys∧match base with
  |some a=>bt ys h a 0 fun h'=>K ((Nat.min n len:Nat):Int) h'
  |none=>K ((Nat.min n len:Nat):Int) h
def Sn (e:TypeId) (s:ByteArray) (h:ae) (K:Option Addr→Nat→Nat→ae→Prop):Prop:=
 QN e s h fun v h'=> ∃(p:Option Addr) (l c:Nat),v= .slice p l c∧K p l c h'
def cS (k:IntKind) (x y:Int):Int:=k.wrap ((BitVec.ofInt k.bits x&&& BitVec.ofInt k.bits y).toNat:Int)
def DW (k:IntKind) (x y:Int):Int:=k.wrap ((BitVec.ofInt k.bits x|||BitVec.ofInt k.bits y).toNat:Int)
def F6 (k:IntKind) (x y:Int):Int:=k.wrap ((BitVec.ofInt k.bits x ^^^ BitVec.ofInt k.bits y).toNat:Int)
def Q9 (k:IntKind) (x y:Int):Int:=k.wrap ((BitVec.ofInt k.bits x&&& ~~~BitVec.ofInt k.bits y).toNat:Int)
def Hd (k:IntKind) (x:Int) (n:Nat):Int:=k.wrap (x*2 ^ n)
def gz (x:Int) (n:Nat):Int:=x.fdiv (2 ^ n)
def QD:(s:Sc)→ae→Addr→(s.T→Prop)→Prop
 | .int k,h,a,K=>ah k h a K
 | .bool,h,a,K=>qx h a K
 | .str,h,a,K=>vw h a K
 | .ptr,h,a,K=>i8 h a K
 | .slice,h,a,K=>av h a fun p l c=>K (p,l,c)
 | .map,h,a,K=>tn h a K
 | .any,h,a,K=>Mr h a K
 | .adr,h,a,K=> ∃n:Addr,aD h a=some (.pointer (some n))∧K n
def IJ:(l:List Sc)→ae→Addr→Nat→(TS l→Prop)→Prop
 |[],_,_,_,K=>K ()
 |s::r,h,a,i,K=>QD s h (a.add i) fun x=>IJ r h a (i+1) fun xs=>K (x,xs)
def aX (l:List Sc) (h:ae) (a:Addr) (K:TS l→Prop):Prop:=IJ l h a 0 K
def QE:(s:Sc)→(s.T→Prop)→Prop
 | .int _,K=> ∃x:Int,K x
 | .bool,K=> ∃x:Bool,K x
 | .str,K=> ∃x:ByteArray,K x
 | .ptr,K=> ∃x:Option Addr,K x
 | .slice,K=> ∃(p:Option Addr) (l c:Nat),K (p,l,c)
 | .map,K=> ∃x:Option Nat,K x
 | .any,K=> ∃x:Value,K x
 | .adr,K=> ∃x:Addr,K x
def E3:(l:List Sc)→(TS l→Prop)→Prop
 |[],K=>K ()
 |s::r,K=>QE s fun x=>E3 r fun xs=>K (x,xs)
def bz (l:List Sc) (x:TS l):Value:= .agg (aP l x).toArray
def So:(s:Sc)→s.T
 | .int _=>(0:Int)
 | .bool=>false
 | .str=>ByteArray.mk #[]
 | .ptr=>(none:Option Addr)
 | .adr=>(default:Addr)
 | .slice=>((none:Option Addr),0,0)
 | .map=>(none:Option Nat)
 | .any=>Value.nilFunc
def zT:(l:List Sc)→TS l
 |[]=>()
 |s::r=>(So s,zT r)
def bD:List Nat→Mv→Mv
 |[],r=>r
 |i::l,r=> .one i (bD l r)
end Go.Sh
