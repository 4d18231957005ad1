/- Sh, part 9: the words in which a function's printed formula is written. -/
import Derived.Test.YtdhpmegbmjoekaaGreatDoorShI
set_option linter.unusedVariables false
namespace Go.Sh
def ldInt (k:IntKind) (h:Heap) (a:Addr) (K:Int→Prop):Prop:= ∃n:Int,cellH h a=some (.int k n)∧K n
def ldBool (h:Heap) (a:Addr) (K:Bool→Prop):Prop:= ∃n:Bool,cellH h a=some (.bool n)∧K n
def ldStr (h:Heap) (a:Addr) (K:ByteArray→Prop):Prop:= ∃n:ByteArray,cellH h a=some (.string n)∧K n
def ldPtr (h:Heap) (a:Addr) (K:Option Addr→Prop):Prop:= ∃n:Option Addr,cellH h a=some (.pointer n)∧K n
def ldSlice (h:Heap) (a:Addr) (K:Option Addr→Nat→Nat→Prop):Prop:= ∃(p:Option Addr) (l c:Nat),cellH h a=some (.slice p l c)∧K p l c
def ldMap (h:Heap) (a:Addr) (K:Option Nat→Prop):Prop:= ∃n:Option Nat,cellH h a=some (.map n)∧K n
def ldAny (h:Heap) (a:Addr) (K:Value→Prop):Prop:= ∃n:Value,cellH h a=some n∧K n
def nilI (p:Option Addr) (K:Addr→Prop):Prop:= ∃a,p=some a∧K a
def idxI (b:Option Addr) (i:Int) (len:Nat) (K:Addr→Prop):Prop:= ∃a,b=some a∧0≤i∧i<(len:Int)∧K a
def arrI (i:Int) (len:Nat) (K:Unit→Prop):Prop:=0≤i∧i<(len:Int)∧K ()
def strI (s:ByteArray) (i:Int) (K:UInt8→Prop):Prop:=0≤i∧ ∃b:UInt8,s[i.toNat]? =some b∧K b
def newI (h:Heap) (o:Obj) (K:Nat→Heap→Prop):Prop:=K h.size (h.push o)
def bndI (i:Int) (y:Nat) (K:Nat→Prop):Prop:=0≤i∧i≤(y:Int)∧K i.toNat
def ifB (b:Bool) (A B:Prop):Prop:=(b=true→A)∧(b=false→B)
def addStrI (a b:ByteArray) (K:Unit→Prop):Prop:=((a.size+b.size:Nat):Int)≤IntKind.i64.max∧K ()
def neI (y:Int) (K:Unit→Prop):Prop:=y≠0∧K ()
def nonnegI (y:Int) (K:Unit→Prop):Prop:=0≤y∧K ()
def callInt (P:Program) (k:IntKind) (f:FuncId) (args:Array Value) (h:Heap) (K:Int→Heap→Prop):Prop:=callP P f args h fun v h'=> ∃n:Int,v= .int k n∧K n h'
def callBool (P:Program) (f:FuncId) (args:Array Value) (h:Heap) (K:Bool→Heap→Prop):Prop:=callP P f args h fun v h'=> ∃n:Bool,v= .bool n∧K n h'
def callStr (P:Program) (f:FuncId) (args:Array Value) (h:Heap) (K:ByteArray→Heap→Prop):Prop:=callP P f args h fun v h'=> ∃n:ByteArray,v= .string n∧K n h'
def callPtr (P:Program) (f:FuncId) (args:Array Value) (h:Heap) (K:Option Addr→Heap→Prop):Prop:=callP P f args h fun v h'=> ∃n:Option Addr,v= .pointer n∧K n h'
def callMap (P:Program) (f:FuncId) (args:Array Value) (h:Heap) (K:Option Nat→Heap→Prop):Prop:=callP P f args h fun v h'=> ∃n:Option Nat,v= .map n∧K n h'
def callSlice (P:Program) (f:FuncId) (args:Array Value) (h:Heap) (K:Option Addr→Nat→Nat→Heap→Prop):Prop:=callP P f args h fun v h'=> ∃(p:Option Addr) (l c:Nat),v= .slice p l c∧K p l c h'
def callUnit (P:Program) (f:FuncId) (args:Array Value) (h:Heap) (K:Heap→Prop):Prop:=callP P f args h fun v h'=>v= .tuple #[]∧K h'
def appI (e sz by_:Nat) (z:Value) (base:Option Addr) (len cap:Nat) (b:Option Addr) (n:Nat) (h:Heap) (K:Option Addr→Nat→Nat→Heap→Prop):Prop:=
 appB e sz by_ z base len cap b n h fun v h'=> ∃(p:Option Addr) (l c:Nat),v= .slice p l c∧K p l c h'
def mkI (e sz by_:Nat) (z:Value) (l c:Int) (h:Heap) (K:Nat→Heap→Prop):Prop:=
 sz≠0∧0≤l∧l≤c∧c<2 ^ 63∧(by_:Int)*c≤2 ^ 48∧
  K h.size (h.push (.cells ((Array.range (c.toNat*sz)).map (z.cells[· % z.cells.size]!)) e (0,0)))
def cpI (sz:Nat) (base:Option Addr) (len:Nat) (b:Option Addr) (n:Nat) (h:Heap) (K:Int→Heap→Prop):Prop:=
 ∃ys,readO h b (Nat.min n len*sz) ys∧match base with
  |some a=>storeL ys h a 0 fun h'=>K ((Nat.min n len:Nat):Int) h'
  |none=>K ((Nat.min n len:Nat):Int) h
def s2bI (e:TypeId) (s:ByteArray) (h:Heap) (K:Option Addr→Nat→Nat→Heap→Prop):Prop:=
 s2bB e s h fun v h'=> ∃(p:Option Addr) (l c:Nat),v= .slice p l c∧K p l c h'
def andI (k:IntKind) (x y:Int):Int:=k.wrap ((BitVec.ofInt k.bits x&&& BitVec.ofInt k.bits y).toNat:Int)
def orI (k:IntKind) (x y:Int):Int:=k.wrap ((BitVec.ofInt k.bits x|||BitVec.ofInt k.bits y).toNat:Int)
def xorI (k:IntKind) (x y:Int):Int:=k.wrap ((BitVec.ofInt k.bits x ^^^ BitVec.ofInt k.bits y).toNat:Int)
def andNotI (k:IntKind) (x y:Int):Int:=k.wrap ((BitVec.ofInt k.bits x&&& ~~~BitVec.ofInt k.bits y).toNat:Int)
def shlI (k:IntKind) (x:Int) (n:Nat):Int:=k.wrap (x*2 ^ n)
def shrI (x:Int) (n:Nat):Int:=x.fdiv (2 ^ n)
def ldSc:(s:Sc)→Heap→Addr→(s.T→Prop)→Prop
 | .int k,h,a,K=>ldInt k h a K
 | .bool,h,a,K=>ldBool h a K
 | .str,h,a,K=>ldStr h a K
 | .ptr,h,a,K=>ldPtr h a K
 | .slice,h,a,K=>ldSlice h a fun p l c=>K (p,l,c)
 | .map,h,a,K=>ldMap h a K
 | .any,h,a,K=>ldAny h a K
 | .adr,h,a,K=> ∃n:Addr,cellH h a=some (.pointer (some n))∧K n
def ldAgAt:(l:List Sc)→Heap→Addr→Nat→(TS l→Prop)→Prop
 |[],_,_,_,K=>K ()
 |s::r,h,a,i,K=>ldSc s h (a.add i) fun x=>ldAgAt r h a (i+1) fun xs=>K (x,xs)
def ldAg (l:List Sc) (h:Heap) (a:Addr) (K:TS l→Prop):Prop:=ldAgAt l h a 0 K
def exSc:(s:Sc)→(s.T→Prop)→Prop
 | .int _,K=> ∃x:Int,K x
 | .bool,K=> ∃x:Bool,K x
 | .str,K=> ∃x:ByteArray,K x
 | .ptr,K=> ∃x:Option Addr,K x
 | .slice,K=> ∃(p:Option Addr) (l c:Nat),K (p,l,c)
 | .map,K=> ∃x:Option Nat,K x
 | .any,K=> ∃x:Value,K x
 | .adr,K=> ∃x:Addr,K x
def exS:(l:List Sc)→(TS l→Prop)→Prop
 |[],K=>K ()
 |s::r,K=>exSc s fun x=>exS r fun xs=>K (x,xs)
def agS (l:List Sc) (x:TS l):Value:= .agg (mkS' l x).toArray
def zSc:(s:Sc)→s.T
 | .int _=>(0:Int)
 | .bool=>false
 | .str=>ByteArray.mk #[]
 | .ptr=>(none:Option Addr)
 | .adr=>(default:Addr)
 | .slice=>((none:Option Addr),0,0)
 | .map=>(none:Option Nat)
 | .any=>Value.nilFunc
def zT:(l:List Sc)→TS l
 |[]=>()
 |s::r=>(zSc s,zT r)
def ones:List Nat→Sch→Sch
 |[],r=>r
 |i::l,r=> .one i (ones l r)
end Go.Sh
