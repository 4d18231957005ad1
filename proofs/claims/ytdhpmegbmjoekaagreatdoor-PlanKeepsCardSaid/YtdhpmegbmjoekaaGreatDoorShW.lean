/- Sh, part 9: the words in which a function's printed formula is written. -/
import Derived.Test.YtdhpmegbmjoekaaGreatDoorShI
set_option linter.unusedVariables false
namespace Go.Sh
def ah (k:IntKind) (h:af) (a:Addr) (K:Int→Prop):Prop:= ∃n:Int,aD h a=some (.int k n)∧K n
def eT (h:af) (a:Addr) (K:Bool→Prop):Prop:= ∃n:Bool,aD h a=some (.bool n)∧K n
def tl (h:af) (a:Addr) (K:ByteArray→Prop):Prop:= ∃n:ByteArray,aD h a=some (.string n)∧K n
def i9 (h:af) (a:Addr) (K:Option Addr→Prop):Prop:= ∃n:Option Addr,aD h a=some (.pointer n)∧K n
def aq (h:af) (a:Addr) (K:Option Addr→Nat→Nat→Prop):Prop:= ∃(p:Option Addr) (l c:Nat),aD h a=some (.slice p l c)∧K p l c
def BU (h:af) (a:Addr) (K:Option Nat→Prop):Prop:= ∃n:Option Nat,aD h a=some (.map n)∧K n
def On (h:af) (a:Addr) (K:Value→Prop):Prop:= ∃n:Value,aD h a=some n∧K n
def cu (p:Option Addr) (K:Addr→Prop):Prop:= ∃a,p=some a∧K a
def aS (b:Option Addr) (i:Int) (len:Nat) (K:Addr→Prop):Prop:= ∃a,b=some a∧0≤i∧i<(len:Int)∧K a
def wt (i:Int) (len:Nat) (K:Unit→Prop):Prop:=0≤i∧i<(len:Int)∧K ()
def CR (s:ByteArray) (i:Int) (K:UInt8→Prop):Prop:=0≤i∧ ∃b:UInt8,s[i.toNat]? =some b∧K b
def aR (h:af) (o:Obj) (K:Nat→af→Prop):Prop:=K h.size (h.push o)
def u9 (i:Int) (y:Nat) (K:Nat→Prop):Prop:=0≤i∧i≤(y:Int)∧K i.toNat
def aG (b:Bool) (A B:Prop):Prop:=(b=true→A)∧(b=false→B)
def zC (a b:ByteArray) (K:Unit→Prop):Prop:=((a.size+b.size:Nat):Int)≤IntKind.i64.max∧K ()
def Kv (y:Int) (K:Unit→Prop):Prop:=y≠0∧K ()
def CX (y:Int) (K:Unit→Prop):Prop:=0≤y∧K ()
def aC (P:Program) (k:IntKind) (f:FuncId) (args:Array Value) (h:af) (K:Int→af→Prop):Prop:=au P f args h fun v a=> ∃n:Int,v= .int k n∧K n a
def aK (P:Program) (f:FuncId) (args:Array Value) (h:af) (K:Bool→af→Prop):Prop:=au P f args h fun v a=> ∃n:Bool,v= .bool n∧K n a
def CY (P:Program) (f:FuncId) (args:Array Value) (h:af) (K:ByteArray→af→Prop):Prop:=au P f args h fun v a=> ∃n:ByteArray,v= .string n∧K n a
def L3 (P:Program) (f:FuncId) (args:Array Value) (h:af) (K:Option Addr→af→Prop):Prop:=au P f args h fun v a=> ∃n:Option Addr,v= .pointer n∧K n a
def Qr (P:Program) (f:FuncId) (args:Array Value) (h:af) (K:Option Nat→af→Prop):Prop:=au P f args h fun v a=> ∃n:Option Nat,v= .map n∧K n a
def bt (P:Program) (f:FuncId) (args:Array Value) (h:af) (K:Option Addr→Nat→Nat→af→Prop):Prop:=au P f args h fun v a=> ∃(p:Option Addr) (l c:Nat),v= .slice p l c∧K p l c a
def bi (P:Program) (f:FuncId) (args:Array Value) (h:af) (K:af→Prop):Prop:=au P f args h fun v a=>v= .tuple #[]∧K a
def dx (e sz a:Nat) (z:Value) (base:Option Addr) (len d:Nat) (b:Option Addr) (n:Nat) (h:af) (K:Option Addr→Nat→Nat→af→Prop):Prop:=
 OC e sz a z base len d b n h fun v f=> ∃(p:Option Addr) (l c:Nat),v= .slice p l c∧K p l c f
def qM (e sz a:Nat) (z:Value) (l c:Int) (h:af) (K:Nat→af→Prop):Prop:=
 sz≠0∧0≤l∧l≤c∧c<2 ^ 63∧(a:Int)*c≤2 ^ 48∧
  K h.size (h.push (.cells ((Array.range (c.toNat*sz)).map (z.cells[· % z.cells.size]!)) e (0,0)))
def cn (k:IntKind) (x y:Int):Int:=k.wrap ((BitVec.ofInt k.bits x&&& BitVec.ofInt k.bits y).toNat:Int)
def FL (k:IntKind) (x y:Int):Int:=k.wrap ((BitVec.ofInt k.bits x|||BitVec.ofInt k.bits y).toNat:Int)
def HO (k:IntKind) (x y:Int):Int:=k.wrap ((BitVec.ofInt k.bits x ^^^ BitVec.ofInt k.bits y).toNat:Int)
def HP (k:IntKind) (x:Int) (n:Nat):Int:=k.wrap (x*2 ^ n)
def fu (x:Int) (n:Nat):Int:=x.fdiv (2 ^ n)
def ST:(s:Sc)→af→Addr→(s.T→Prop)→Prop
 | .int k,h,a,K=>ah k h a K
 | .bool,h,a,K=>eT h a K
 | .str,h,a,K=>tl h a K
 | .ptr,h,a,K=>i9 h a K
 | .slice,h,a,K=>aq h a fun p l c=>K (p,l,c)
 | .map,h,a,K=>BU h a K
 | .any,h,a,K=>On h a K
 | .adr,h,a,K=> ∃n:Addr,aD h a=some (.pointer (some n))∧K n
def Kw:(l:List Sc)→af→Addr→Nat→(TS l→Prop)→Prop
 |[],_,_,_,K=>K ()
 |s::r,h,a,i,K=>ST s h (a.add i) fun x=>Kw r h a (i+1) fun xs=>K (x,xs)
def aT (l:List Sc) (h:af) (a:Addr) (K:TS l→Prop):Prop:=Kw l h a 0 K
def SU:(s:Sc)→(s.T→Prop)→Prop
 | .int _,K=> ∃x:Int,K x
 | .bool,K=> ∃x:Bool,K x
 | .str,K=> ∃x:ByteArray,K x
 | .ptr,K=> ∃x:Option Addr,K x
 | .slice,K=> ∃(p:Option Addr) (l c:Nat),K (p,l,c)
 | .map,K=> ∃x:Option Nat,K x
 | .any,K=> ∃x:Value,K x
 | .adr,K=> ∃x:Addr,K x
def Ez:(l:List Sc)→(TS l→Prop)→Prop
 |[],K=>K ()
 |s::r,K=>SU s fun x=>Ez r fun xs=>K (x,xs)
def bB (l:List Sc) (x:TS l):Value:= .agg (aL l x).toArray
def UL:(s:Sc)→s.T
 | .int _=>(0:Int)
 | .bool=>false
 | .str=>ByteArray.mk #[]
 | .ptr=>(none:Option Addr)
 | .adr=>(default:Addr)
 | .slice=>((none:Option Addr),0,0)
 | .map=>(none:Option Nat)
 | .any=>Value.nilFunc
def zT:(l:List Sc)→TS l
 |[]=>()
 |s::r=>(UL s,zT r)
def be:List Nat→N3→N3
 |[],r=>r
 |i::l,r=> .one i (be l r)
end Go.Sh

