/- ShCode ShReg ShI, in one text. -/
import Derived.Test.YtdhpmegbmjoekaaGreatDoorShSound2
import Derived.Deep.LoopGhost
import Derived.RangeFuncLeaves
set_option linter.unusedVariables false
set_option linter.unusedSimpArgs false
namespace Go.Sh
section
def E7:List Oper→Nat→Option Oper
 |[],_=>none
 |x::_,0=>some x
 |_::xs,n+1=>E7 xs n
theorem md: ∀(l:List Oper)(i:Nat),E7 l i=l[i]?
 |[],_=>rfl
 |_::_,0=>rfl
 |_::xs,n+1=>by simpa[E7] using md xs n
def O9(P:Program)(n:Nat)(o:Oper)(K:Tm→ah→Prop)(t:Tm)(h:ah):Prop:=
 match G4 t o.op.operands.toList with
 |true=>Iz P o (OT t) h fun x a=>K (put n t o.dst x) a
 |false=>False
def Pa(b a:Bool)(A B:Prop):Prop:=
 match b,a with
 |true,true=>A
 |false,false=>A
 |true,false=>B
 |false,true=>B
def Up(c:List Oper)(o:Oper)(t:Tm)(R S:Tm→Prop):Prop:=
 match o.guard with
 |none=>R t
 |some (j,a)=>
  match E7 c j with
  |some e=>
   match e.dst with
   |some d=>
    match t d with
    | .known b=>Pa b a (R t) (S t)
    | .val (.bool b)=>
      (b=true→Pa true a (R (upd t d (.known true))) (S (upd t d (.known true))))∧
      (b=false→Pa false a (R (upd t d (.known false))) (S (upd t d (.known false))))
    | .val (.tuple _)=>S t
    |_=>False
   |none=>False
  |none=>False
def SB(P:Program)(n:Nat)(a:List Oper)(o:Oper)(K:Tm→ah→Prop)(t:Tm)(h:ah):Prop:=
 Up a o t (fun b=>O9 P n o K b h) (fun b=>K (put n b o.dst (.val undef)) h)
def Rh(P:Program)(n:Nat)(a:List Oper):List Oper→(Tm→ah→Prop)→Tm→ah→Prop
 |[],K,t,h=>K t h
 |o::r,K,t,h=>SB P n a o (Rh P n a r K) t h
inductive OR where
 |done
 |stop
 |one (i:Nat) (r:OR)
 |early (i:Nat) (r:OR)
 |alt (i:Nat) (r rest:OR)
abbrev gV:=List (Nat×Addr×Value)
def cQ(k:Nat)(a:Addr):List Value→Nat→gV
 |[],_=>[]
 |v::r,i=>(k,a.add i,v)::cQ k a r (i+1)
def zE(P:Program)(t:TypeId)(k:Nat)(a:Addr)(v:Value):gV:=
 match yc P t with
 |some (.agg _)=>match v with
  | .agg b=>cQ k a b.toList 0
  |v=>[(k,a,v)]
 |_=>[(k,a,v)]
def dX:gV→ah→Prop→Prop
 |[],_,K=>K
 |x::r,h,K=>aB h x.2.1=some x.2.2∧dX r h K
def waitsFor(o:Oper)(i:Nat):Bool:=o.after.toList.any fun e=>Region.binds .any e&&e.on==i
def pQ(o:Oper):gV→gV
 |[]=>[]
 |x::r=>match waitsFor o x.1 with|true=>pQ o r|false=>x::pQ o r
def quiet(P:Program)(o:Oper):Bool:=
 match Iu P o.op with
 | .loud=>false
 |_=>true
def zF(P:Program)(o:Oper)(W:gV)(K:Tm→ah→Prop)(t:Tm)(h:ah):Prop:=
 match quiet P o with
 |true=>K t h
 |false=>dX (pQ o W) h (K t h)
def T1(P:Program)(n:Nat)(k:Nat)(o:Oper)(K:gV→Tm→ah→Prop)(t:Tm)(h:ah):Prop:=
 match G4 t o.op.operands.toList with
 |true=>
  match o.op with
  | .load c a=>match(OT t a).v with
    | .pointer (some b)=>Dk P c h b fun v=>K (zE P c k b v) (put n t o.dst (.val v)) h
    |_=>False
  |_=>False
 |false=>False
def Vk(P:Program)(n:Nat)(k:Nat)(a:List Oper)(o:Oper)(K:gV→Tm→ah→Prop)(t:Tm)(h:ah):Prop:=
 Up a o t (fun b=>T1 P n k o K b h) (fun b=>K [] (put n b o.dst (.val undef)) h)
def xY(P:Program)(n:Nat)(a:List Oper):OR→gV→(Tm→ah→Prop)→Tm→ah→Prop
 | .done,_,K,t,h=>K t h
 | .stop,_,_,_,_=>True
 | .one i r,W,K,t,h=>match E7 a i with
   |some o=>SB P n a o (zF P o W (xY P n a r W K)) t h
   |none=>False
 | .early i r,W,K,t,h=>match E7 a i with
   |some o=>Vk P n i a o (fun c=>xY P n a r (c++W) K) t h
   |none=>False
 | .alt i r b,W,K,t,h=>match E7 a i with
   |some o=>match b with
    | .stop=>SB P n a o (zF P o W (xY P n a r W K)) t h
    |b=>SB P n a o (zF P o W (xY P n a r W K)) t h∧xY P n a b W K t h
   |none=>False
structure nL (n:Nat) (t:Tm) (a:Act):Prop where
 size:a.tmps.size=n
 at_: ∀i,t i= .bot∨(t i).v=a.tmps.getD i undef
 dfs:a.defers=(t n).ds
abbrev Fl(ρ:Option Nat):Fence:={Fence.wide with round:=ρ}
abbrev xZ(ρ:Option Nat)(P:Program)(b:Array Oper)(Q:Exit→Act→World→Prop)(i:Nat)(K:Act→World→Prop)(a:Act)(w:World):Prop:=wpOpIn (Fl ρ) 0 P b Q i K a w
theorem mY(t:Tm)(d:Nat)(x:Tv):upd t d x d=x:=by simp[upd]
theorem wY(t:Tm){d i:Nat}(x:Tv)(h:i≠d):upd t d x i=t i:=by
 unfold upd;cases hb:Nat.beq i d with
 |true=>exact absurd (W7 hb) h
 |false=>rfl
theorem nL.put{n:Nat}{t:Tm}{a:Act}(r:nL n t a)(b:Option Tmp)(x:Tv){v:Value}(g:x.v=v):nL n (put n t b x) (a.put b v):=by
 cases b with
 |none=>exact r
 |some d=>
  simp only[Sh.put,Act.put];cases hb:Nat.blt d n with
  |true=>
   have c:d<a.tmps.size:=by rw[r.size];exact OU hb
   refine⟨by simp[r.size],fun i=> ?_,by show a.defers=(upd t d x n).ds;rw[wY t x (show n≠d from fun e=>absurd (show d<n from OU hb) (by rw[e];exact Nat.lt_irrefl _))];exact r.dfs⟩;by_cases hi:i=d
   ·subst hi;right;show(upd t i x i).v=_;rw[mY];simp[c,g]
   ·show upd t d x i= .bot∨(upd t d x i).v=_;rw[wY t x hi];rcases r.at_ i with h|h
    ·exact .inl h
    ·right;rw[h];simp[Array.getElem?_setIfInBounds_ne (Ne.symm hi)]
  |false=>
   have f:a.tmps.size≤d:=by
    rw[r.size];rcases Nat.lt_or_ge d n with h|h
    ·have:Nat.blt d n=true:=Nat.ble_eq_true_of_le h;rw[hb]at this;cases this
    ·exact h
   have:a.tmps.setIfInBounds d v=a.tmps:=by
    apply Array.ext (by simp);intro i j k;rw[Array.getElem_setIfInBounds_ne];omega
   rw[this];exact r
theorem nL.known{n:Nat}{t:Tm}{a:Act}(r:nL n t a)(d:Nat)(b:Bool)(h:t d= .val (.bool b)):nL n (upd t d (.known b)) a:=by
 refine⟨r.size,fun i=> ?_,?_⟩
 ·by_cases hi:i=d
  ·subst hi;right;rw[mY];rcases r.at_ i with c|c
   ·rw[h]at c;cases c
   ·rw[←c,h];rfl
  ·rw[wY t _ hi];exact r.at_ i
 ·by_cases e:n=d
  ·subst e;rw[mY,r.dfs,h];rfl
  ·rw[wY t _ e];exact r.dfs
theorem nL.ev{n:Nat}{t:Tm}{a:Act}(r:nL n t a){x:Operand}(h:SZ t x=true):(OT t x).v=a.eval x:=by
 cases x with
 |tmp i=>
  rcases r.at_ i with b|b
  ·simp[SZ,b]at h
  ·exact b
 |const v=>cases v<;>rfl
 |global g=>rfl
 |func f=>rfl
theorem Ik{t:Tm}: ∀{l:List Operand},G4 t l=true→ ∀x∈l,SZ t x=true
 |[],_,x,hx=>by cases hx
 |y::r,h,x,hx=>by
  simp only[G4]at h;cases hy:SZ t y with
  |false=>simp[hy]at h
  |true=>
   simp only[hy]at h;cases hx with
   |head=>exact hy
   |tail _ a=>exact Ik h x a
def su:Op→Bool
 | .select .. =>false
 | .defer .. =>false
 |_=>true
theorem nL.exec{n:Nat}{t:Tm}{a:Act}(r:nL n t a){o:Oper}(c:su o.op=true)(h:G4 t o.op.operands.toList=true):
 execOp (fun x=>(OT t x).v) o=execOp a.eval o:=
 execOp_congr o (fun f b e=>by rw[e]at c;cases c) fun x d=>r.ev (Ik h x (WU.2 d))
theorem KK{n:Nat}{t:Tm}{a:Act}(r:nL n t a){c:Array Oper}{j d:Nat}{k:Oper}(i:c[j]? =some k)(g:k.dst=some d):
 (∀b,(t d).v= .bool b→t d≠ .bot→yielded c a.tmps j=some b)∧(∀l,(t d).v= .tuple l→t d≠ .bot→yielded c a.tmps j=none):=by
 have key: ∀v,(t d).v=v→t d≠ .bot→a.tmps.getD d undef=v:=fun v f e=>by
  rcases r.at_ d with h|h
  ·exact absurd h e
  ·rw[←h,f]
 constructor
 ·intro b f e;have:=key _ f e;unfold yielded;rw[i];simp only[Option.bind_some,g];rw[Array.getD_eq_getD_getElem?]at this;cases hg:a.tmps[d]? with
  |none=>rw[hg]at this;simp[undef]at this
  |some u=>rw[hg]at this;simp at this;rw[this]
 ·intro l f e;have:=key _ f e;unfold yielded;rw[i];simp only[Option.bind_some,g];rw[Array.getD_eq_getD_getElem?]at this;cases hg:a.tmps[d]? with
  |none=>rfl
  |some u=>rw[hg]at this;simp at this;rw[this]
def pR(P:Program)(o:Oper):Bool:=
 match Iu P o.op with
 | .pure| .load=>true
 |_=>false
def Vl(P:Program)(n:Nat)(o:Oper)(w:World)(K:Tm→ah→Prop)(a':Act)(a:World):Prop:=
 (quiet P o=true→dY w.heap a.heap)∧ ∃b,nL n b a'∧Fr w a∧K b a.heap
theorem KL{α:Type}(p:Program)(s:Sem α): ∀{h c:ah}{a:α},Fb p s h=some (a,c)→dY h c:=by
 induction s with
 |pure b=>intro h c a H;simp only[Fb,Option.some.injEq,Prod.mk.injEq]at H;obtain⟨_,rfl⟩:=H;exact dY.refl _
 |program k d=>intro h c a H;exact d p H
 |mark m k d=>intro h c a H;exact d H
 |new o k d=>intro h c a H;exact(dY.push h o).trans (d _ H)
 |_=>intro h c a H;simp[Fb]at H
theorem Ri{ρ:Option Nat}{P:Program}{n:Nat}{o:Oper}{K:Tm→ah→Prop}{t:Tm}{a:Act}{w:World}{Q:Exit→Act→World→Prop}(z:su o.op=true)(r:nL n t a)
 (H:O9 P n o K t w.heap):o.wpIn (Fl ρ) 0 P a w (Vl P n o w K) Q:=by
 unfold O9 at H;cases hok:G4 t o.op.operands.toList with
 |false=>simp[hok]at H
 |true=>
  simp only[hok]at H;have E:=r.exec z hok;unfold Oper.wpIn;refine⟨fun _ _=>trivial,?_⟩;rw[Oper.semAt_eq _ _ _ (fun c e=>by rw[e]at z;cases z),←E];have s:(Fl ρ).depth.isSome=true→1≤0:=fun h=>by cases h
  by_cases l:quiet P o=true
  ·have q: ∃v i,(execOp (fun x=>(OT t x).v) o).run P w= .ok (.value v) i∧Fr w i∧dY w.heap i.heap∧ ∃x:Tv,x.v=v∧K (put n t o.dst x) i.heap:=by
    unfold Iz at H;unfold quiet at l;split at H
    ·obtain⟨x,d,m⟩:=zK H;exact⟨_,w,m w,Fr.refl w,dY.refl _,x,rfl,d⟩
    ·obtain⟨x,d,m⟩:=zN H;exact⟨_,w,m w (dY.refl _),Fr.refl w,dY.refl _,x,rfl,d⟩
    ·unfold G5 at H;split at H
     ·rename_i v D m;obtain⟨u,i,b,f,C,B⟩:=Is P _ w.heap (fun u y=>u= .value v∧y=D) (FE P _ m _ ⟨rfl,rfl⟩) w rfl;subst C;exact⟨v,i,b,f,B▸KL P _ m,.val v,rfl,B▸H⟩
     ·exact H.elim
    ·rename_i p;rw[p]at l;cases l
   obtain⟨v,i,b,f,k,x,d,g⟩:=q;rw[b];exact⟨fun _=>k,_,r.put o.dst x d,f,g⟩
  ·have:=NB H w rfl;cases b:(execOp (fun x=>(OT t x).v) o).run P w with
   |halt e i=>rw[b]at this;exact this.elim
   |ok u i=>
    rw[b]at this;cases u<;>simp only at this<;>try exact this.elim
    ·obtain⟨f,x,d,g⟩:=this;exact⟨fun h=>absurd h l,_,r.put o.dst x d,f,g⟩
    ·obtain⟨f,x,d,g⟩:=this;exact⟨fun h=>absurd h l,_,r.put o.dst x d,f,g⟩
    ·obtain⟨f,p⟩:=this;refine⟨s,(callsIn_wide (n:=0).2 (p.mono ?_))⟩;rintro e A ⟨v,rfl,j,x,d,g⟩;exact⟨fun h=>absurd h l,_,r.put o.dst x d,f.trans j,g⟩
    ·obtain⟨f,p⟩:=this;refine⟨s,RoundIn.mono p ?_⟩;rintro e A ⟨v,rfl,j,x,d,g⟩;exact⟨fun h=>absurd h l,_,r.put o.dst x d,f.trans j,g⟩
theorem wZ{b a:Bool}{A B:Prop}(h:Pa b a A B):(b=a∧A)∨(b≠a∧B):=by
 cases b<;>cases a<;>simp_all [Pa]
theorem FB{n:Nat}{c:Array Oper}{o:Oper}{R S:Tm→Prop}{t:Tm}{a:Act}(r:nL n t a)
 (H:Up c.toList o t R S): ∃k,nL n k a∧
  ((Region.wanted o (yielded c a.tmps)=true∧R k)∨(Region.wanted o (yielded c a.tmps)=false∧S k)):=by
 unfold Up at H;cases hg:o.guard with
 |none=>simp only[hg]at H;exact⟨t,r,.inl ⟨by simp[Region.wanted,hg],H⟩⟩
 |some q=>
  obtain⟨j,h⟩:=q;simp only[hg,md]at H;cases hj:c.toList[j]? with
  |none=>simp[hj]at H
  |some l=>
   simp only[hj]at H;have i:c[j]? =some l:=by rw[←hj];simp
   cases hd:l.dst with
   |none=>simp[hd]at H
   |some d=>
    simp only[hd]at H;obtain⟨p,u⟩:=KK r i hd;have m: ∀b,yielded c a.tmps j=some b→Region.wanted o (yielded c a.tmps)=(b==h):=fun b f=>by simp[Region.wanted,hg,f]
    split at H
    ·rename_i b f;have g:=m b (p b (by rw[f];rfl) (by rw[f];simp));rcases wZ H with ⟨e,H⟩|⟨e,H⟩
     ·exact⟨t,r,.inl ⟨by rw[g];simp[e],H⟩⟩
     ·exact⟨t,r,.inr ⟨by rw[g];simp[e],H⟩⟩
    ·rename_i b f;have g:=m b (p b (by rw[f];rfl) (by rw[f];simp));cases b with
     |true=>
      rcases wZ (H.1 rfl) with ⟨e,H⟩|⟨e,H⟩
      ·exact⟨_,r.known d true f,.inl ⟨by rw[g];simp[e],H⟩⟩
      ·exact⟨_,r.known d true f,.inr ⟨by rw[g];simpa using e,H⟩⟩
     |false=>
      rcases wZ (H.2 rfl) with ⟨e,H⟩|⟨e,H⟩
      ·exact⟨_,r.known d false f,.inl ⟨by rw[g];simp[e],H⟩⟩
      ·exact⟨_,r.known d false f,.inr ⟨by rw[g];simpa using e,H⟩⟩
    ·rename_i s f;have g:=u s (by rw[f];rfl) (by rw[f];simp);exact⟨t,r,.inr ⟨by simp[Region.wanted,hg,g],H⟩⟩
    ·exact H.elim
theorem FC{P:Program}{n:Nat}{b:Array Oper}{o:Oper}{K:Tm→ah→Prop}{t:Tm}{a:Act}{h:ah}(r:nL n t a)
 (H:SB P n b.toList o K t h): ∃c,nL n c a∧
  ((Region.wanted o (yielded b a.tmps)=true∧O9 P n o K c h)∨(Region.wanted o (yielded b a.tmps)=false∧K (put n c o.dst (.val undef)) h)):=
 FB r H
theorem Pb{ρ:Option Nat}{P:Program}{n:Nat}{b:Array Oper}{i:Nat}{o:Oper}{K:Tm→ah→Prop}{t:Tm}{a:Act}{w:World}{Q:Exit→Act→World→Prop}
 (hi:b[i]? =some o) (d:su o.op=true) (r:nL n t a) (H:SB P n b.toList o K t w.heap):xZ ρ P b Q i (Vl P n o w K) a w:=by
 obtain⟨e,c,H|H⟩:=FC r H
 ·simp only[wpOpIn,hi,H.1,if_true];exact Ri d c H.2
 ·simp only[wpOpIn,hi,H.1,Ws,if_false];exact⟨fun _ _=>trivial,fun _=>dY.refl _,_,c.put o.dst _ rfl,Fr.refl w,H.2⟩
theorem Nl{P:Program}{n:Nat}{b:Array Oper}{o:Oper}{K:Tm→ah→Prop}{t:Tm}{a:Act}{h:ah}
 (p:su o.op=true) (d:pR P o=true) (r:nL n t a) (H:SB P n b.toList o K t h):
 ∃v i,YieldsIf P b (fun w=>dY h w.heap) o v a∧(Iu P o.op= .pure→Yields P b o v a)∧nL n i (a.put o.dst v)∧K i h:=by
 obtain⟨i,g,H|H⟩:=FC r H
 ·obtain⟨j,H⟩:=H;unfold O9 at H;cases hok:G4 i o.op.operands.toList with
  |false=>simp[hok]at H
  |true=>
   simp only[hok]at H;have l:=g.exec p hok;unfold Iz at H;unfold pR at d;split at H
   ·obtain⟨x,k,c⟩:=zK H;rw[l]at c;exact⟨x.v,_,.inl ⟨j,fun w _=>c w⟩,fun _=> .inl ⟨j,c⟩,g.put o.dst x rfl,k⟩
   ·rename_i f;obtain⟨x,k,c⟩:=zN H;rw[l]at c;exact⟨x.v,_,.inl ⟨j,fun w m=>c w m⟩,(fun e=>by rw[f]at e;cases e),g.put o.dst x rfl,k⟩
   ·rename_i f;rw[f]at d;cases d
   ·rename_i f;rw[f]at d;cases d
 ·exact⟨undef,_,.inr ⟨H.1,rfl⟩,fun _=> .inr ⟨H.1,rfl⟩,g.put o.dst (.val undef) rfl,H.2⟩
def kX(W:gV)(h:ah):Prop:= ∀x∈W,aB h x.2.1=some x.2.2
def Pc(k:Nat)(W:gV):Prop:= ∀x∈W,x.1=k
theorem kX.live{o:Oper}: ∀{W:gV}{h:ah},kX (pQ o W) h→ ∀x∈W,waitsFor o x.1=false→aB h x.2.1=some x.2.2
 |[],_,_,x,b,_=>by simp at b
 |y::r,h,a,x,b,hw=>by
  simp only[pQ]at a;cases hy:waitsFor o y.1 with
  |true=>
   simp only[hy]at a;rcases V5.1 b with rfl|b
   ·rw[hw]at hy;cases hy
   ·exact kX.live a x b hw
  |false=>
   simp only[hy]at a;rcases V5.1 b with rfl|b
   ·exact a x (by simp)
   ·exact kX.live (fun z c=>a z (V0 _ c)) x b hw
theorem zG: ∀(W:gV)(h:ah)(K:Prop),dX W h K↔kX W h∧K
 |[],h,K=>by simp[dX,kX]
 |x::r,h,K=>by
  simp only[dX,zG r h K,kX,V5,forall_eq_or_imp];constructor
  ·rintro⟨a,b,c⟩;exact⟨⟨a,b⟩,c⟩
  ·rintro⟨⟨a,b⟩,c⟩;exact⟨a,b,c⟩
theorem kX.keeps{W:gV}{h b:ah}(a:kX W h)(k:dY h b):kX W b:=fun x c=>k.cell (a x c)
theorem kX.append{W V:gV}{h:ah}(a:kX W h)(b:kX V h):kX (W++V) h:=fun x c=>by
 rcases VW.1 c with h|h
 ·exact a x h
 ·exact b x h
theorem Il(P:Program)(k:Nat): ∀(zs:List Value)(h:ah)(a:Addr)(i:Nat)(K:List Value→Prop),FG zs h a i K→
 ∃e,K e∧e.length=zs.length∧Pc k (cQ k a e i)∧kX (cQ k a e i) h∧ ∀w:World,kX (cQ k a e i) w.heap→ ∀c,(loadCellsFrom a i zs.length c).run P w= .ok (c++e.toArray) w:=by
 intro zs
 induction zs with
 |nil=>intro h a i K H;exact⟨[],H,rfl,fun x b=>by simp[cQ]at b,fun x b=>by simp[cQ]at b,fun w _ c=>by simp[loadCellsFrom]⟩
 |cons z zs o=>
  intro h a i K H;simp only[FG,Mb]at H;obtain⟨v,m,H⟩:=ks H;obtain⟨e,g,j,f,n,l⟩:=o h a (i+1) _ H;refine⟨v::e,g,by simp[j],?_,?_,fun w d c=> ?_⟩
  ·intro x b;simp only[cQ,V5]at b;rcases b with rfl|b
   ·rfl
   ·exact f x b
  ·intro x b;simp only[cQ,V5]at b;rcases b with rfl|b
   ·exact m
   ·exact n x b
  ·simp only[VS,loadCellsFrom,bj,yd (d (k,a.add i,v) (by simp[cQ]))];rw[l w (fun x b=>d x (by simp only[cQ,V5];exact .inr b))];simp
theorem Im{P:Program}{t:TypeId}{h:ah}{a:Addr}{K:Value→Prop}(k:Nat)(H:Dk P t h a K):
 ∃v,K v∧Pc k (zE P t k a v)∧kX (zE P t k a v) h∧ ∀w:World,kX (zE P t k a v) w.heap→(loadVar t a).run P w= .ok v w:=by
 unfold Dk at H;cases hty:yc P t with
 |none=>simp[hty]at H
 |some p=>
  simp only[hty]at H;unfold yc at hty;cases hu:P.underlying t with
  |none=>simp[hu]at hty
  |some d=>
   cases hi:P.info? t with
   |none=>simp[hu,hi]at hty
   |some i=>
    simp only[hu,hi]at hty;have b:yc P t=some p:=by unfold yc;simp only[hu,hi];exact hty
    cases hd:zJ d with
    |false=>
     simp only[hd]at hty;cases hz:i.zero with
     |none=>simp[hz]at hty
     |some z=>
      simp only[hz,Option.some.injEq]at hty;subst hty;obtain⟨v,o,H⟩:=ks H;refine⟨v,H,?_⟩;simp only[zE,b];refine⟨fun x e=>by simp only[VK]at e;subst e;rfl,fun x e=>by simp only[VK]at e;subst e;exact o,fun w l=> ?_⟩;simp only[loadVar,bj,iX hu,hd,Ws,if_false,yd (l (k,a,v) (by simp))]
    |true=>
     cases hz:i.zero with
     |none=>simp[hz,hd]at hty
     |some z=>
      cases z<;>simp only[hz,hd]at hty<;>try (cases hty;done)
      rename_i zs;cases hn:Nat.beq zs.size i.size with
      |false=>simp[hn]at hty
      |true=>
       simp only[hn,Option.some.injEq]at hty;subst hty;obtain⟨r,m,q,f,l,n⟩:=Il P k zs.toList h a 0 _ H;refine⟨_,m,?_⟩;simp only[zE,b];refine⟨f,l,fun w c=> ?_⟩;have g:=n w c #[];have j:i.size=zs.toList.length:=by rw[Xo];exact(W7 hn).symm
       simp only[loadVar,bj,iX hu,hd,if_true,fc hi,loadCells,j,g,bN,Array.empty_append]
theorem KM{P:Program}{n:Nat}{e:Array Oper}{o:Oper}{K:gV→Tm→ah→Prop}{t:Tm}{a:Act}{h:ah}{k:Nat}
 (u:su o.op=true) (r:nL n t a) (H:Vk P n k e.toList o K t h):
 ∃v f W,Pc k W∧YieldsIf P e (fun w=>kX W w.heap) o v a∧kX W h∧nL n f (a.put o.dst v)∧K W f h:=by
 obtain⟨f,j,⟨z,H⟩|H⟩:=FB r H
 ·unfold T1 at H;cases hok:G4 f o.op.operands.toList with
  |false=>simp[hok]at H
  |true=>
   simp only[hok]at H;have p:=j.exec u hok;split at H
   ·rename_i C x q;split at H
    ·rename_i A d;obtain⟨v,y,i,c,s⟩:=Im k H;refine⟨v,_,_,i,.inl ⟨z,fun w b=> ?_⟩,c,j.put o.dst (.val v) rfl,y⟩;rw[←p];obtain⟨m,B,l,pos,g,guard⟩:=o;subst q;simp only[execOp,Instr.loadAt,Instr.sureAddr,bj,d,bN,s w b]
    ·exact H.elim
   ·exact H.elim
 ·exact⟨undef,_,[],fun x d=>by simp at d,.inr ⟨H.1,rfl⟩,fun x d=>by simp at d,j.put o.dst (.val undef) rfl,H.2⟩
end
section
def uZ(P:Program)(a:Array Oper)(i:Nat):Prop:= ∀o,a[i]? =some o→quiet P o=true
def q7(ρ:Option Nat)(P:Program)(c:Array Oper)(Q:Exit→Act→World→Prop)(W:gV):Nat→Array Bool→Act→World→Prop
 |0,b,a,w=>Region.ready .any c b=[]∧Q .normal a w
 |fuel+1,b,a,w=>
  (Region.ready .any c b=[]→Q .normal a w)∧
  ∀i∈Region.ready .any c b,xZ ρ P c Q i (fun e d=>(uZ P c i→dY w.heap d.heap)∧(∀o,c[i]? =some o→quiet P o=false→kX (pQ o W) d.heap)∧q7 ρ P c Q W fuel (b.setIfInBounds i true) e d) a w
theorem Dg{ρ:Option Nat}{P:Program}{d:Array Oper}{Q:Exit→Act→World→Prop}{W:gV}: ∀(b:Nat)(c:Array Bool)(a:Act)(w:World),q7 ρ P d Q W b c a w→wpAnyIn (Fl ρ) 0 P .any d Q b c a w
 |0,_,_,_,h=>h
 |b+1,_,_,_,h=>⟨h.1,fun i hi=>wpOpIn_mono (fun e g f=>Dg b _ e g f.2.2) (h.2 i hi)⟩
theorem q8(o:Oper): ∀(V W:gV),∀x∈pQ o W,x∈pQ o (V++W)
 |[],_,_,hx=>hx
 |y::r,W,x,hx=>by
  simp only[Yg,pQ];split
  ·exact q8 o r W x hx
  ·exact V0 _ (q8 o r W x hx)
theorem AF{ρ:Option Nat}{P:Program}{d:Array Oper}{Q:Exit→Act→World→Prop}{V W:gV}: ∀(b:Nat)(c:Array Bool)(a:Act)(w:World),q7 ρ P d Q (V++W) b c a w→q7 ρ P d Q W b c a w
 |0,_,_,_,h=>h
 |b+1,_,_,_,h=>⟨h.1,fun i hi=>wpOpIn_mono (fun f l e=>⟨e.1,fun o g j x k=>e.2.1 o g j x (q8 o V W x k),AF b _ f l e.2.2⟩) (h.2 i hi)⟩
theorem uo{ρ:Option Nat}{P:Program}{b:Array Oper}{Q:Exit→Act→World→Prop}{S:World→Prop}{i:Nat}{o:Oper}{v:Value}{a:Act}(hi:b[i]? =some o)(f:su o.op=true)(k:YieldsIf P b S o v a)
 {K:Act→World→Prop} {w:World} (g:S w) (h:K (a.put o.dst v) w):xZ ρ P b Q i K a w:=by
 unfold xZ wpOpIn;simp only[hi];rcases k with ⟨d,j⟩|⟨d,rfl⟩
 ·simp only[d,if_true,Oper.wpIn,Oper.semAt_eq _ _ o (fun c e=>by rw[e]at f;cases f),j w g,Oper.uponIn];exact⟨fun _ _=>trivial,h⟩
 ·simp only[d,Ws,if_false];exact⟨fun _ _=>trivial,h⟩
theorem Io{ρ:Option Nat}{P:Program}{i:Array Oper}{Q:Exit→Act→World→Prop}{S:World→Prop}{j:Nat}{k m:Oper}{v:Value}(L:i[j]? =some m)(E:k.apart i m=true)
 (z:su k.op=true) (o:su m.op=true)
 (D: ∀c a w,Q (.panic c) (a.put k.dst v) w→Q (.panic c) a w) {K:Act→World→Prop} {a:Act} {w:World}
 (p:YieldsIf P i S k v a) (h:xZ ρ P i Q j K (a.put k.dst v) w):
 xZ ρ P i Q j (fun H G=>YieldsIf P i S k v H∧K (H.put k.dst v) G) a w:=by
 obtain⟨I,q,J⟩:=Oper.apart_spec E;have A: ∀y b,k.op≠ .select y b:=fun y b e=>by rw[e]at z;cases z
 have B: ∀y b,m.op≠ .select y b:=fun y b e=>by rw[e]at o;cases o
 have g: ∀(a:Act),YieldsIf P i S k v a→ ∀u,YieldsIf P i S k v (a.put m.dst u):=fun a p u=>
  p.of_same (execOp_put k A a m.dst u J) (wanted_put k a m.dst u J)
 have s: ∀d,YieldsIf P i S k v {a with defers:=d::a.defers}:=fun d=>p.of_same rfl rfl;have nd: ∀t,Oper.semAt (Fl ρ).round t m=execOp t m:=fun t=>Oper.semAt_eq _ _ m (fun c e=>by rw[e]at o;cases o);unfold xZ wpOpIn at *;simp only[L]at *;rw[wanted_put m a k.dst v I]at h;split
 ·rename_i F;simp only[F,if_true]at h;unfold Oper.wpIn at *;refine⟨fun _ _=>trivial,?_⟩;have h:=h.2;rw[nd,execOp_put m B a k.dst v I]at h;rw[nd];generalize (execOp a.eval m).run P w=r at *;cases r with
  |ok x G=>
   cases x<;>simp only[Oper.uponIn]at h ⊢
   case value u=>exact⟨g a p u,by rw[←Act.put_comm a v u q];exact h⟩
   case skip=>exact⟨g a p _,by rw[←Act.put_comm a v undef q];exact h⟩
   case defer d=>
    refine⟨g _ (s d) _,?_⟩;rw[←Act.put_comm _ v undef q,←Act.put_defers];exact h
   case enter f args=>
    refine⟨h.1,CallsIn.mono h.2 fun e C n=> ?_⟩;cases e with
    |returned u=>exact⟨g a p u,by rw[←Act.put_comm a v u q];exact n⟩
    |panicked c=>exact D _ _ _ n
    |outgrown=>exact n
   case row row args=>exact⟨h.1,RowsIn.mono h.2 fun u C n=>⟨g a p u,by rw[←Act.put_comm a v u q];exact n⟩⟩
   case round l f tmps assign body=>
    refine⟨h.1,RoundIn.mono h.2 fun e C n=> ?_⟩;cases e with
    |returned u=>exact⟨g a p u,by rw[←Act.put_comm a v u q];exact n⟩
    |panicked c=>exact D _ _ _ n
    |outgrown=>exact n
  |halt x G=>
   cases x<;>simp only[Oper.uponIn]at h ⊢
   case panic u=>exact D _ _ _ h
 ·rename_i F;simp only[F]at h;exact⟨fun _ _=>trivial,g a p _,by rw[←Act.put_comm a v undef q];exact h.2⟩
theorem q9{ρ:Option Nat}{P:Program}{d:Array Oper}{Q:Exit→Act→World→Prop}{W:gV}{S:World→Prop}{i:Nat}{C:Oper}{v:Value}(hi:d[i]? =some C)(G:uZ P d i)
 (l: ∀(j:Nat)(o:Oper),d[j]? =some o→su o.op=true)
 (V: ∀c a w,Q (.panic c) (a.put C.dst v) w→Q (.panic c) a w):
 ∀(g:Nat)(b:Array Bool)(a:Act)(w:World),
  (∀j m,d[j]? =some m→j≠i→b.getD j true=false→(∀e∈m.after,Region.binds .any e=true→e.on≠i)→C.apart d m=true)→
  (∀j m,d[j]? =some m→j≠i→b.getD j true=false→(∀e∈m.after,Region.binds .any e=true→e.on≠i)→
   ∀w D:World,S w→(uZ P d j→dY w.heap D.heap)→(quiet P m=false→kX (pQ m W) D.heap)→S D)→
  i∈Region.ready .any d b→YieldsIf P d S C v a→S w→
  q7 ρ P d Q W g (b.setIfInBounds i true) (a.put C.dst v) w→q7 ρ P d Q W (g+1) b a w:=by
 intro g
 induction g with
 |zero=>
  intro b a w _ _ A K I H;refine⟨fun h=>(by rw[h]at A;cases A),fun j J=> ?_⟩;by_cases f:j=i
  ·subst f;exact uo hi (l _ _ hi) K I ⟨fun _=>dY.refl _,fun o R N=>absurd (G o R) (by rw[N];simp),H⟩
  ·have:=ready_mono J f;rw[H.1]at this;cases this
 |succ g Z=>
  intro b a w p r A K I H;refine⟨fun h=>(by rw[h]at A;cases A),fun j J=> ?_⟩;by_cases f:j=i
  ·subst f;exact uo hi (l _ _ hi) K I ⟨fun _=>dY.refl _,fun o R N=>absurd (G o R) (by rw[N];simp),H⟩
  ·have x:=H.2 j (ready_mono J f);obtain⟨q,m,s,E⟩:=mem_ready.1 J;have t: ∀e∈m.after,Region.binds .any e=true→e.on≠i:=fun e Y X M=>by
    have x:=E e Y X;have h0:=(mem_ready.1 A).1;rw[M]at x;rcases Nat.lt_or_ge i b.size with L|L
    ·simp[L]at h0 x;rw[h0]at x;cases x
    ·simp[X4 L]at x
   have U:=Io s (p j m s f q t) (l i C hi) (l j m s) V K x;have u: ∀k,(b.setIfInBounds j true).getD k true=false→b.getD k true=false:=fun k n=>by
    by_cases F:j=k
    ·subst F;exact q
    ·rw[getD_set_ne true F]at n;exact n
   refine wpOpIn_mono (fun T D B=>⟨B.2.1,B.2.2.1,Z (b.setIfInBounds j true) T D (fun k ok O y n z=>p k ok O y (u k n) z)
    (fun k ok O y n z=>r k ok O y (u k n) z) (ready_mono A (Ne.symm f)) B.1 (r j m s f q t w D I B.2.1 (B.2.2.1 m s)) ?_⟩) U
   rw[Array.setIfInBounds_comm _ _ f];exact B.2.2.2
def has(m i:Nat):Bool:=Nat.testBit m i
def u5(done:Nat)(o:Oper):Bool:=o.after.toList.all fun e=> !Region.binds .any e||has done e.on
def w5(a:List Oper)(done i:Nat):Bool:=
 match E7 a i with
 |some o=> !has done i&&u5 done o
 |none=>false
def Ip(P:Program)(a:Array Oper)(c:Oper)(b:Bool)(done i:Nat):List Oper→Nat→Bool
 |[],_=>true
 |o::r,j=>(j==i||has done j||waitsFor o i||(c.apart a o&&(!b||quiet P o)))&&Ip P a c b done i r (j+1)
def KN(P:Program)(o:Oper):Bool:=
 match Iu P o.op with
 | .pure=>true
 |_=>false
def Pd(P:Program)(a:Array Oper)(done i:Nat):Bool:=
 match E7 a.toList i with
 |some o=>pR P o&&Ip P a o (!KN P o) done i a.toList 0
 |none=>false
def KO(o:Oper):Bool:=
 match o.op with
 | .load .. =>true
 |_=>false
def Pe(P:Program)(a:Array Oper)(done i:Nat):Bool:=
 match E7 a.toList i with
 |some o=>KO o&&Ip P a o false done i a.toList 0
 |none=>false
def re(b:List Oper)(done:Nat)(a:List Nat):List Oper→Nat→Bool
 |[],_=>true
 |o::r,j=>(has done j|| !u5 done o||a.contains j)&&re b done a r (j+1)
def u6(done:Nat):List Oper→Nat→Bool
 |[],_=>true
 |_::r,j=>has done j&&u6 done r (j+1)
def schOk(P:Program)(b:Array Oper):OR→(done:Nat)→(a:List Nat)→Bool
 | .done,done,a=>a.isEmpty&&u6 done b.toList 0
 | .stop,done,a=> !a.isEmpty&&re b.toList done a b.toList 0
 | .one i r,done,a=>a.isEmpty&&w5 b.toList done i&&Pd P b done i&&schOk P b r (done|||2 ^ i) []
 | .early i r,done,a=>a.isEmpty&&w5 b.toList done i&&Pe P b done i&&schOk P b r (done|||2 ^ i) []
 | .alt i r c,done,a=>w5 b.toList done i&&schOk P b r (done|||2 ^ i) []&&schOk P b c done (i::a)
structure E8 (ops:Array Oper) (done:Nat) (listed:Array Bool):Prop where
 size:listed.size=ops.size
 bit: ∀i,i<ops.size→listed.getD i true=has done i
theorem E8.set{a:Array Oper}{done:Nat}{listed:Array Bool}(b:E8 a done listed)(i:Nat):E8 a (done|||2 ^ i) (listed.setIfInBounds i true):=by
 refine⟨by simp[b.size],fun j c=> ?_⟩;unfold has;rw[Nat.testBit_or,Yc];by_cases h:i=j
 ·subst h;simp[b.size,c]
 ·rw[getD_set_ne true h,b.bit j c];simp[has,h]
theorem E8.false_of{a:Array Oper}{done:Nat}{listed:Array Bool}(b:E8 a done listed){i:Nat}(hi:i<a.size):listed.getD i false=has done i:=by
 rw[←b.bit i hi];simp[b.size,hi]
theorem gC{a:Array Oper}{done:Nat}{listed:Array Bool}(b:E8 a done listed)(g: ∀(j:Nat) (o:Oper),a[j]? =some o→ ∀e∈o.after,e.on<a.size)(j:Nat):
 j∈Region.ready .any a listed↔ ∃o,a[j]? =some o∧has done j=false∧u5 done o=true:=by
 rw[mem_ready];constructor
 ·rintro⟨h0,o,d,c⟩;have k:j<a.size:=(Wi.1 d).1;refine⟨o,d,by rw[←b.bit j k];exact h0,?_⟩;simp only[u5,Xy,X6,Xg];intro e f;cases i:Region.binds .any e with
  |false=>exact .inl rfl
  |true=>right;rw[←b.false_of (g j o d e (WU.1 f))];exact c e (WU.1 f) i
 ·rintro⟨o,d,h0,c⟩;have k:j<a.size:=(Wi.1 d).1;refine⟨by rw[b.bit j k];exact h0,o,d,fun e f i=> ?_⟩;simp only[u5,Xy,X6,Xg]at c;rcases c e (WU.2 f) with h|h
  ·rw[i]at h;cases h
  ·rw[b.false_of (g j o d e f)];exact h
theorem w6{P:Program}{f:Array Oper}{p:Oper}{n:Bool}{done i:Nat}: ∀{l:List Oper}{j:Nat},Ip P f p n done i l j=true→
 ∀k o,l[k]? =some o→j+k≠i→has done (j+k)=false→(∀e∈o.after,Region.binds .any e=true→e.on≠i)→p.apart f o=true∧(n=true→quiet P o=true)
 |[],_,_,k,o,ho=>by simp at ho
 |x::r,j,h,k,o,ho=>by
  intro c b d;simp only[Ip,V8]at h;obtain⟨a,q⟩:=h;cases k with
  |zero=>
   simp only[List.getElem?_cons_zero,Option.some.injEq]at ho;subst ho;simp only[We]at c b;simp only[X6,beq_iff_eq,c,false_or,b,Ws,V8]at a;rcases a with a|a
   ·simp only[waitsFor,List.any_eq_true,V8,beq_iff_eq]at a;obtain⟨e,t,s,m⟩:=a;exact absurd m (d e (WU.1 t) s)
   ·refine⟨a.1,fun u=> ?_⟩;rcases a.2 with g|g
    ·rw[u]at g;simp at g
    ·exact g
  |succ k=>
   have:=w6 q k o (by simpa using ho) (by omega) (by rw[show j+1+k=j+(k+1) by omega];exact b) d;exact this
theorem sv{c:List Oper}{done:Nat}{a:List Nat}: ∀{l:List Oper}{j:Nat},re c done a l j=true→
 ∀k o,l[k]? =some o→has done (j+k)=false→u5 done o=true→j+k∈a
 |[],_,_,k,o,ho=>by simp at ho
 |x::r,j,h,k,o,ho=>by
  intro b d;simp only[re,V8]at h;cases k with
  |zero=>
   simp only[List.getElem?_cons_zero,Option.some.injEq]at ho;subst ho;simp only[We]at b ⊢;have:=h.1;simp only[b,d,Bool.not_true,Bool.or_false,Bool.false_or]at this;simpa using this
  |succ k=>
   have:=sv h.2 k o (by simpa using ho) (by rw[show j+1+k=j+(k+1) by omega];exact b) d;rw[show j+1+k=j+(k+1) by omega]at this;exact this
theorem uq{done:Nat}: ∀{l:List Oper}{j:Nat},u6 done l j=true→ ∀k o,l[k]? =some o→has done (j+k)=true
 |[],_,_,k,o,ho=>by simp at ho
 |x::r,j,h,k,o,ho=>by
  simp only[u6,V8]at h;cases k with
  |zero=>simpa using h.1
  |succ k=>
   have:=uq h.2 k o (by simpa using ho);rw[show j+1+k=j+(k+1) by omega]at this;exact this
def j3(a:List Oper):Bool:=a.all fun o=>su o.op&&o.after.toList.all fun e=>Nat.blt e.on a.length
theorem j4{a:Array Oper}(h:j3 a.toList=true){i:Nat}{o:Oper}(b:a[i]? =some o):su o.op=true:=by
 simp only[j3,Xy,V8]at h;exact(h o (WU.2 (X8 b))).1
theorem Iq{a:Array Oper}(h:j3 a.toList=true)(j:Nat)(o:Oper)(c:a[j]? =some o)(e:Edge)(b:e∈o.after):e.on<a.size:=by
 simp only[j3,Xy,V8]at h;have:=(h o (WU.2 (X8 c))).2 e (WU.2 b);have:=OU this;simp only[Xo]at this;exact this
def ur(n:Nat)(w0:World)(b:Exit→Tm→ah→Prop)(e:Exit)(a:Act)(w:World):Prop:=
 (match e with| .panic _=>False| .outgrown=>False|_=>True)∧ ∃t,nL n t a∧Fr w0 w∧b e t w.heap
def pc(listed:Array Bool):Nat:=listed.toList.count false
theorem rg{listed:Array Bool}{i:Nat}(hi:i<listed.size)(h:listed.getD i true=false):pc listed=pc (listed.setIfInBounds i true)+1:=by
 have a:i<listed.toList.length:=by simpa using hi
 have b:listed.toList[i]=false:=by simpa[hi] using h
 unfold pc;rw[Array.toList_setIfInBounds,List.count_set a];simp only[b];have:0<listed.toList.count false:=List.count_pos_iff.2 (b▸VN a);show _=_-1+0+1;omega
theorem oq{P:Program}{b:Array Oper}{i:Nat}{o:Oper}(c:b[i]? =some o):uZ P b i↔quiet P o=true:=
 ⟨fun h=>h o c,fun h d a=>by rw[c]at a;cases a;exact h⟩
theorem ut{P:Program}{o:Oper}{W:gV}{K:Tm→ah→Prop}{t:Tm}{h:ah}(H:zF P o W K t h):(quiet P o=false→kX (pQ o W) h)∧K t h:=by
 unfold zF at H;cases hq:quiet P o with
 |true=>simp only[hq]at H;exact⟨fun h=>(by cases h),H⟩
 |false=>simp only[hq]at H;exact⟨fun _=>((zG _ h _).1 H).1,((zG _ h _).1 H).2⟩
theorem GY{P:Program}{o:Oper}(h:KO o=true):quiet P o=true:=by
 obtain⟨c,d,b,pos,a,guard⟩:=o;cases d<;>first|rfl|(simp[KO]at h)
theorem B4{P:Program}{o:Oper}(h:pR P o=true):quiet P o=true:=by
 unfold pR at h;unfold quiet;split at h<;>simp_all
theorem Nm{ρ:Option Nat}{P:Program}{n:Nat}{d:Array Oper}{V:Exit→Tm→ah→Prop}{w0:World}(hp:j3 d.toList=true)(s:OR):
 (∀(W:gV)(done:Nat)(listed:Array Bool)(t:Tm)(a:Act)(w:World),schOk P d s done []=true→E8 d done listed→nL n t a→Fr w0 w→
  xY P n d.toList s W (V .normal) t w.heap→q7 ρ P d (ur n w0 V) W (pc listed) listed a w)∧
 (∀(W:gV)(done:Nat)(q:List Nat)(listed:Array Bool)(t:Tm)(a:Act)(w:World),schOk P d s done q=true→E8 d done listed→nL n t a→Fr w0 w→
  (s= .stop∨ ∃i r G,s= .alt i r G)→
  xY P n d.toList s W (V .normal) t w.heap→ ∀j∈Region.ready .any d listed,j∉q→
   xZ ρ P d (ur n w0 V) j (fun a' R=>(uZ P d j→dY w.heap R.heap)∧(∀o,d[j]? =some o→quiet P o=false→kX (pQ o W) R.heap)∧q7 ρ P d (ur n w0 V) W (pc listed-1) (listed.setIfInBounds j true) a' R) a w):=by
 have Q:=Iq hp;have U: ∀(j:Nat)(o:Oper),d[j]? =some o→su o.op=true:=fun j o u=>j4 hp u
 induction s with
 |done=>
  refine⟨fun W done listed t a w g b r K H=> ?_,fun _ _ _ _ _ _ _ _ _ _ _ h=> ?_⟩
  ·simp only[schOk,V8]at g;have M:Region.ready .any d listed=[]:=by
    rw[List.eq_nil_iff_forall_not_mem];intro j u;obtain⟨o,E,h0,_⟩:=(gC b Q j).1 u;have:=uq g.2 j o (by rw[←E];simp);rw[SN,h0]at this;cases this
   have hq:ur n w0 V .normal a w:=⟨trivial,t,r,K,H⟩;cases pc listed with
   |zero=>exact⟨M,hq⟩
   |succ k=>exact⟨fun _=>hq,by rw[M];intro i hi;cases hi⟩
  ·rcases h with h|⟨_,_,_,h⟩<;>cases h
 |stop=>
  refine⟨fun W done listed t a w g=>by simp[schOk]at g,fun W done q listed t a w g b r K _ H j u X=> ?_⟩;simp only[schOk,V8]at g;obtain⟨o,E,h0,hb⟩:=(gC b Q j).1 u;have:=sv g.2 j o (by rw[←E];simp) (by rw[SN];exact h0) hb;rw[SN]at this;exact absurd this X
 |early i r ih=>
  refine⟨fun W done listed t a w g b C K H=> ?_,fun _ _ _ _ _ _ _ _ _ _ _ h=> ?_⟩
  ·simp only[schOk,V8]at g;obtain⟨⟨⟨_,m⟩,f⟩,g⟩:=g;simp only[xY,md]at H;unfold w5 at m;unfold Pe at f;rw[md]at m f;cases E:d.toList[i]? with
   |none=>simp[E]at m
   |some o=>
    simp only[E]at H m f;have l:d[i]? =some o:=by rw[←E];simp
    have hi:i<d.size:=(Wi.1 l).1;simp only[V8,Xg]at m f;have L:i∈Region.ready .any d listed:=(gC b Q i).2 ⟨o,l,m.1,m.2⟩;obtain⟨v,t',W',ag,hy,aa,I,H'⟩:=KM (j4 hp l) C H;have N:=ih.1 _ _ _ t' (a.put o.dst v) w g (b.set i) I K H';have F:=rg (listed:=listed) (i:=i) (by rw[b.size];exact hi) (by rw[b.bit i hi];exact m.1);rw[F];have A:=fun j J (u:d[j]? =some J) (D:j≠i) (z:listed.getD j true=false) y=>
     w6 f.2 j J (by rw[←u];simp) (by omega) (by rw[SN,←b.bit j (Wi.1 u).1];exact z) y
    refine AF _ _ _ _ (q9 (S:=fun R=>kX W' R.heap) l ((oq l).2 (GY f.1)) U (fun c a w h=>h.1.elim) _ listed a w (fun j J u D z y=>(A j J u D z y).1)
     (fun j J u D z y w1 w2 h1 h2 h3=> ?_) L hy aa N)
    cases hqj:quiet P J with
    |true=>exact h1.keeps (h2 ((oq u).2 hqj))
    |false=>
     intro x hx;refine(h3 hqj).live x (Wt _ hx) ?_;rw[ag x hx];cases hw:waitsFor J i with
     |false=>rfl
     |true=>
      simp only[waitsFor,List.any_eq_true,V8,beq_iff_eq]at hw;obtain⟨e,he,hb,ai⟩:=hw;exact absurd ai (y e (WU.1 he) hb)
  ·rcases h with h|⟨_,_,_,h⟩<;>cases h
 |one i r ih=>
  refine⟨fun W done listed t a w g b C K H=> ?_,fun _ _ _ _ _ _ _ _ _ _ _ h=> ?_⟩
  ·simp only[schOk,V8]at g;obtain⟨⟨⟨_,m⟩,f⟩,g⟩:=g;simp only[xY,md]at H;unfold w5 at m;unfold Pd at f;rw[md]at m f;cases E:d.toList[i]? with
   |none=>simp[E]at m
   |some o=>
    simp only[E]at H m f;have l:d[i]? =some o:=by rw[←E];simp
    have hi:i<d.size:=(Wi.1 l).1;simp only[V8,Xg]at m f;have L:i∈Region.ready .any d listed:=(gC b Q i).2 ⟨o,l,m.1,m.2⟩;obtain⟨v,t',hy,ap,I,H'⟩:=Nl (j4 hp l) f.1 C H;have N:=ih.1 W _ _ t' (a.put o.dst v) w g (b.set i) I K (ut H').2;have F:=rg (listed:=listed) (i:=i) (by rw[b.size];exact hi) (by rw[b.bit i hi];exact m.1);rw[F];have A:=fun j J (u:d[j]? =some J) (D:j≠i) (z:listed.getD j true=false) y=>
     w6 f.2 j J (by rw[←u];simp) (by omega) (by rw[SN,←b.bit j (Wi.1 u).1];exact z) y
    have ad:=(oq l).2 (B4 f.1);cases hpu:KN P o with
    |true=>
     have ao:Yields P d o v a:=ap (by unfold KN at hpu;split at hpu<;>simp_all);exact q9 (S:=fun _=>True) l ad U (fun c a w h=>h.1.elim) _ listed a w (fun j J u D z y=>(A j J u D z y).1)
      (fun _ _ _ _ _ _ _ _ _ _ _=>trivial) L ao.yieldsIf trivial N
    |false=>
     refine q9 (S:=fun R=>dY w.heap R.heap) l ad U (fun c a w h=>h.1.elim) _ listed a w (fun j J u D z y=>(A j J u D z y).1)
      (fun j J u D z y w1 w2 h1 h2 _=>h1.trans (h2 fun o2 T=> ?_)) L hy (dY.refl _) N
     rw[u]at T;cases T;exact(A j J u D z y).2 (by simp[hpu])
  ·rcases h with h|⟨_,_,_,h⟩<;>cases h
 |alt i r G ar O=>
  have B: ∀(W:gV)(done:Nat)(q:List Nat)(listed:Array Bool)(t:Tm)(a:Act)(w:World),schOk P d (.alt i r G) done q=true→E8 d done listed→nL n t a→Fr w0 w→
   xY P n d.toList (.alt i r G) W (V .normal) t w.heap→ ∀j∈Region.ready .any d listed,j∉q→
    xZ ρ P d (ur n w0 V) j (fun a' R=>(uZ P d j→dY w.heap R.heap)∧(∀o,d[j]? =some o→quiet P o=false→kX (pQ o W) R.heap)∧q7 ρ P d (ur n w0 V) W (pc listed-1) (listed.setIfInBounds j true) a' R) a w:=by
   intro W done q listed t a w g b C K H j u X;simp only[schOk,V8]at g;obtain⟨⟨m,ab⟩,p⟩:=g;simp only[xY,md]at H;unfold w5 at m;rw[md]at m;cases E:d.toList[i]? with
   |none=>simp[E]at m
   |some o=>
    simp only[E]at H m;have l:d[i]? =some o:=by rw[←E];simp
    have hi:i<d.size:=(Wi.1 l).1;simp only[V8,Xg]at m;have an:SB P n d.toList o (zF P o W (xY P n d.toList r W (V .normal))) t w.heap:=by
     cases G<;>first|exact H|exact H.1
    by_cases Y:j=i
    ·subst Y;refine wpOpIn_mono (fun a' R h=> ?_) (Pb l (j4 hp l) C an);obtain⟨Z,t',I,aj,H'⟩:=h;have:=ar.1 W _ _ t' a' R ab (b.set j) I (K.trans aj) (ut H').2;have F:=rg (listed:=listed) (i:=j) (by rw[b.size];exact hi) (by rw[b.bit j hi];exact m.1);rw[F];exact⟨fun hq=>Z ((oq l).1 hq),fun o2 T hq=>(by rw[l]at T;cases T;exact(ut H').1 hq),this⟩
    ·cases hrest:G with
     |done=>subst hrest;simp[schOk]at p
     |one i2 r2=>subst hrest;simp[schOk]at p
     |early i2 r2=>subst hrest;simp[schOk]at p
     |stop=>
      subst hrest;exact O.2 W done (i::q) listed t a w p b C K (.inl rfl) trivial j u (by simp[Y,X])
     |alt i2 r2 aw=>
      subst hrest;exact O.2 W done (i::q) listed t a w p b C K (.inr ⟨_,_,_,rfl⟩) H.2 j u (by simp[Y,X])
  refine⟨fun W done listed t a w g b C K H=> ?_,fun W done q listed t a w g b C K _ H=>B W done q listed t a w g b C K H⟩;have hB:=B W done [] listed t a w g b C K H;have m:i∈Region.ready .any d listed:=by
   simp only[schOk,V8]at g;have m:=g.1.1;unfold w5 at m;rw[md]at m;cases E:d.toList[i]? with
   |none=>simp[E]at m
   |some o=>
    simp only[E,V8,Xg]at m;exact(gC b Q i).2 ⟨o,by rw[←E];simp,m.1,m.2⟩
  have hi:i<listed.size:=by
   obtain⟨o,E,_⟩:=(gC b Q i).1 m;rw[b.size];exact(Wi.1 E).1
  have F:=rg (listed:=listed) (i:=i) hi (mem_ready.1 m).1;cases hc:pc listed with
  |zero=>omega
  |succ k=>
   rw[hc]at hB;exact⟨fun M=>(by rw[M]at m;cases m),fun j u=>hB j u (by simp)⟩
theorem Nn(a:Array Oper):E8 a 0 (Array.replicate a.size false):=⟨by simp,fun i hi=>by simp[hi,has]⟩
theorem Ir(a:Array Oper):pc (Array.replicate a.size false)=a.size:=by simp[pc]
theorem ya{ρ:Option Nat}{P:Program}{n:Nat}{id:Nat}{b:Array Oper}{e:Exit→Tm→ah→Prop}(f:P.follows .mixedOrders=true)(g:j3 b.toList=true){s:OR}
 (c:schOk P b s 0 []=true) {t:Tm} {a:Act} {w:World} (d:nL n t a) (H:xY P n b.toList s [] (e .normal) t w.heap):
 (Code.region id b true).wpIn (Fl ρ) 0 P (ur n w e) a w:=by
 refine wpIn_region_any f (Dg (W:=[]) _ _ _ _ ?_);have:=(Nm (ρ:=ρ) (w0:=w) g s).1 [] 0 (Array.replicate b.size false) t a {w with drawn:=w.drawn+1} c (Nn b) d ⟨rfl,rfl,rfl⟩ H;rw[Ir]at this;exact this
theorem Np{ρ:Option Nat}{P:Program}{n:Nat}{b:Array Oper}{g:Exit→Tm→ah→Prop}{w0:World}(s:j3 b.toList=true): ∀(l:List Oper)(k:Nat),(∀j,l[j]? =b[k+j]?)→ ∀(t:Tm)(a:Act)(w:World),
 nL n t a→Fr w0 w→Rh P n b.toList l (g .normal) t w.heap→wpOpsIn (Fl ρ) 0 P b (ur n w0 g) (List.range' k l.length) a w:=by
 intro l
 induction l with
 |nil=>intro k _ t a w c e H;exact⟨trivial,t,c,e,H⟩
 |cons o r u=>
  intro k i t a w c e H;have m:b[k]? =some o:=by have:=i 0;simpa using this.symm
  rw[VS,List.range'_succ,wpOpsIn_cons];refine wpOpIn_mono (fun q x h=> ?_) (Pb m (j4 s m) c H);obtain⟨_,v,d,f,p⟩:=h;exact u (k+1) (fun j=>by have:=i (j+1);simpa[Yf,Nat.add_comm 1] using this) v q x d (e.trans f) p
theorem GZ{ρ:Option Nat}{P:Program}{n:Nat}{id:Nat}{b:Array Oper}{d:Exit→Tm→ah→Prop}(e:j3 b.toList=true)
 {t:Tm} {a:Act} {w:World} (c:nL n t a) (H:Rh P n b.toList b.toList (d .normal) t w.heap):
 (Code.region id b false).wpIn (Fl ρ) 0 P (ur n w d) a w:=by
 refine wpIn_region ?_;have:=Np (ρ:=ρ) (w0:=w) e b.toList 0 (fun j=>by simp) t a w c (Fr.refl w) H;rw[Xo,←List.range_eq_range']at this;exact this
end
section
inductive Sc where
 |int (k:IntKind)
 |bool|str|ptr|adr|slice|map|any
def Sc.T:Sc→Type
 | .int _=>Int
 | .bool=>Bool
 | .str=>ByteArray
 | .ptr=>Option Addr
 | .adr=>Addr
 | .slice=>Option Addr×Nat×Nat
 | .map=>Option Nat
 | .any=>Value
def Sc.mk:(s:Sc)→s.T→Value
 | .int k,n=> .int k n
 | .bool,b=> .bool b
 | .str,s=> .string s
 | .ptr,p=> .pointer p
 | .adr,a=> .pointer (some a)
 | .slice,x=> .slice x.1 x.2.1 x.2.2
 | .map,r=> .map r
 | .any,v=>v
def Sc.rd:(s:Sc)→Value→(s.T→Prop)→Prop
 | .int k,v,K=>match v with| .int d n=>if k=d then K n else False|_=>False
 | .bool,v,K=>match v with| .bool b=>K b|_=>False
 | .str,v,K=>match v with| .string s=>K s|_=>False
 | .ptr,v,K=>match v with| .pointer p=>K p|_=>False
 | .adr,v,K=>match v with| .pointer (some a)=>K a|_=>False
 | .slice,v,K=>match v with| .slice a l c=>K (a,l,c)|_=>False
 | .map,v,K=>match v with| .map r=>K r|_=>False
 | .any,v,K=>K v
theorem Sc.rd_mk: ∀(s:Sc)(v:Value)(K:s.T→Prop),s.rd v K→ ∃x,s.mk x=v∧K x:=by
 intro s v K h;cases s<;>simp only[Sc.rd]at h
 case any=>exact⟨v,rfl,h⟩
 case int k=>
  split at h
  ·split at h
   ·rename_i a;subst a;exact⟨_,rfl,h⟩
   ·exact h.elim
  ·exact h.elim
 all_goals
  split at h
  ·exact⟨_,rfl,h⟩
  ·exact h.elim
def TS:List Sc→Type
 |[]=>Unit
 |s::r=>s.T×TS r
def aK:(l:List Sc)→TS l→List Value
 |[],_=>[]
 |s::r,x=>s.mk x.1::aK r x.2
def T2:(l:List Sc)→List Value→(TS l→Prop)→Prop
 |[],[],K=>K ()
 |s::r,v::vs,K=>s.rd v fun x=>T2 r vs fun xs=>K (x,xs)
 |_,_,_=>False
theorem G0: ∀(l:List Sc)(a:List Value)(K:TS l→Prop),T2 l a K→ ∃x,aK l x=a∧K x
 |[],[],K,h=>⟨(),rfl,h⟩
 |[],_::_,_,h=>h.elim
 |_::_,[],_,h=>h.elim
 |s::r,v::a,K,h=>by
  obtain⟨x,c,h⟩:=s.rd_mk v _ h;obtain⟨xs,b,h⟩:=G0 r a _ h;exact⟨(x,xs),by simp only[aK,c,b],h⟩
inductive Ls where
 |sc (s:Sc)
 |ag (l:List Sc)
 |fn (f:Nat) (l m:List Sc)
def Ls.T:Ls→Type
 | .sc s=>s.T
 | .ag l=>TS l
 | .fn _ l m=>TS l×TS m
def Ls.mk:(s:Ls)→s.T→Value
 | .sc s,x=>s.mk x
 | .ag l,x=> .agg (aK l x).toArray
 | .fn f l m,x=> .func (.func f) (aK l x.1).toArray (aK m x.2).toArray
def Ls.rd:(s:Ls)→Value→(s.T→Prop)→Prop
 | .sc s,v,K=>s.rd v K
 | .ag l,v,K=>match v with| .agg c=>T2 l c.toList K|_=>False
 | .fn f l m,v,K=>match v with
   | .func (.func g) a b=>match Nat.beq g f with
     |true=>T2 l a.toList fun x=>T2 m b.toList fun y=>K (x,y)
     |false=>False
   |_=>False
theorem Ls.rd_mk(s:Ls)(v:Value)(K:s.T→Prop)(h:s.rd v K): ∃x,s.mk x=v∧K x:=by
 cases s with
 |sc s=>exact s.rd_mk v K h
 |ag l=>
  simp only[Ls.rd]at h;split at h
  ·obtain⟨x,c,h⟩:=G0 l _ K h;exact⟨x,by simp only[Ls.mk,c],h⟩
  ·exact h.elim
 |fn f l m=>
  simp only[Ls.rd]at h;split at h
  ·split at h
   ·rename_i g a b d;obtain⟨x,c,h⟩:=G0 l _ _ h;obtain⟨y,e,h⟩:=G0 m _ _ h;exact⟨(x,y),by simp only[Ls.mk,c,e,W7 d],h⟩
   ·exact h.elim
  ·exact h.elim
abbrev w7:=List (Nat×Ls)
def TL:w7→Type
 |[]=>Unit
 |x::r=>x.2.T×TL r
def yb:(l:w7)→TL l→Tm
 |[],_=>fun _=> .bot
 |x::r,s=>upd (yb r s.2) x.1 (.val (x.2.mk s.1))
def Uq(t:Tm)(i:Nat)(K:Value→Prop):Prop:=
 match t i with
 | .bot=>False
 | .mark _=>False
 | .known b=>K (.bool b)
 | .val v=>K v
def SX:(l:w7)→Tm→(TL l→Prop)→Prop
 |[],_,K=>K ()
 |x::r,t,K=>Uq t x.1 fun v=>x.2.rd v fun y=>SX r t fun a=>K (y,a)
theorem B9: ∀(l:w7)(t:Tm)(K:TL l→Prop),SX l t K→ ∃s,K s∧ ∀i,yb l s i= .bot∨((yb l s i).v=(t i).v∧t i≠ .bot)
 |[],t,K,h=>⟨(),h,fun i=> .inl rfl⟩
 |x::r,t,K,h=>by
  simp only[SX,Uq]at h;have key: ∀v,t x.1≠ .bot→(t x.1).v=v→(x.2.rd v fun y=>SX r t fun d=>K (y,d))→ ∃s,K s∧ ∀i,yb (x::r) s i= .bot∨((yb (x::r) s i).v=(t i).v∧t i≠ .bot):=by
   intro v a f h;obtain⟨y,g,h⟩:=x.2.rd_mk v _ h;obtain⟨d,e,c⟩:=B9 r t _ h;refine⟨(y,d),e,fun i=> ?_⟩;simp only[yb];by_cases hi:i=x.1
   ·right;rw[hi,mY];exact⟨by rw[f];exact g,a⟩
   ·rw[wY _ _ hi];exact c i
  split at h
  ·exact h.elim
  ·exact h.elim
  ·rename_i b a;exact key _ (by rw[a];simp) (by rw[a];rfl) h
  ·rename_i v a;exact key _ (by rw[a];simp) (by rw[a];rfl) h
theorem L9: ∀(l:w7)(s:TL l)(i:Nat),(yb l s i).ds=[]
 |[],_,_=>rfl
 |x::r,s,i=>by
  simp only[yb];by_cases h:i=x.1
  ·rw[h,mY];rfl
  ·rw[wY _ _ h];exact L9 r s.2 i
def Nq(n:Nat)(t:Tm)(K:Prop):Prop:=
 match t n with
 | .mark _=>False
 |_=>K
theorem u7{n:Nat}{t:Tm}{K:Prop}(h:Nq n t K):(t n).ds=[]∧K:=by
 unfold Nq at h;split at h
 ·exact h.elim
 ·rename_i a;refine⟨?_,h⟩;cases e:t n with
  |mark ds=>exact absurd e (a ds)
  |_=>rfl
theorem nL.emb{n:Nat}{t:Tm}{a:Act}(r:nL n t a)(d:(t n).ds=[]){l:w7}{s:TL l}(h: ∀i,yb l s i= .bot∨((yb l s i).v=(t i).v∧t i≠ .bot)):nL n (yb l s) a:=by
 refine⟨r.size,fun i=> ?_,by rw[L9,r.dfs,d]⟩;rcases h i with h|⟨h,c⟩
 ·exact .inl h
 ·right;rcases r.at_ i with b|b
  ·exact absurd b c
  ·rw[h,b]
def fW{α:Type}(d:α):List (Nat×α)→Nat→α
 |[],_=>d
 |x::r,i=>match Nat.beq x.1 i with|true=>x.2|false=>fW d r i
structure OS where
 sch:Nat→OR
 lp:Nat→w7
 jn:Nat→Option w7
 rf:Nat→List Ls:=fun _=>[]
def key:Code→Nat
 | .region id _ _=>id
 | .seq a _=>key a
 | .block _ c=>key c
 | .loop c=>key c
 | .scope c=>key c
 |_=>1000000
def Nr(N:Tm→ah→Prop)(Q:Exit→Tm→ah→Prop):Exit→Tm→ah→Prop
 | .normal,t,h=>N t h
 |e,t,h=>Q e t h
def T3(id:Nat)(Q:Exit→Tm→ah→Prop):Exit→Tm→ah→Prop
 | .exit a,t,h=>match Nat.beq a id with|true=>Q .normal t h|false=>Q (.exit a) t h
 |e,t,h=>Q e t h
def UG(Q:Exit→Tm→ah→Prop):Exit→Tm→ah→Prop
 | .goto _,_,_=>False
 |e,t,h=>Q e t h
def bf{S:Type}(B:(S→ah→Prop)→S→ah→Prop)(s:S)(h:ah):Prop:=
 ∃a:Nat→S→ah→Prop,(∃n,a n s h)∧ ∀n s h,a n s h→B (fun c b=> ∃m,m<n∧a m c b) s h
def Q2:List Ls→Type
 |[]=>Unit
 |s::r=>s.T×Q2 r
def B5:(L:List Ls)→Q2 L→List Value
 |[],_=>[]
 |s::r,x=>s.mk x.1::B5 r x.2
def Pf(n:Nat):Tm→List Tmp→(L:List Ls)→Q2 L→Tm
 |t,p::ps,s::r,x=>Pf n (put n t (some p) (.val (s.mk x.1))) ps r x.2
 |t,_,_,_=>t
def w8(P:Program)(j:Value)(L:List Ls)(round:Obj→Obj→Nat→Q2 L→(ah→Prop)→ah→Prop)(h:ah)(K:Nat→ah→Prop):Prop:=
 ∃(g:FuncId)(i:Array Value),j= .func (.func g) #[] i∧ ∀a b c:Obj,me a=false→me b=false→me c=false→
  (∀(y:Q2 L)(e:ah)(f:Value→ah→Prop),e[h.size+1]? =some a→
   round a b (h.size+1) y (fun d=>d[h.size+1]? =some b∧f (.bool true) (d.setIfInBounds (h.size+1) a)) e→xd P (h.size+1) (B5 L y).toArray e f)→
  au P g (#[.func (.yield (h.size+1)) #[] #[]]++i) ((h.push (.deferred (some []))).push a) fun _ d=>d[h.size+1]? =some a∧K h.size (d.setIfInBounds (h.size+1) c)
def SC:Exit→Tm→ah→Prop:=fun _ _ _=>False
def Ur(D:Nat):Deferred:={target:= .collected D,args:= #[]}
def I(P:Program)(n:Nat)(tb:OS):Code→(Exit→Tm→ah→Prop)→Tm→ah→Prop
 | .skip,Q,t,h=>Q .normal t h
 | .label _,Q,t,h=>Q .normal t h
 | .region id f k,Q,t,h=>match k with
   |false=>Rh P n f.toList f.toList (Q .normal) t h
   |true=>xY P n f.toList (tb.sch id) [] (Q .normal) t h
 | .seq a b,Q,t,h=>match tb.jn (key b) with
   |none=>I P n tb a (Nr (I P n tb b Q) Q) t h
   |some L=> ∃J:TL L→ah→Prop,(∀s h,J s h→I P n tb b Q (yb L s) h)∧I P n tb a (Nr (fun t h=>Nq n t (SX L t fun s=>J s h)) Q) t h
 | .cond c x y,Q,t,h=>match OT t c with
   | .known true=>I P n tb x Q t h
   | .known false=>I P n tb y Q t h
   | .val (.bool b)=>
     (b=true→I P n tb x Q (match c with| .tmp i=>upd t i (.known true)|_=>t) h)∧
     (b=false→I P n tb y Q (match c with| .tmp i=>upd t i (.known false)|_=>t) h)
   |_=>False
 | .block id c,Q,t,h=>I P n tb c (T3 id Q) t h
 | .loop d,Q,t,h=>Nq n t (SX (tb.lp (key d)) t fun s=>
  bf (fun K s h=>I P n tb d (Nr (fun m o=>Nq n m (SX (tb.lp (key d)) m fun z=>K z o)) Q) (yb (tb.lp (key d)) s) h) s h)
 | .exit id,Q,t,h=>Q (.exit id) t h
 | .scope c,Q,t,h=>I P n tb c (UG Q) t h
 | .ret,Q,t,h=>Q .ret t h
 | .rangeFunc g r e d,Q,t,h=>Nq n t (match OT t g with
   | .val u=>match Nat.beq (tb.rf (key d)).length r.size with
     |true=>w8 P u (tb.rf (key d)) (fun p j l y R v=>
      I P n tb e (Nr (fun m q=>q[l]? =some p∧I P n tb d (Nr (fun _ w=>R w) SC) m (q.setIfInBounds l j)) SC) (Pf n t r.toList (tb.rf (key d)) y) v) h
      fun D o=>Q .normal (upd t n (.mark [Ur D])) o
     |false=>False
   |_=>False)
 |_,_,_,_=>False
def rh:Code→Bool
 | .seq a b=>rh a&&rh b
 | .cond _ x y=>rh x&&rh y
 | .block _ c=>rh c
 | .loop c=>rh c
 | .scope c=>rh c
 | .rangeFunc .. =>false
 |_=>true
def hZ(P:Program)(tb:OS):Code→Bool
 | .region id e d=>j3 e.toList&&(!d||schOk P e (tb.sch id) 0 [])
 | .seq a b=>hZ P tb a&&hZ P tb b
 | .cond _ x y=>hZ P tb x&&hZ P tb y
 | .block _ c=>hZ P tb c
 | .loop c=>hZ P tb c
 | .scope c=>hZ P tb c
 | .rangeFunc _ _ a c=>hZ P tb a&&hZ P tb c&&rh a&&rh c
 |_=>true
theorem ur.mono{n:Nat}{w0 d:World}{c b:Exit→Tm→ah→Prop}(i:Fr w0 d)(j: ∀e t h,c e t h→b e t h)(e:Exit)(a:Act)(w:World)
 (h:ur n d c e a w):ur n w0 b e a w:=by
 obtain⟨g,t,r,f,q⟩:=h;exact⟨g,t,r,i.trans f,j _ _ _ q⟩
theorem KP{F:Fence}{m:Nat}{P:Program}{Q:Exit→Act→World→Prop}{a:Act}{w:World}{c:Code}(J:Nat→Act→World→Prop)(b:Nat)(h:J b a w)
 (round: ∀n a w,J n a w→c.wpIn F m P (Exit.then (fun i j=> ∃g,g<n∧J g i j) Q) a w):(Code.loop c).wpIn F m P Q a w:=by
 refine wpIn_loop (fun a w=> ∃n,J n a w) (fun a w=>leastOf (fun n=>J n a w)) ⟨b,h⟩ ?_;intro a w o;refine wpIn_mono (round _ a w (leastOf_spec o).1) ?_;intro e i j f;cases e with
 |normal=>
  obtain⟨g,k,d⟩:=f;exact show(∃n,J n i j)∧leastOf (fun n=>J n i j)<leastOf (fun n=>J n a w) from⟨⟨g,d⟩,Nat.lt_of_le_of_lt ((leastOf_spec ⟨g,d⟩).2 g d) k⟩
 |exit id=>exact f
 |goto l=>exact f
 |ret=>exact f
 |panic p=>exact f
 |outgrown=>exact f
theorem iV{P:Program}{b:Frame}{a:Act}{k:List Item}{cs:List Frame}{w:World}{c:Code}:step P (lone (b.atR a (.code (.scope c)::k)) cs w)= .next (lone (b.atR a (.code c:: .inScope c::k)) cs w):=
 step_lone_go (by simp[stepG,stepG.exec,Frame.atR])
theorem Dh{P:Program}{b:Frame}{a:Act}{k:List Item}{cs:List Frame}{w:World}{c:Code}:step P (lone (b.atR a (.inScope c::k)) cs w)= .next (lone (b.atR a k) cs w):=
 step_lone_go (by simp[stepG,stepG.exec,Frame.atR])
theorem vE{F:Fence}{t:Nat}{P:Program}{Q:Exit→Act→World→Prop}{a:Act}{w:World}{c:Code}(h:c.wpIn F t P (Exit.noGoto Q) a w):(Code.scope c).wpIn F t P Q a w:=by
 intro b k r q m o;have h0:(lone (b.atR a (.code (.scope c)::k)) r w).fenced P F:=fenced_calm m o rfl;obtain⟨e,f,g,i,d⟩:=h b (.inScope c::k) r q m o;cases e with
 |normal=>exact⟨.normal,f,g,i,.head h0 iV (StepsIn.trans d (.one (fenced_calm m o rfl) Dh))⟩
 |exit id=>
  have s:exitTo id (.inScope c::k)=exitTo id k:=by simp[exitTo]
  exact⟨.exit id,f,g,i,fun x n=> .head h0 iV (d.1 x (by rw[s];exact n)),
   fun p n=>let ⟨j,u,v⟩:=d.2 p (by rw[s];exact n);⟨j,u,.head h0 iV v⟩⟩
 |goto l=>exact i.elim
 |ret=>exact⟨_,f,g,i,.of_steps (.one h0 iV) d⟩
 |panic y=>exact⟨_,f,g,i,.of_steps (.one h0 iV) d⟩
 |outgrown=>exact⟨_,f,g,i,.of_steps (.one h0 iV) d⟩
theorem FD{n:Nat}: ∀(b:List Tmp)(L:List Ls)(y:Q2 L)(t:Tm)(a:Array Value)(ds:List Deferred),nL n t ⟨a,ds⟩→L.length=b.length→
 nL n (Pf n t b L y) ⟨(b.zip (B5 L y)).foldl (fun a x=>a.setIfInBounds x.1 x.2) a,ds⟩
 |[],[],_,t,a,ds,r,_=>r
 |p::b,s::L,y,t,a,ds,r,h=>by
  have c:=r.put (some p) (.val (s.mk y.1)) (v:=s.mk y.1) rfl;exact FD b L y.2 _ _ ds c (by simpa using h)
 |[],s::L,_,_,_,_,_,h=>by simp at h
 |p::b,[],_,_,_,_,_,h=>by simp at h
theorem AG: ∀(L:List Ls)(y:Q2 L),(B5 L y).length=L.length
 |[],_=>rfl
 |s::L,y=>by simp[B5,AG L y.2]
theorem nL.marked{n:Nat}{t:Tm}{a:Act}(r:nL n t a)(ds:List Deferred):nL n (upd t n (.mark ds)) {a with defers:=ds}:=by
 refine⟨r.size,fun i=> ?_,by rw[mY];rfl⟩;by_cases h:i=n
 ·subst h;right;rw[mY];show undef=a.tmps.getD i undef;simp[r.size]
 ·rw[wY _ _ h];exact r.at_ i
def kG(fn:FuncId)(tmps:Array Value)(a:Array Tmp)(assign body:Code)(D:Nat)(st:LoopState):Loop:={state:=st,pending:=none,fn,tmps,params:=a,assign,body,defers:=D}
theorem Rj{P:Program}{n:Nat}{tb:OS}(hm:P.follows .mixedOrders=true): ∀(c:Code),hZ P tb c=true→ ∀(ρ:Option Nat),(ρ=none∨rh c=true)→ ∀(p:Exit→Tm→ah→Prop)(t:Tm)(a:Act)(w:World),
 nL n t a→I P n tb c p t w.heap→c.wpIn (Fl ρ) 0 P (ur n w p) a w:=by
 intro c
 induction c with
 |skip=>intro _ ρ _ p t a w r H;exact wpIn_skip ⟨trivial,t,r,Fr.refl w,H⟩
 |label l=>intro _ ρ _ p t a w r H;exact wpIn_label ⟨trivial,t,r,Fr.refl w,H⟩
 |goto l=>intro _ ρ _ p t a w r H;exact H.elim
 |refuse bs=>intro _ ρ _ p t a w r H;exact H.elim
 |exit id=>intro _ ρ _ p t a w r H;exact wpIn_exit ⟨trivial,t,r,Fr.refl w,H⟩
 |ret=>intro _ ρ _ p t a w r H;exact wpIn_ret ⟨trivial,t,r,Fr.refl w,H⟩
 |region id br ap=>
  intro d ρ _ p t a w r H;simp only[hZ,V8]at d;cases ap with
  |false=>exact GZ d.1 r H
  |true=>exact ya hm d.1 (by simpa using d.2) r H
 |rangeFunc g R j k bm bn=>
  intro d ρ o p t a w r H;rcases o with rfl|o
  rotate_left
  ·simp[rh]at o
  simp only[hZ,V8]at d;obtain⟨⟨⟨bp,bq⟩,a0⟩,a1⟩:=d;simp only[I]at H;obtain⟨aw,H⟩:=u7 H;have a5:a.defers=[]:=by rw[r.dfs,aw]
  split at H
  rotate_left
  ·exact H.elim
  rename_i fv ag;cases C:Nat.beq (tb.rf (key k)).length R.size with
  |false=>simp[C]at H
  |true=>
   simp only[C]at H;have C:=W7 C;generalize tb.rf (key k)=L at H C;obtain⟨gf,lb,rfl,H⟩:=H;have hg:a.eval g= .func (.func gf) #[] lb:=by
    have:=r.ev (x:=g) (by
     cases g with
     |tmp i=>simp only[SZ];simp only[OT]at ag;rw[ag]
     |_=>rfl)
    rw[←this,ag];rfl
   refine wpIn_rangeFunc ?_;intro fn _;obtain⟨V,aa⟩: ∃V,(w.alloc (.deferred (some []))).alloc (.loop (kG fn a.tmps R j k w.heap.size .ready))=V:=⟨_,rfl⟩;have a8:V.heap=(w.heap.push (.deferred (some []))).push (.loop (kG fn a.tmps R j k w.heap.size .ready)):=by rw[←aa];rfl
   have ab:Fr w V:=by rw[←aa];exact⟨rfl,rfl,rfl⟩
   have H:=H (.loop (kG fn a.tmps R j k w.heap.size .ready)) (.loop (kG fn a.tmps R j k w.heap.size .busy)) (.loop (kG fn a.tmps R j k w.heap.size .exhausted)) rfl rfl rfl fun y u K1 hl E w1 bk=> ?_
   ·refine⟨w.heap.size+1,[Ur w.heap.size],V,{target:= .fn (.func gf) lb,args:= #[.func (.yield (w.heap.size+1)) #[] #[]]},V,gf,
     #[.func (.yield (w.heap.size+1)) #[] #[]]++lb,V,?_,?_,fun _ _=>trivial,?_,(fun h=>by cases h),?_⟩
    ·rw[←aa];exact run_enterLoop_outer _ _ _ _ _
    ·simp only[resolve,Deferred.ofValue,bj,bN];have e1:a.eval (.const (.func (.yield (w.heap.size+1)) #[] #[]))= .func (.yield (w.heap.size+1)) #[] #[]:=rfl;simp only[hg];simp[go_sem,e1]
    ·simp only[invoke];exact H.1 V
    ·refine callsIn_wide (n:=0).2 ((H.2 V a8).mono ?_);rintro e w3 ⟨v,rfl,ad,aj,hk⟩;have ax:=run_endLoop (P:=P) aj (by simp[kG]);refine⟨none,_,ax,?_⟩;have e1:({a with defers:=[Ur w.heap.size]++a.defers}:Act)={a with defers:=[Ur w.heap.size]}:=by rw[a5];rfl
     rw[e1];exact⟨trivial,_,r.marked _,⟨(ab.trans ad).tape,(ab.trans ad).os,(ab.trans ad).output⟩,hk⟩
   ·subst bk;have hy:=run_yield (P:=P) (args:=(B5 L y).toArray) hl (by simp[kG,AG,C]);refine⟨fn,_,j,k,hy,roundIn_of_wpIn trivial ?_⟩;have r0:nL n t ⟨a.tmps,[]⟩:=⟨r.size,r.at_,aw.symm⟩;have r1:=FD R.toList L y t a.tmps [] r0 (by simpa using C);have e1:(R.zip (B5 L y).toArray).foldl (fun tmps x=>tmps.setIfInBounds x.1 x.2) a.tmps=(R.toList.zip (B5 L y)).foldl (fun tmps x=>tmps.setIfInBounds x.1 x.2) a.tmps:=by
     rw[←Array.foldl_toList,Array.toList_zip]
    have e2:({tmps:=(R.zip (B5 L y).toArray).foldl (fun tmps x=>tmps.setIfInBounds x.1 x.2) a.tmps,defers:=[]}:Act)=⟨(R.toList.zip (B5 L y)).foldl (fun tmps x=>tmps.setIfInBounds x.1 x.2) a.tmps,[]⟩:=by rw[e1]
    have A:=bm bp (some (w.heap.size+1)) (.inr a0) _ _ _ w1 r1 E;have A:j.wpIn (Fence.wide.inRound (w.heap.size+1)) 0 P _ ⟨(R.toList.zip (B5 L y)).foldl (fun tmps x=>tmps.setIfInBounds x.1 x.2) a.tmps,[]⟩ w1:=A;rw[←e2]at A;refine wpIn_mono A fun e Z Y T=> ?_;obtain⟨_,t2,r2,W,q2⟩:=T;cases e with
    |normal=>
     obtain⟨ba,a4⟩:=q2;refine⟨_,run_beginRound ba rfl,?_⟩;have B:=bn bq (some (w.heap.size+1)) (.inr a1) _ t2 Z (Y.putObj (w.heap.size+1) (.loop (kG fn a.tmps R j k w.heap.size .busy))) r2 a4;have B:k.wpIn (Fence.wide.inRound (w.heap.size+1)) 0 P _ Z (Y.putObj (w.heap.size+1) (.loop (kG fn a.tmps R j k w.heap.size .busy))):=B;refine wpIn_mono B fun e a3 w3 T=> ?_;obtain⟨_,t3,r3,f3,q3⟩:=T;cases e with
     |normal=>
      obtain⟨aj,a9⟩:=q3;refine⟨_,_,run_endRound none aj,_,rfl,?_,?_⟩
      ·have ay:Fr w1 (Y.putObj (w.heap.size+1) (.loop (kG fn a.tmps R j k w.heap.size .busy))):=⟨W.tape,W.os,W.output⟩;have:=ay.trans f3;exact⟨this.tape,this.os,this.output⟩
      ·exact a9
     |exit id=>exact q3.elim
     |goto l=>exact q3.elim
     |ret=>exact q3.elim
     |panic ch=>exact q3.elim
     |outgrown=>exact q3.elim
    |exit id=>exact q2.elim
    |goto l=>exact q2.elim
    |ret=>exact q2.elim
    |panic ch=>exact q2.elim
    |outgrown=>exact q2.elim
 |seq x y Q K=>
  intro d ρ o p t a w r H;simp only[hZ,V8]at d;have O:ρ=none∨rh x=true:=o.imp id fun h=>by simp only[rh,V8]at h;exact h.1
  have G:ρ=none∨rh y=true:=o.imp id fun h=>by simp only[rh,V8]at h;exact h.2
  simp only[I]at H
  have ar: ∀N:Tm→ah→Prop,(∀t S M,nL n t S→Fr w M→N t M.heap→y.wpIn (Fl ρ) 0 P (ur n w p) S M)→I P n tb x (Nr N p) t w.heap→
   (Code.seq x y).wpIn (Fl ρ) 0 P (ur n w p) a w:=by
   intro N hN H;refine wpIn_seq (wpIn_mono (Q d.1 ρ O _ t a w r H) fun e S M T=> ?_);obtain⟨u,F,D,z,q⟩:=T;cases e with
   |normal=>exact hN F S M D z q
   |exit id=>exact⟨u,F,D,z,q⟩
   |goto l=>exact⟨u,F,D,z,q⟩
   |ret=>exact⟨u,F,D,z,q⟩
   |panic ch=>exact u.elim
   |outgrown=>exact u.elim
  split at H
  ·exact ar _ (fun F S M D z q=>wpIn_mono (K d.2 ρ G p F S M D q) fun e Z Y h2=>ur.mono z (fun _ _ _ x=>x) e Z Y h2) H
  ·rename_i L hL;obtain⟨J,hJ,H⟩:=H;refine ar _ (fun F S M D z q=> ?_) H;obtain⟨hn,q⟩:=u7 q;obtain⟨s,hs,he⟩:=B9 L F _ q;exact wpIn_mono (K d.2 ρ G p _ S M (D.emb hn he) (hJ s _ hs)) fun e Z Y h2=>ur.mono z (fun _ _ _ x=>x) e Z Y h2
 |cond c x y Q K=>
  intro d ρ o p t a w r H;simp only[hZ,V8]at d;have O:ρ=none∨rh x=true:=o.imp id fun h=>by simp only[rh,V8]at h;exact h.1
  have G:ρ=none∨rh y=true:=o.imp id fun h=>by simp only[rh,V8]at h;exact h.2
  simp only[I]at H;have an: ∀v,OT t c=v→v≠ .bot→(OT t c).v=a.eval c:=fun v hv X=>r.ev (by
   cases c with
   |tmp i=>simp only[SZ];simp only[OT]at hv;cases h:t i<;>simp_all
   |_=>rfl)
  split at H
  ·rename_i U;exact wpIn_cond_true (by rw[←an _ U (by simp),U];rfl) (Q d.1 ρ O p t a w r H)
  ·rename_i U;exact wpIn_cond_false (by rw[←an _ U (by simp),U];rfl) (K d.2 ρ G p t a w r H)
  ·rename_i b U;have a7:a.eval c= .bool b:=by rw[←an _ U (by simp),U];rfl
   refine wpIn_cond_split a7 (fun X=> ?_) (fun X=> ?_)
   ·have:=H.1 X;cases c with
    |tmp i=>subst X;exact Q d.1 ρ O p _ a w (r.known i true U) this
    |const v=>exact Q d.1 ρ O p _ a w r this
    |global g=>exact Q d.1 ρ O p _ a w r this
    |func f=>exact Q d.1 ρ O p _ a w r this
   ·have:=H.2 X;cases c with
    |tmp i=>subst X;exact K d.2 ρ G p _ a w (r.known i false U) this
    |const v=>exact K d.2 ρ G p _ a w r this
    |global g=>exact K d.2 ρ G p _ a w r this
    |func f=>exact K d.2 ρ G p _ a w r this
  ·exact H.elim
 |block id c ih=>
  intro d ρ o p t a w r H;simp only[hZ]at d;refine wpIn_block (wpIn_mono (ih d ρ o _ t a w r H) fun e S M T=> ?_);obtain⟨u,F,D,z,q⟩:=T;cases e with
  |exit ao=>
   simp only[Exit.inBlock];simp only[T3]at q;by_cases ai:ao=id
   ·subst ai;simp only[Nat.beq_refl]at q;rw[if_pos rfl];exact⟨trivial,F,D,z,q⟩
   ·have:Nat.beq ao id=false:=by
     cases X:Nat.beq ao id with
     |false=>rfl
     |true=>exact absurd (W7 X) ai
    simp only[this]at q;rw[if_neg ai];exact⟨trivial,F,D,z,q⟩
  |normal=>exact⟨u,F,D,z,q⟩
  |goto l=>exact⟨u,F,D,z,q⟩
  |ret=>exact⟨u,F,D,z,q⟩
  |panic ch=>exact u.elim
  |outgrown=>exact u.elim
 |scope c ih=>
  intro d ρ o p t a w r H;simp only[hZ]at d;refine vE (wpIn_mono (ih d ρ o _ t a w r H) fun e S M T=> ?_);obtain⟨u,F,D,z,q⟩:=T;cases e with
  |goto l=>exact q.elim
  |exit id=>exact⟨u,F,D,z,q⟩
  |normal=>exact⟨u,F,D,z,q⟩
  |ret=>exact⟨u,F,D,z,q⟩
  |panic ch=>exact u.elim
  |outgrown=>exact u.elim
 |loop k ih=>
  intro d ρ o p t a w r H;simp only[hZ]at d;simp only[I]at H;obtain⟨hn,H⟩:=u7 H;obtain⟨s,⟨bo,⟨m,bd⟩,E⟩,he⟩:=B9 _ t _ H;refine KP (fun m S M=> ∃s,bo m s M.heap∧nL n (yb (tb.lp (key k)) s) S∧Fr w M) m ⟨s,bd,r.emb hn he,Fr.refl w⟩ ?_;rintro m S M ⟨s,hs,D,z⟩;refine wpIn_mono (ih d ρ o _ _ S M D (E m s _ hs)) fun e Z Y T=> ?_;obtain⟨u,t2,r2,W,q⟩:=T;cases e with
  |normal=>
   obtain⟨bg,q⟩:=u7 q;obtain⟨s2,⟨m2,bb,hi⟩,a6⟩:=B9 _ t2 _ q;exact⟨m2,bb,s2,hi,r2.emb bg a6,z.trans W⟩
  |exit id=>exact⟨u,t2,r2,z.trans W,q⟩
  |goto l=>exact⟨u,t2,r2,z.trans W,q⟩
  |ret=>exact⟨u,t2,r2,z.trans W,q⟩
  |panic ch=>exact u.elim
  |outgrown=>exact u.elim
def KQ:List Value→Nat→Tv
 |[],_=> .bot
 |x::_,0=> .val x
 |_::xs,n+1=>KQ xs n
def T4(args:List Value):Tm:=fun i=>KQ args i
theorem G1: ∀(l:List Value)(i:Nat),KQ l i= .bot∨(∃v,l[i]? =some v∧KQ l i= .val v)
 |[],_=> .inl rfl
 |x::_,0=> .inr ⟨x,rfl,rfl⟩
 |_::xs,n+1=>by simpa[KQ] using G1 xs n
def E9(P:Program):List ResultVar→Tm→ah→(List Value→Prop)→Prop
 |[],_,_,K=>K []
 | .tmp i::r,t,h,K=>Uq t i fun v=>E9 P r t h fun b=>K (v::b)
 | .cell a ty::r,t,h,K=>match t a with
   | .val (.pointer (some c))=>Dk P ty h c fun v=>E9 P r t h fun b=>K (v::b)
   |_=>False
def Ns:List Value→Value
 |[v]=>v
 |vs=> .tuple vs.toArray
def Di(P:Program):List Deferred→ah→(ah→Prop)→Prop
 |[],h,K=>K h
 |d::ds,h,K=>match d.target with
  | .collected r=>h[r]? =some (.deferred (some []))∧Di P ds (h.setIfInBounds r (.deferred none)) K
  |_=>False
def UH(P:Program)(n:Nat)(rs:List ResultVar)(Q:Value→ah→Prop):Exit→Tm→ah→Prop
 | .normal,t,h=>Di P (t n).ds h fun a=>E9 P rs t a fun b=>Q (Ns b) a
 | .ret,t,h=>Di P (t n).ds h fun a=>E9 P rs t a fun b=>Q (Ns b) a
 |_,_,_=>False
def UI(P:Program)(fn:Func)(tb:OS)(args:List Value)(h:ah)(Q:Value→ah→Prop):Prop:=
 match fn.body,Nat.ble args.length fn.ntmps with
 |some c,true=>I P fn.ntmps tb c (UH P fn.ntmps fn.results.toList Q) (T4 args) h
 |_,_=>False
def SY(P:Program)(fn:Func)(tb:OS):Bool:=
 match fn.body with
 |some c=>hZ P tb c
 |none=>false
def G2(a:Act):ResultVar→Sem Value
 | .tmp t=>pure (a.tmps.getD t undef)
 | .cell x b=>do loadVar b (←asAddr (a.tmps.getD x undef))
theorem Dj{P:Program}{n:Nat}: ∀{rs:List ResultVar}{t:Tm}{a:Act}{w:World}{K:List Value→Prop},nL n t a→E9 P rs t w.heap K→
 ∃c,K c∧(rs.mapM (G2 a)).run P w= .ok c w
 |[],t,a,w,K,r,H=>⟨[],H,rfl⟩
 | .tmp i::rs,t,a,w,K,r,H=>by
   simp only[E9,Uq]at H;have key: ∀v,t i≠ .bot→(t i).v=v→(E9 P rs t w.heap fun c=>K (v::c))→ ∃c,K c∧((ResultVar.tmp i::rs).mapM (G2 a)).run P w= .ok c w:=by
    intro v f o h;obtain⟨c,j,k⟩:=Dj r h;refine⟨v::c,j,?_⟩;have:a.tmps.getD i undef=v:=by
     rcases r.at_ i with d|d
     ·exact absurd d f
     ·rw[←d,o]
    rw[List.mapM_cons,bj];have e:(G2 a (.tmp i)).run P w= .ok v w:=by simp only[G2,this];rfl
    rw[e];simp only;rw[bj,k];rfl
   split at H
   ·exact H.elim
   ·exact H.elim
   ·rename_i b f;exact key _ (by rw[f];simp) (by rw[f];rfl) H
   ·rename_i v f;exact key _ (by rw[f];simp) (by rw[f];rfl) H
 | .cell x ty::rs,t,a,w,K,r,H=>by
   simp only[E9]at H;split at H
   ·rename_i g l;obtain⟨v,h,m⟩:=FH H;obtain⟨c,j,k⟩:=Dj r h;refine⟨v::c,j,?_⟩;have:a.tmps.getD x undef= .pointer (some g):=by
     rcases r.at_ x with d|d
     ·rw[l]at d;cases d
     ·rw[←d,l];rfl
    rw[List.mapM_cons,bj];have e:(G2 a (.cell x ty)).run P w= .ok v w:=by
     simp only[G2,this,bj];have:(asAddr (.pointer (some g))).run P w= .ok g w:=rfl;rw[this];exact m w (dY.refl _)
    rw[e];simp only;rw[bj,k];rfl
   ·exact H.elim
theorem KR{P:Program}{n:Nat}{fn:Func}{t:Tm}{a:Act}{w:World}{Q:Value→ah→Prop}(r:nL n t a)
 (H:E9 P fn.results.toList t w.heap fun b=>Q (Ns b) w.heap): ∃v,(results fn a.tmps).run P w= .ok v w∧Q v w.heap:=by
 obtain⟨b,f,g⟩:=Dj r H;refine⟨Ns b,?_,f⟩;have d:(fun x:ResultVar=>match x with| .tmp t=>pure (a.tmps.getD t undef)| .cell x ty=>do loadVar ty (←asAddr (a.tmps.getD x undef)):ResultVar→Sem Value)=G2 a:=by
  funext x;cases x<;>rfl
 have e:(fn.results.mapM (G2 a)).run P w= .ok b.toArray w:=by
  rw[Array.mapM_eq_mapM_toList,map_eq_pure_bind,bj,g];rfl
 have c:results fn a.tmps=(do let b←fn.results.mapM (G2 a);pure (if h:b.size=1 then b[0] else .tuple b)):=by
  rw[←d];rfl
 rw[c,bj,e];simp only;rw[bN];congr 1
 match b with
 |[]=>rfl
 |[v]=>rfl
 |v::u::r=>simp[Ns]
theorem Pg{P:Program}{f:FuncId}{fn:Func}{tb:OS}{args:List Value}{h:ah}{Q:Value→ah→Prop}
 (A:P.follows .mixedOrders=true) (z:P.funcs[f]? =some fn) (y: ∀args w,(callFunc f args).run P w= .ok (.enter f args) w)
 (s:SY P fn tb=true) (H:UI P fn tb args h Q):au P f args.toArray h Q:=by
 refine⟨y _,fun w E=> ?_⟩;subst E;unfold UI at H;unfold SY at s;cases hb:fn.body with
 |none=>simp[hb]at H
 |some c=>
  cases j:Nat.ble args.length fn.ntmps with
  |false=>simp[hb,j]at H
  |true=>
   simp only[hb,j]at H s;have j:=OU j;have u:nL fn.ntmps (T4 args) {tmps:=args.toArray++Array.replicate (fn.ntmps-args.toArray.size) undef,defers:=[]}:=by
    refine⟨by simp;omega,fun i=> ?_,?_⟩
    ·rcases G1 args i with h|⟨v,m,t⟩
     ·exact .inl h
     ·right;have hi:i<args.length:=(R8.1 m).1;show(KQ args i).v=_;rw[t];simp[Array.getElem?_append,hi,m,Tv.v];exact(R8.1 m).2.symm
    ·show []=(KQ args fn.ntmps).ds;rcases G1 args fn.ntmps with h|⟨v,_,t⟩
     ·rw[h];rfl
     ·rw[t];rfl
   have b: ∀(ds:List Deferred)(p:Tm)(g:Act)(a:World),nL fn.ntmps p g→Fr w a→Di P ds a.heap (fun x=>E9 P fn.results.toList p x fun G=>Q (Ns G) x)→
    LeavesInM Fence.wide 0 P fn g.tmps (fun e a=> ∃v,e= .returned v∧Fr w a∧Q v a.heap) ds .returning a:=by
    intro ds
    induction ds with
    |nil=>
     intro p g a o k q;obtain⟨v,D,C⟩:=KR o q;exact⟨v,D,v,rfl,k,C⟩
    |cons d ds F=>
     intro p g a o k q;unfold Di at q;cases hd:d.target with
     |collected r=>
      rw[hd]at q;obtain⟨m,t⟩:=q;exact⟨by simp,.inl ⟨r,_,hd,run_takeDeferred m,F p g (a.putObj r (.deferred none)) o ⟨k.tape,k.os,k.output⟩ t⟩⟩
     |_=>rw[hd]at q;exact q.elim
   refine callsIn_wide (n:=0).1 (callsIn_of_wp_marks z hb trivial (wpIn_mono (Rj A c s none (.inl rfl) _ _ _ w u H) fun e g a B=> ?_));obtain⟨m,p,o,k,q⟩:=B;cases e with
   |normal=>show LeavesInM _ _ _ _ _ _ g.defers _ _;rw[o.dfs];exact b _ p g a o k q
   |ret=>show LeavesInM _ _ _ _ _ _ g.defers _ _;rw[o.dfs];exact b _ p g a o k q
   |exit id=>exact q.elim
   |goto l=>exact q.elim
   |panic I=>exact m.elim
   |outgrown=>exact m.elim
