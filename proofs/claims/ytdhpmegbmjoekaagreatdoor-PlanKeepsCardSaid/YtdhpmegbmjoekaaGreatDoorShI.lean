/- ShCode ShReg ShI, in one text. -/
import Derived.Test.YtdhpmegbmjoekaaGreatDoorShSound2
import Derived.Deep.LoopGhost
import Derived.RangeFuncLeaves
set_option linter.unusedVariables false
set_option linter.unusedSimpArgs false
namespace Go.Sh
section
def FU:List Oper→Nat→Option Oper
 |[],_=>none
 |x::_,0=>some x
 |_::xs,n+1=>FU xs n
theorem mJ: ∀(l:List Oper) (i:Nat),FU l i=l[i]?
 |[],_=>rfl
 |_::_,0=>rfl
 |_::xs,n+1=>by simpa[FU] using mJ xs n
def Oo (P:Program) (n:Nat) (o:Oper) (K:Tm→af→Prop) (t:Tm) (h:af):Prop:=
 match HX t o.op.operands.toList with
 |true=>Jc P o (N5 t) h fun x a=>K (put n t o.dst x) a
 |false=>False
def Oq (b a:Bool) (A B:Prop):Prop:=
 match b,a with
 |true,true=>A
 |false,false=>A
 |true,false=>B
 |false,true=>B
def Tz (c:List Oper) (o:Oper) (t:Tm) (R S:Tm→Prop):Prop:=
 match o.guard with
 |none=>R t
 |some (j,a)=>
  match FU c j with
  |some e=>
   match e.dst with
   |some d=>
    match t d with
    | .known b=>Oq b a (R t) (S t)
    | .val (.bool b)=>
      (b=true→Oq true a (R (upd t d (.known true))) (S (upd t d (.known true))))∧
      (b=false→Oq false a (R (upd t d (.known false))) (S (upd t d (.known false))))
    | .val (.tuple _)=>S t
    |_=>False
   |none=>False
  |none=>False
def RD (P:Program) (n:Nat) (a:List Oper) (o:Oper) (K:Tm→af→Prop) (t:Tm) (h:af):Prop:=
 Tz a o t (fun b=>Oo P n o K b h) (fun b=>K (put n b o.dst (.val undef)) h)
def Qs (P:Program) (n:Nat) (a:List Oper):List Oper→(Tm→af→Prop)→Tm→af→Prop
 |[],K,t,h=>K t h
 |o::r,K,t,h=>RD P n a o (Qs P n a r K) t h
inductive N3 where
 |done
 |stop
 |one (i:Nat) (r:N3)
 |early (i:Nat) (r:N3)
 |alt (i:Nat) (r rest:N3)
abbrev hY:=List (Nat×Addr×Value)
def cf (k:Nat) (a:Addr):List Value→Nat→hY
 |[],_=>[]
 |v::r,i=>(k,a.add i,v)::cf k a r (i+1)
def AV (P:Program) (t:TypeId) (k:Nat) (a:Addr) (v:Value):hY:=
 match zJ P t with
 |some (.agg _)=>match v with
  | .agg b=>cf k a b.toList 0
  |v=>[(k,a,v)]
 |_=>[(k,a,v)]
def di:hY→af→Prop→Prop
 |[],_,K=>K
 |x::r,h,K=>aD h x.2.1=some x.2.2∧di r h K
def waitsFor (o:Oper) (i:Nat):Bool:=o.after.toList.any fun e=>Region.binds .any e&&e.on==i
def qs (o:Oper):hY→hY
 |[]=>[]
 |x::r=>match waitsFor o x.1 with|true=>qs o r|false=>x::qs o r
def quiet (P:Program) (o:Oper):Bool:=
 match I7 P o.op with
 | .loud=>false
 |_=>true
def AW (P:Program) (o:Oper) (W:hY) (K:Tm→af→Prop) (t:Tm) (h:af):Prop:=
 match quiet P o with
 |true=>K t h
 |false=>di (qs o W) h (K t h)
def SV (P:Program) (n:Nat) (k:Nat) (o:Oper) (K:hY→Tm→af→Prop) (t:Tm) (h:af):Prop:=
 match HX t o.op.operands.toList with
 |true=>
  match o.op with
  | .load c a=>match(N5 t a).v with
    | .pointer (some b)=>EE P c h b fun v=>K (AV P c k b v) (put n t o.dst (.val v)) h
    |_=>False
  |_=>False
 |false=>False
def Uy (P:Program) (n:Nat) (k:Nat) (a:List Oper) (o:Oper) (K:hY→Tm→af→Prop) (t:Tm) (h:af):Prop:=
 Tz a o t (fun b=>SV P n k o K b h) (fun b=>K [] (put n b o.dst (.val undef)) h)
def zD (P:Program) (n:Nat) (a:List Oper):N3→hY→(Tm→af→Prop)→Tm→af→Prop
 | .done,_,K,t,h=>K t h
 | .stop,_,_,_,_=>True
 | .one i r,W,K,t,h=>match FU a i with
   |some o=>RD P n a o (AW P o W (zD P n a r W K)) t h
   |none=>False
 | .early i r,W,K,t,h=>match FU a i with
   |some o=>Uy P n i a o (fun c=>zD P n a r (c++W) K) t h
   |none=>False
 | .alt i r b,W,K,t,h=>match FU a i with
   |some o=>match b with
    | .stop=>RD P n a o (AW P o W (zD P n a r W K)) t h
    |b=>RD P n a o (AW P o W (zD P n a r W K)) t h∧zD P n a b W K t h
   |none=>False
structure ob (n:Nat) (t:Tm) (a:Act):Prop where
 size:a.tmps.size=n
 at_: ∀i,t i= .bot∨(t i).v=a.tmps.getD i undef
 dfs:a.defers=(t n).ds
abbrev Fl (ρ:Option Nat):Fence:={Fence.wide with round:=ρ}
abbrev zE (ρ:Option Nat) (P:Program) (b:Array Oper) (Q:Exit→Act→World→Prop) (i:Nat) (K:Act→World→Prop) (a:Act) (w:World):Prop:=wpOpIn (Fl ρ) 0 P b Q i K a w
theorem nH (t:Tm) (d:Nat) (x:Tv):upd t d x d=x:=by simp[upd]
theorem xY (t:Tm) {d i:Nat} (x:Tv) (h:i≠d):upd t d x i=t i:=by
 unfold upd;cases hb:Nat.beq i d with
 |true=>exact absurd (V5 hb) h
 |false=>rfl
theorem ob.put {n:Nat} {t:Tm} {a:Act} (r:ob n t a) (b:Option Tmp) (x:Tv) {v:Value} (g:x.v=v):ob n (put n t b x) (a.put b v):=by
 cases b with
 |none=>exact r
 |some d=>
  simp only[Sh.put,Act.put];cases hb:Nat.blt d n with
  |true=>
   have c:d<a.tmps.size:=by rw[r.size];exact jb hb
   refine⟨by simp[r.size],fun i=> ?_,by show a.defers=(upd t d x n).ds;rw[xY t x (show n≠d from fun e=>absurd (show d<n from jb hb) (by rw[e];exact Nat.lt_irrefl _))];exact r.dfs⟩;by_cases hi:i=d
   ·subst hi;right;show(upd t i x i).v=_;rw[nH];simp[c,g]
   ·show upd t d x i= .bot∨(upd t d x i).v=_;rw[xY t x hi];rcases r.at_ i with h|h
    ·exact .inl h
    ·right;rw[h];simp[Array.getElem?_setIfInBounds_ne (Ne.symm hi)]
  |false=>
   have f:a.tmps.size≤d:=by
    rw[r.size];rcases Nat.lt_or_ge d n with h|h
    ·have:Nat.blt d n=true:=Nat.ble_eq_true_of_le h;rw[hb] at this;cases this
    ·exact h
   have:a.tmps.setIfInBounds d v=a.tmps:=by
    apply Array.ext (by simp);intro i j k;rw[Array.getElem_setIfInBounds_ne];omega
   rw[this];exact r
theorem ob.known {n:Nat} {t:Tm} {a:Act} (r:ob n t a) (d:Nat) (b:Bool) (h:t d= .val (.bool b)):ob n (upd t d (.known b)) a:=by
 refine⟨r.size,fun i=> ?_,?_⟩
 ·by_cases hi:i=d
  ·subst hi;right;rw[nH];rcases r.at_ i with c|c
   ·rw[h] at c;cases c
   ·rw[←c,h];rfl
  ·rw[xY t _ hi];exact r.at_ i
 ·by_cases e:n=d
  ·subst e;rw[nH,r.dfs,h];rfl
  ·rw[xY t _ e];exact r.dfs
theorem ob.ev {n:Nat} {t:Tm} {a:Act} (r:ob n t a) {x:Operand} (h:R4 t x=true):(N5 t x).v=a.eval x:=by
 cases x with
 |tmp i=>
  rcases r.at_ i with b|b
  ·simp[R4,b] at h
  ·exact b
 |const v=>cases v<;>rfl
 |global g=>rfl
 |func f=>rfl
theorem IV {t:Tm}: ∀{l:List Operand},HX t l=true→ ∀x∈l,R4 t x=true
 |[],_,x,hx=>by cases hx
 |y::r,h,x,hx=>by
  simp only[HX] at h;cases hy:R4 t y with
  |false=>simp[hy] at h
  |true=>
   simp only[hy] at h;cases hx with
   |head=>exact hy
   |tail _ a=>exact IV h x a
def tm:Op→Bool
 | .select .. =>false
 | .defer .. =>false
 |_=>true
theorem ob.exec {n:Nat} {t:Tm} {a:Act} (r:ob n t a) {o:Oper} (c:tm o.op=true) (h:HX t o.op.operands.toList=true):
 execOp (fun x=>(N5 t x).v) o=execOp a.eval o:=
 execOp_congr o (fun f b e=>by rw[e] at c;cases c) fun x d=>r.ev (IV h x (Vx.2 d))
theorem Kx {n:Nat} {t:Tm} {a:Act} (r:ob n t a) {c:Array Oper} {j d:Nat} {k:Oper} (i:c[j]? =some k) (g:k.dst=some d):
 (∀b,(t d).v= .bool b→t d≠ .bot→yielded c a.tmps j=some b)∧(∀l,(t d).v= .tuple l→t d≠ .bot→yielded c a.tmps j=none):=by
 have key: ∀v,(t d).v=v→t d≠ .bot→a.tmps.getD d undef=v:=fun v f e=>by
  rcases r.at_ d with h|h
  ·exact absurd h e
  ·rw[←h,f]
 constructor
 ·intro b f e;have:=key _ f e;unfold yielded;rw[i];simp only[Option.bind_some,g];rw[Array.getD_eq_getD_getElem?] at this;cases hg:a.tmps[d]? with
  |none=>rw[hg] at this;simp[undef] at this
  |some u=>rw[hg] at this;simp at this;rw[this]
 ·intro l f e;have:=key _ f e;unfold yielded;rw[i];simp only[Option.bind_some,g];rw[Array.getD_eq_getD_getElem?] at this;cases hg:a.tmps[d]? with
  |none=>rfl
  |some u=>rw[hg] at this;simp at this;rw[this]
def qt (P:Program) (o:Oper):Bool:=
 match I7 P o.op with
 | .pure| .load=>true
 |_=>false
def Uz (P:Program) (n:Nat) (o:Oper) (w:World) (K:Tm→af→Prop) (c:Act) (a:World):Prop:=
 (quiet P o=true→eC w.heap a.heap)∧ ∃b,ob n b c∧Fr w a∧K b a.heap
theorem Ky {α:Type} (p:Program) (s:Sem α): ∀{h c:af} {a:α},FY p s h=some (a,c)→eC h c:=by
 induction s with
 |pure b=>intro h c a H;simp only[FY,Option.some.injEq,Prod.mk.injEq] at H;obtain⟨_,rfl⟩:=H;exact eC.refl _
 |program k d=>intro h c a H;exact d p H
 |mark m k d=>intro h c a H;exact d H
 |new o k d=>intro h c a H;exact(eC.push h o).trans (d _ H)
 |_=>intro h c a H;simp[FY] at H
theorem Qt {ρ:Option Nat} {P:Program} {n:Nat} {o:Oper} {K:Tm→af→Prop} {t:Tm} {a:Act} {w:World} {Q:Exit→Act→World→Prop} (z:tm o.op=true) (r:ob n t a)
 (H:Oo P n o K t w.heap):o.wpIn (Fl ρ) 0 P a w (Uz P n o w K) Q:=by
 unfold Oo at H;cases hok:HX t o.op.operands.toList with
 |false=>simp[hok] at H
 |true=>
  simp only[hok] at H;have E:=r.exec z hok;unfold Oper.wpIn;refine⟨fun _ _=>trivial,?_⟩;rw[Oper.semAt_eq _ _ _ (fun c e=>by rw[e] at z;cases z),←E];have s:(Fl ρ).depth.isSome=true→1≤0:=fun h=>by cases h
  by_cases l:quiet P o=true
  ·have q: ∃v i,(execOp (fun x=>(N5 t x).v) o).run P w= .ok (.value v) i∧Fr w i∧eC w.heap i.heap∧ ∃x:Tv,x.v=v∧K (put n t o.dst x) i.heap:=by
    unfold Jc at H;unfold quiet at l;split at H
    ·obtain⟨x,d,m⟩:=A0 H;exact⟨_,w,m w,Fr.refl w,eC.refl _,x,rfl,d⟩
    ·obtain⟨x,d,m⟩:=A5 H;exact⟨_,w,m w (eC.refl _),Fr.refl w,eC.refl _,x,rfl,d⟩
    ·unfold HY at H;split at H
     ·rename_i v D m;obtain⟨u,i,b,f,C,B⟩:=I4 P _ w.heap (fun u y=>u= .value v∧y=D) (GS P _ m _ ⟨rfl,rfl⟩) w rfl;subst C;exact⟨v,i,b,f,B▸Ky P _ m,.val v,rfl,B▸H⟩
     ·exact H.elim
    ·rename_i p;rw[p] at l;cases l
   obtain⟨v,i,b,f,k,x,d,g⟩:=q;rw[b];exact⟨fun _=>k,_,r.put o.dst x d,f,g⟩
  ·have:=M5 H w rfl;cases b:(execOp (fun x=>(N5 t x).v) o).run P w with
   |halt e i=>rw[b] at this;exact this.elim
   |ok u i=>
    rw[b] at this;cases u<;>simp only at this<;>try exact this.elim
    ·obtain⟨f,x,d,g⟩:=this;exact⟨fun h=>absurd h l,_,r.put o.dst x d,f,g⟩
    ·obtain⟨f,x,d,g⟩:=this;exact⟨fun h=>absurd h l,_,r.put o.dst x d,f,g⟩
    ·obtain⟨f,p⟩:=this;refine⟨s,(callsIn_wide (n:=0).2 (p.mono ?_))⟩;rintro e A ⟨v,rfl,j,x,d,g⟩;exact⟨fun h=>absurd h l,_,r.put o.dst x d,f.trans j,g⟩
    ·obtain⟨f,p⟩:=this;refine⟨s,RoundIn.mono p ?_⟩;rintro e A ⟨v,rfl,j,x,d,g⟩;exact⟨fun h=>absurd h l,_,r.put o.dst x d,f.trans j,g⟩
theorem xZ {b a:Bool} {A B:Prop} (h:Oq b a A B):(b=a∧A)∨(b≠a∧B):=by
 cases b<;>cases a<;>simp_all [Oq]
theorem GP {n:Nat} {c:Array Oper} {o:Oper} {R S:Tm→Prop} {t:Tm} {a:Act} (r:ob n t a)
 (H:Tz c.toList o t R S): ∃k,ob n k a∧
  ((Region.wanted o (yielded c a.tmps)=true∧R k)∨(Region.wanted o (yielded c a.tmps)=false∧S k)):=by
 unfold Tz at H;cases hg:o.guard with
 |none=>simp only[hg] at H;exact⟨t,r,.inl ⟨by simp[Region.wanted,hg],H⟩⟩
 |some q=>
  obtain⟨j,h⟩:=q;simp only[hg,mJ] at H;cases hj:c.toList[j]? with
  |none=>simp[hj] at H
  |some l=>
   simp only[hj] at H;have i:c[j]? =some l:=by rw[←hj];simp
   cases hd:l.dst with
   |none=>simp[hd] at H
   |some d=>
    simp only[hd] at H;obtain⟨p,u⟩:=Kx r i hd;have m: ∀b,yielded c a.tmps j=some b→Region.wanted o (yielded c a.tmps)=(b==h):=fun b f=>by simp[Region.wanted,hg,f]
    split at H
    ·rename_i b f;have g:=m b (p b (by rw[f];rfl) (by rw[f];simp));rcases xZ H with ⟨e,H⟩|⟨e,H⟩
     ·exact⟨t,r,.inl ⟨by rw[g];simp[e],H⟩⟩
     ·exact⟨t,r,.inr ⟨by rw[g];simp[e],H⟩⟩
    ·rename_i b f;have g:=m b (p b (by rw[f];rfl) (by rw[f];simp));cases b with
     |true=>
      rcases xZ (H.1 rfl) with ⟨e,H⟩|⟨e,H⟩
      ·exact⟨_,r.known d true f,.inl ⟨by rw[g];simp[e],H⟩⟩
      ·exact⟨_,r.known d true f,.inr ⟨by rw[g];simpa using e,H⟩⟩
     |false=>
      rcases xZ (H.2 rfl) with ⟨e,H⟩|⟨e,H⟩
      ·exact⟨_,r.known d false f,.inl ⟨by rw[g];simp[e],H⟩⟩
      ·exact⟨_,r.known d false f,.inr ⟨by rw[g];simpa using e,H⟩⟩
    ·rename_i s f;have g:=u s (by rw[f];rfl) (by rw[f];simp);exact⟨t,r,.inr ⟨by simp[Region.wanted,hg,g],H⟩⟩
    ·exact H.elim
theorem GQ {P:Program} {n:Nat} {b:Array Oper} {o:Oper} {K:Tm→af→Prop} {t:Tm} {a:Act} {h:af} (r:ob n t a)
 (H:RD P n b.toList o K t h): ∃c,ob n c a∧
  ((Region.wanted o (yielded b a.tmps)=true∧Oo P n o K c h)∨(Region.wanted o (yielded b a.tmps)=false∧K (put n c o.dst (.val undef)) h)):=
 GP r H
theorem Ot {ρ:Option Nat} {P:Program} {n:Nat} {b:Array Oper} {i:Nat} {o:Oper} {K:Tm→af→Prop} {t:Tm} {a:Act} {w:World} {Q:Exit→Act→World→Prop}
 (hi:b[i]? =some o) (d:tm o.op=true) (r:ob n t a) (H:RD P n b.toList o K t w.heap):zE ρ P b Q i (Uz P n o w K) a w:=by
 obtain⟨e,c,H|H⟩:=GQ r H
 ·simp only[wpOpIn,hi,H.1,if_true];exact Qt d c H.2
 ·simp only[wpOpIn,hi,H.1,Vr,if_false];exact⟨fun _ _=>trivial,fun _=>eC.refl _,_,c.put o.dst _ rfl,Fr.refl w,H.2⟩
theorem MO {P:Program} {n:Nat} {b:Array Oper} {o:Oper} {K:Tm→af→Prop} {t:Tm} {a:Act} {h:af}
 (p:tm o.op=true) (d:qt P o=true) (r:ob n t a) (H:RD P n b.toList o K t h):
 ∃v i,YieldsIf P b (fun w=>eC h w.heap) o v a∧(I7 P o.op= .pure→Yields P b o v a)∧ob n i (a.put o.dst v)∧K i h:=by
 obtain⟨i,g,H|H⟩:=GQ r H
 ·obtain⟨j,H⟩:=H;unfold Oo at H;cases hok:HX i o.op.operands.toList with
  |false=>simp[hok] at H
  |true=>
   simp only[hok] at H;have l:=g.exec p hok;unfold Jc at H;unfold qt at d;split at H
   ·obtain⟨x,k,c⟩:=A0 H;rw[l] at c;exact⟨x.v,_,.inl ⟨j,fun w _=>c w⟩,fun _=> .inl ⟨j,c⟩,g.put o.dst x rfl,k⟩
   ·rename_i f;obtain⟨x,k,c⟩:=A5 H;rw[l] at c;exact⟨x.v,_,.inl ⟨j,fun w m=>c w m⟩,(fun e=>by rw[f] at e;cases e),g.put o.dst x rfl,k⟩
   ·rename_i f;rw[f] at d;cases d
   ·rename_i f;rw[f] at d;cases d
 ·exact⟨undef,_,.inr ⟨H.1,rfl⟩,fun _=> .inr ⟨H.1,rfl⟩,g.put o.dst (.val undef) rfl,H.2⟩
def lJ (W:hY) (h:af):Prop:= ∀x∈W,aD h x.2.1=some x.2.2
def Ou (k:Nat) (W:hY):Prop:= ∀x∈W,x.1=k
theorem lJ.live {o:Oper}: ∀{W:hY} {h:af},lJ (qs o W) h→ ∀x∈W,waitsFor o x.1=false→aD h x.2.1=some x.2.2
 |[],_,_,x,b,_=>by simp at b
 |y::r,h,a,x,b,hw=>by
  simp only[qs] at a;cases hy:waitsFor o y.1 with
  |true=>
   simp only[hy] at a;rcases U7.1 b with rfl|b
   ·rw[hw] at hy;cases hy
   ·exact lJ.live a x b hw
  |false=>
   simp only[hy] at a;rcases U7.1 b with rfl|b
   ·exact a x (by simp)
   ·exact lJ.live (fun z c=>a z (Vd _ c)) x b hw
theorem AX: ∀(W:hY) (h:af) (K:Prop),di W h K↔lJ W h∧K
 |[],h,K=>by simp[di,lJ]
 |x::r,h,K=>by
  simp only[di,AX r h K,lJ,U7,forall_eq_or_imp];constructor
  ·rintro⟨a,b,c⟩;exact⟨⟨a,b⟩,c⟩
  ·rintro⟨⟨a,b⟩,c⟩;exact⟨a,b,c⟩
theorem lJ.keeps {W:hY} {h b:af} (a:lJ W h) (k:eC h b):lJ W b:=fun x c=>k.cell (a x c)
theorem lJ.append {W V:hY} {h:af} (a:lJ W h) (b:lJ V h):lJ (W++V) h:=fun x c=>by
 rcases UX.1 c with h|h
 ·exact a x h
 ·exact b x h
theorem IW (P:Program) (k:Nat): ∀(zs:List Value) (h:af) (a:Addr) (i:Nat) (K:List Value→Prop),GU zs h a i K→
 ∃e,K e∧e.length=zs.length∧Ou k (cf k a e i)∧lJ (cf k a e i) h∧ ∀w:World,lJ (cf k a e i) w.heap→ ∀c,(loadCellsFrom a i zs.length c).run P w= .ok (c++e.toArray) w:=by
 intro zs
 induction zs with
 |nil=>intro h a i K H;exact⟨[],H,rfl,fun x b=>by simp[cf] at b,fun x b=>by simp[cf] at b,fun w _ c=>by simp[loadCellsFrom]⟩
 |cons z zs o=>
  intro h a i K H;simp only[GU,L6] at H;obtain⟨v,m,H⟩:=kK H;obtain⟨e,g,j,f,n,l⟩:=o h a (i+1) _ H;refine⟨v::e,g,by simp[j],?_,?_,fun w d c=> ?_⟩
  ·intro x b;simp only[cf,U7] at b;rcases b with rfl|b
   ·rfl
   ·exact f x b
  ·intro x b;simp only[cf,U7] at b;rcases b with rfl|b
   ·exact m
   ·exact n x b
  ·simp only[UY,loadCellsFrom,bf,zM (d (k,a.add i,v) (by simp[cf]))];rw[l w (fun x b=>d x (by simp only[cf,U7];exact .inr b))];simp
theorem IX {P:Program} {t:TypeId} {h:af} {a:Addr} {K:Value→Prop} (k:Nat) (H:EE P t h a K):
 ∃v,K v∧Ou k (AV P t k a v)∧lJ (AV P t k a v) h∧ ∀w:World,lJ (AV P t k a v) w.heap→(loadVar t a).run P w= .ok v w:=by
 unfold EE at H;cases hty:zJ P t with
 |none=>simp[hty] at H
 |some p=>
  simp only[hty] at H;unfold zJ at hty;cases hu:P.underlying t with
  |none=>simp[hu] at hty
  |some d=>
   cases hi:P.info? t with
   |none=>simp[hu,hi] at hty
   |some i=>
    simp only[hu,hi] at hty;have b:zJ P t=some p:=by unfold zJ;simp only[hu,hi];exact hty
    cases hd:AZ d with
    |false=>
     simp only[hd] at hty;cases hz:i.zero with
     |none=>simp[hz] at hty
     |some z=>
      simp only[hz,Option.some.injEq] at hty;subst hty;obtain⟨v,o,H⟩:=kK H;refine⟨v,H,?_⟩;simp only[AV,b];refine⟨fun x e=>by simp only[SH] at e;subst e;rfl,fun x e=>by simp only[SH] at e;subst e;exact o,fun w l=> ?_⟩;simp only[loadVar,bf,i5 hu,hd,Vr,if_false,zM (l (k,a,v) (by simp))]
    |true=>
     cases hz:i.zero with
     |none=>simp[hz,hd] at hty
     |some z=>
      cases z<;>simp only[hz,hd] at hty<;>try (cases hty;done)
      rename_i zs;cases hn:Nat.beq zs.size i.size with
      |false=>simp[hn] at hty
      |true=>
       simp only[hn,Option.some.injEq] at hty;subst hty;obtain⟨r,m,q,f,l,n⟩:=IW P k zs.toList h a 0 _ H;refine⟨_,m,?_⟩;simp only[AV,b];refine⟨f,l,fun w c=> ?_⟩;have g:=n w c #[];have j:i.size=zs.toList.length:=by rw[WC];exact(V5 hn).symm
       simp only[loadVar,bf,i5 hu,hd,if_true,fj hi,loadCells,j,g,bN,Array.empty_append]
theorem Kz {P:Program} {n:Nat} {e:Array Oper} {o:Oper} {K:hY→Tm→af→Prop} {t:Tm} {a:Act} {h:af} {k:Nat}
 (u:tm o.op=true) (r:ob n t a) (H:Uy P n k e.toList o K t h):
 ∃v f W,Ou k W∧YieldsIf P e (fun w=>lJ W w.heap) o v a∧lJ W h∧ob n f (a.put o.dst v)∧K W f h:=by
 obtain⟨f,j,⟨z,H⟩|H⟩:=GP r H
 ·unfold SV at H;cases hok:HX f o.op.operands.toList with
  |false=>simp[hok] at H
  |true=>
   simp only[hok] at H;have p:=j.exec u hok;split at H
   ·rename_i C x q;split at H
    ·rename_i A d;obtain⟨v,y,i,c,s⟩:=IX k H;refine⟨v,_,_,i,.inl ⟨z,fun w b=> ?_⟩,c,j.put o.dst (.val v) rfl,y⟩;rw[←p];obtain⟨m,B,l,pos,g,guard⟩:=o;subst q;simp only[execOp,Instr.loadAt,Instr.sureAddr,bf,d,bN,s w b]
    ·exact H.elim
   ·exact H.elim
 ·exact⟨undef,_,[],fun x d=>by simp at d,.inr ⟨H.1,rfl⟩,fun x d=>by simp at d,j.put o.dst (.val undef) rfl,H.2⟩
end
section
def vD (P:Program) (a:Array Oper) (i:Nat):Prop:= ∀o,a[i]? =some o→quiet P o=true
def rP (ρ:Option Nat) (P:Program) (c:Array Oper) (Q:Exit→Act→World→Prop) (W:hY):Nat→Array Bool→Act→World→Prop
 |0,b,a,w=>Region.ready .any c b=[]∧Q .normal a w
 |fuel+1,b,a,w=>
  (Region.ready .any c b=[]→Q .normal a w)∧
  ∀i∈Region.ready .any c b,zE ρ P c Q i (fun e d=>(vD P c i→eC w.heap d.heap)∧(∀o,c[i]? =some o→quiet P o=false→lJ (qs o W) d.heap)∧rP ρ P c Q W fuel (b.setIfInBounds i true) e d) a w
theorem EA {ρ:Option Nat} {P:Program} {d:Array Oper} {Q:Exit→Act→World→Prop} {W:hY}: ∀(b:Nat) (c:Array Bool) (a:Act) (w:World),rP ρ P d Q W b c a w→wpAnyIn (Fl ρ) 0 P .any d Q b c a w
 |0,_,_,_,h=>h
 |b+1,_,_,_,h=>⟨h.1,fun i hi=>wpOpIn_mono (fun e g f=>EA b _ e g f.2.2) (h.2 i hi)⟩
theorem rQ (o:Oper): ∀(V W:hY),∀x∈qs o W,x∈qs o (V++W)
 |[],_,_,hx=>hx
 |y::r,W,x,hx=>by
  simp only[Xi,qs];split
  ·exact rQ o r W x hx
  ·exact Vd _ (rQ o r W x hx)
theorem BV {ρ:Option Nat} {P:Program} {d:Array Oper} {Q:Exit→Act→World→Prop} {V W:hY}: ∀(b:Nat) (c:Array Bool) (a:Act) (w:World),rP ρ P d Q (V++W) b c a w→rP ρ P d Q W b c a w
 |0,_,_,_,h=>h
 |b+1,_,_,_,h=>⟨h.1,fun i hi=>wpOpIn_mono (fun f l e=>⟨e.1,fun o g j x k=>e.2.1 o g j x (rQ o V W x k),BV b _ f l e.2.2⟩) (h.2 i hi)⟩
theorem va {ρ:Option Nat} {P:Program} {b:Array Oper} {Q:Exit→Act→World→Prop} {S:World→Prop} {i:Nat} {o:Oper} {v:Value} {a:Act} (hi:b[i]? =some o) (f:tm o.op=true) (k:YieldsIf P b S o v a)
 {K:Act→World→Prop} {w:World} (g:S w) (h:K (a.put o.dst v) w):zE ρ P b Q i K a w:=by
 unfold zE wpOpIn;simp only[hi];rcases k with ⟨d,j⟩|⟨d,rfl⟩
 ·simp only[d,if_true,Oper.wpIn,Oper.semAt_eq _ _ o (fun c e=>by rw[e] at f;cases f),j w g,Oper.uponIn];exact⟨fun _ _=>trivial,h⟩
 ·simp only[d,Vr,if_false];exact⟨fun _ _=>trivial,h⟩
theorem IY {ρ:Option Nat} {P:Program} {i:Array Oper} {Q:Exit→Act→World→Prop} {S:World→Prop} {j:Nat} {k m:Oper} {v:Value} (L:i[j]? =some m) (E:k.apart i m=true)
 (z:tm k.op=true) (o:tm m.op=true)
 (D: ∀c a w,Q (.panic c) (a.put k.dst v) w→Q (.panic c) a w) {K:Act→World→Prop} {a:Act} {w:World}
 (p:YieldsIf P i S k v a) (h:zE ρ P i Q j K (a.put k.dst v) w):
 zE ρ P i Q j (fun H G=>YieldsIf P i S k v H∧K (H.put k.dst v) G) a w:=by
 obtain⟨I,q,J⟩:=Oper.apart_spec E;have A: ∀y b,k.op≠ .select y b:=fun y b e=>by rw[e] at z;cases z
 have B: ∀y b,m.op≠ .select y b:=fun y b e=>by rw[e] at o;cases o
 have g: ∀(a:Act),YieldsIf P i S k v a→ ∀u,YieldsIf P i S k v (a.put m.dst u):=fun a p u=>
  p.of_same (execOp_put k A a m.dst u J) (wanted_put k a m.dst u J)
 have s: ∀d,YieldsIf P i S k v {a with defers:=d::a.defers}:=fun d=>p.of_same rfl rfl;have nd: ∀t,Oper.semAt (Fl ρ).round t m=execOp t m:=fun t=>Oper.semAt_eq _ _ m (fun c e=>by rw[e] at o;cases o);unfold zE wpOpIn at *;simp only[L] at *;rw[wanted_put m a k.dst v I] at h;split
 ·rename_i F;simp only[F,if_true] at h;unfold Oper.wpIn at *;refine⟨fun _ _=>trivial,?_⟩;have h:=h.2;rw[nd,execOp_put m B a k.dst v I] at h;rw[nd];generalize (execOp a.eval m).run P w=r at *;cases r with
  |ok x G=>
   cases x<;>simp only[Oper.uponIn] at h ⊢
   case value u=>exact⟨g a p u,by rw[←Act.put_comm a v u q];exact h⟩
   case skip=>exact⟨g a p _,by rw[←Act.put_comm a v undef q];exact h⟩
   case defer d=>
    refine⟨g _ (s d) _,?_⟩;rw[←Act.put_comm _ v undef q,←Act.put_defers];exact h
   case enter f args=>
    refine⟨h.1,CallsIn.mono h.2 fun e C n=> ?_⟩;cases e with
    |returned u=>exact⟨g a p u,by rw[←Act.put_comm a v u q];exact n⟩
    |panicked c=>exact D _ _ _ n
    |outgrown=>exact n
   case row row args=>exact⟨h.1,RowsIn.mono h.2 fun u C n=>⟨g a p u,by rw[←Act.put_comm a v u q];exact n⟩⟩
   case round l f tmps assign body=>
    refine⟨h.1,RoundIn.mono h.2 fun e C n=> ?_⟩;cases e with
    |returned u=>exact⟨g a p u,by rw[←Act.put_comm a v u q];exact n⟩
    |panicked c=>exact D _ _ _ n
    |outgrown=>exact n
  |halt x G=>
   cases x<;>simp only[Oper.uponIn] at h ⊢
   case panic u=>exact D _ _ _ h
 ·rename_i F;simp only[F] at h;exact⟨fun _ _=>trivial,g a p _,by rw[←Act.put_comm a v undef q];exact h.2⟩
theorem rR {ρ:Option Nat} {P:Program} {d:Array Oper} {Q:Exit→Act→World→Prop} {W:hY} {S:World→Prop} {i:Nat} {C:Oper} {v:Value} (hi:d[i]? =some C) (G:vD P d i)
 (l: ∀(j:Nat) (o:Oper),d[j]? =some o→tm o.op=true)
 (V: ∀c a w,Q (.panic c) (a.put C.dst v) w→Q (.panic c) a w):
 ∀(g:Nat) (b:Array Bool) (a:Act) (w:World),
  (∀j m,d[j]? =some m→j≠i→b.getD j true=false→(∀e∈m.after,Region.binds .any e=true→e.on≠i)→C.apart d m=true)→
  (∀j m,d[j]? =some m→j≠i→b.getD j true=false→(∀e∈m.after,Region.binds .any e=true→e.on≠i)→
   ∀w D:World,S w→(vD P d j→eC w.heap D.heap)→(quiet P m=false→lJ (qs m W) D.heap)→S D)→
  i∈Region.ready .any d b→YieldsIf P d S C v a→S w→
  rP ρ P d Q W g (b.setIfInBounds i true) (a.put C.dst v) w→rP ρ P d Q W (g+1) b a w:=by
 intro g
 induction g with
 |zero=>
  intro b a w _ _ A K I H;refine⟨fun h=>(by rw[h] at A;cases A),fun j J=> ?_⟩;by_cases f:j=i
  ·subst f;exact va hi (l _ _ hi) K I ⟨fun _=>eC.refl _,fun o R N=>absurd (G o R) (by rw[N];simp),H⟩
  ·have:=ready_mono J f;rw[H.1] at this;cases this
 |succ g Z=>
  intro b a w p r A K I H;refine⟨fun h=>(by rw[h] at A;cases A),fun j J=> ?_⟩;by_cases f:j=i
  ·subst f;exact va hi (l _ _ hi) K I ⟨fun _=>eC.refl _,fun o R N=>absurd (G o R) (by rw[N];simp),H⟩
  ·have x:=H.2 j (ready_mono J f);obtain⟨q,m,s,E⟩:=mem_ready.1 J;have t: ∀e∈m.after,Region.binds .any e=true→e.on≠i:=fun e Y X M=>by
    have x:=E e Y X;have h0:=(mem_ready.1 A).1;rw[M] at x;rcases Nat.lt_or_ge i b.size with L|L
    ·simp[L] at h0 x;rw[h0] at x;cases x
    ·simp[WZ L] at x
   have U:=IY s (p j m s f q t) (l i C hi) (l j m s) V K x;have u: ∀k,(b.setIfInBounds j true).getD k true=false→b.getD k true=false:=fun k n=>by
    by_cases F:j=k
    ·subst F;exact q
    ·rw[getD_set_ne true F] at n;exact n
   refine wpOpIn_mono (fun T D B=>⟨B.2.1,B.2.2.1,Z (b.setIfInBounds j true) T D (fun k ok O y n z=>p k ok O y (u k n) z)
    (fun k ok O y n z=>r k ok O y (u k n) z) (ready_mono A (Ne.symm f)) B.1 (r j m s f q t w D I B.2.1 (B.2.2.1 m s)) ?_⟩) U
   rw[Array.setIfInBounds_comm _ _ f];exact B.2.2.2
def has (m i:Nat):Bool:=Nat.testBit m i
def vE (done:Nat) (o:Oper):Bool:=o.after.toList.all fun e=> !Region.binds .any e||has done e.on
def ya (a:List Oper) (done i:Nat):Bool:=
 match FU a i with
 |some o=> !has done i&&vE done o
 |none=>false
def IZ (P:Program) (a:Array Oper) (c:Oper) (b:Bool) (done i:Nat):List Oper→Nat→Bool
 |[],_=>true
 |o::r,j=>(j==i||has done j||waitsFor o i||(c.apart a o&&(!b||quiet P o)))&&IZ P a c b done i r (j+1)
def KA (P:Program) (o:Oper):Bool:=
 match I7 P o.op with
 | .pure=>true
 |_=>false
def Ov (P:Program) (a:Array Oper) (done i:Nat):Bool:=
 match FU a.toList i with
 |some o=>qt P o&&IZ P a o (!KA P o) done i a.toList 0
 |none=>false
def KB (o:Oper):Bool:=
 match o.op with
 | .load .. =>true
 |_=>false
def Ow (P:Program) (a:Array Oper) (done i:Nat):Bool:=
 match FU a.toList i with
 |some o=>KB o&&IZ P a o false done i a.toList 0
 |none=>false
def rS (b:List Oper) (done:Nat) (a:List Nat):List Oper→Nat→Bool
 |[],_=>true
 |o::r,j=>(has done j|| !vE done o||a.contains j)&&rS b done a r (j+1)
def vF (done:Nat):List Oper→Nat→Bool
 |[],_=>true
 |_::r,j=>has done j&&vF done r (j+1)
def schOk (P:Program) (b:Array Oper):N3→(done:Nat)→(a:List Nat)→Bool
 | .done,done,a=>a.isEmpty&&vF done b.toList 0
 | .stop,done,a=> !a.isEmpty&&rS b.toList done a b.toList 0
 | .one i r,done,a=>a.isEmpty&&ya b.toList done i&&Ov P b done i&&schOk P b r (done|||2 ^ i) []
 | .early i r,done,a=>a.isEmpty&&ya b.toList done i&&Ow P b done i&&schOk P b r (done|||2 ^ i) []
 | .alt i r c,done,a=>ya b.toList done i&&schOk P b r (done|||2 ^ i) []&&schOk P b c done (i::a)
structure FV (ops:Array Oper) (done:Nat) (listed:Array Bool):Prop where
 size:listed.size=ops.size
 bit: ∀i,i<ops.size→listed.getD i true=has done i
theorem FV.set {a:Array Oper} {done:Nat} {listed:Array Bool} (b:FV a done listed) (i:Nat):FV a (done|||2 ^ i) (listed.setIfInBounds i true):=by
 refine⟨by simp[b.size],fun j c=> ?_⟩;unfold has;rw[Nat.testBit_or,Xc];by_cases h:i=j
 ·subst h;simp[b.size,c]
 ·rw[getD_set_ne true h,b.bit j c];simp[has,h]
theorem FV.false_of {a:Array Oper} {done:Nat} {listed:Array Bool} (b:FV a done listed) {i:Nat} (hi:i<a.size):listed.getD i false=has done i:=by
 rw[←b.bit i hi];simp[b.size,hi]
theorem gF {a:Array Oper} {done:Nat} {listed:Array Bool} (b:FV a done listed) (g: ∀(j:Nat) (o:Oper),a[j]? =some o→ ∀e∈o.after,e.on<a.size) (j:Nat):
 j∈Region.ready .any a listed↔ ∃o,a[j]? =some o∧has done j=false∧vE done o=true:=by
 rw[mem_ready];constructor
 ·rintro⟨h0,o,d,c⟩;have k:j<a.size:=(Vl.1 d).1;refine⟨o,d,by rw[←b.bit j k];exact h0,?_⟩;simp only[vE,Wu,W5,Wh];intro e f;cases i:Region.binds .any e with
  |false=>exact .inl rfl
  |true=>right;rw[←b.false_of (g j o d e (Vx.1 f))];exact c e (Vx.1 f) i
 ·rintro⟨o,d,h0,c⟩;have k:j<a.size:=(Vl.1 d).1;refine⟨by rw[b.bit j k];exact h0,o,d,fun e f i=> ?_⟩;simp only[vE,Wu,W5,Wh] at c;rcases c e (Vx.2 f) with h|h
  ·rw[i] at h;cases h
  ·rw[b.false_of (g j o d e f)];exact h
theorem yb {P:Program} {f:Array Oper} {p:Oper} {n:Bool} {done i:Nat}: ∀{l:List Oper} {j:Nat},IZ P f p n done i l j=true→
 ∀k o,l[k]? =some o→j+k≠i→has done (j+k)=false→(∀e∈o.after,Region.binds .any e=true→e.on≠i)→p.apart f o=true∧(n=true→quiet P o=true)
 |[],_,_,k,o,ho=>by simp at ho
 |x::r,j,h,k,o,ho=>by
  intro c b d;simp only[IZ,U9] at h;obtain⟨a,q⟩:=h;cases k with
  |zero=>
   simp only[List.getElem?_cons_zero,Option.some.injEq] at ho;subst ho;simp only[Va] at c b;simp only[W5,beq_iff_eq,c,false_or,b,Vr,U9] at a;rcases a with a|a
   ·simp only[waitsFor,List.any_eq_true,U9,beq_iff_eq] at a;obtain⟨e,t,s,m⟩:=a;exact absurd m (d e (Vx.1 t) s)
   ·refine⟨a.1,fun u=> ?_⟩;rcases a.2 with g|g
    ·rw[u] at g;simp at g
    ·exact g
  |succ k=>
   have:=yb q k o (by simpa using ho) (by omega) (by rw[show j+1+k=j+(k+1) by omega];exact b) d;exact this
theorem tn {c:List Oper} {done:Nat} {a:List Nat}: ∀{l:List Oper} {j:Nat},rS c done a l j=true→
 ∀k o,l[k]? =some o→has done (j+k)=false→vE done o=true→j+k∈a
 |[],_,_,k,o,ho=>by simp at ho
 |x::r,j,h,k,o,ho=>by
  intro b d;simp only[rS,U9] at h;cases k with
  |zero=>
   simp only[List.getElem?_cons_zero,Option.some.injEq] at ho;subst ho;simp only[Va] at b ⊢;have:=h.1;simp only[b,d,Bool.not_true,Bool.or_false,Bool.false_or] at this;simpa using this
  |succ k=>
   have:=tn h.2 k o (by simpa using ho) (by rw[show j+1+k=j+(k+1) by omega];exact b) d;rw[show j+1+k=j+(k+1) by omega] at this;exact this
theorem vb {done:Nat}: ∀{l:List Oper} {j:Nat},vF done l j=true→ ∀k o,l[k]? =some o→has done (j+k)=true
 |[],_,_,k,o,ho=>by simp at ho
 |x::r,j,h,k,o,ho=>by
  simp only[vF,U9] at h;cases k with
  |zero=>simpa using h.1
  |succ k=>
   have:=vb h.2 k o (by simpa using ho);rw[show j+1+k=j+(k+1) by omega] at this;exact this
def ki (a:List Oper):Bool:=a.all fun o=>tm o.op&&o.after.toList.all fun e=>Nat.blt e.on a.length
theorem kj {a:Array Oper} (h:ki a.toList=true) {i:Nat} {o:Oper} (b:a[i]? =some o):tm o.op=true:=by
 simp only[ki,Wu,U9] at h;exact(h o (Vx.2 (W7 b))).1
theorem I1 {a:Array Oper} (h:ki a.toList=true) (j:Nat) (o:Oper) (c:a[j]? =some o) (e:Edge) (b:e∈o.after):e.on<a.size:=by
 simp only[ki,Wu,U9] at h;have:=(h o (Vx.2 (W7 c))).2 e (Vx.2 b);have:=jb this;simp only[WC] at this;exact this
def vd (n:Nat) (w0:World) (b:Exit→Tm→af→Prop) (e:Exit) (a:Act) (w:World):Prop:=
 (match e with| .panic _=>False| .outgrown=>False|_=>True)∧ ∃t,ob n t a∧Fr w0 w∧b e t w.heap
def pD (listed:Array Bool):Nat:=listed.toList.count false
theorem rT {listed:Array Bool} {i:Nat} (hi:i<listed.size) (h:listed.getD i true=false):pD listed=pD (listed.setIfInBounds i true)+1:=by
 have a:i<listed.toList.length:=by simpa using hi
 have b:listed.toList[i]=false:=by simpa[hi] using h
 unfold pD;rw[Array.toList_setIfInBounds,List.count_set a];simp only[b];have:0<listed.toList.count false:=List.count_pos_iff.2 (b▸UU a);show _=_-1+0+1;omega
theorem oN {P:Program} {b:Array Oper} {i:Nat} {o:Oper} (c:b[i]? =some o):vD P b i↔quiet P o=true:=
 ⟨fun h=>h o c,fun h d a=>by rw[c] at a;cases a;exact h⟩
theorem ve {P:Program} {o:Oper} {W:hY} {K:Tm→af→Prop} {t:Tm} {h:af} (H:AW P o W K t h):(quiet P o=false→lJ (qs o W) h)∧K t h:=by
 unfold AW at H;cases hq:quiet P o with
 |true=>simp only[hq] at H;exact⟨fun h=>(by cases h),H⟩
 |false=>simp only[hq] at H;exact⟨fun _=>((AX _ h _).1 H).1,((AX _ h _).1 H).2⟩
theorem HR {P:Program} {o:Oper} (h:KB o=true):quiet P o=true:=by
 obtain⟨c,d,b,pos,a,guard⟩:=o;cases d<;>first|rfl|(simp[KB] at h)
theorem CS {P:Program} {o:Oper} (h:qt P o=true):quiet P o=true:=by
 unfold qt at h;unfold quiet;split at h<;>simp_all
theorem MP {ρ:Option Nat} {P:Program} {n:Nat} {d:Array Oper} {V:Exit→Tm→af→Prop} {w0:World} (hp:ki d.toList=true) (s:N3):
 (∀(W:hY) (done:Nat) (listed:Array Bool) (t:Tm) (a:Act) (w:World),schOk P d s done []=true→FV d done listed→ob n t a→Fr w0 w→
  zD P n d.toList s W (V .normal) t w.heap→rP ρ P d (vd n w0 V) W (pD listed) listed a w)∧
 (∀(W:hY) (done:Nat) (q:List Nat) (listed:Array Bool) (t:Tm) (a:Act) (w:World),schOk P d s done q=true→FV d done listed→ob n t a→Fr w0 w→
  (s= .stop∨ ∃i r G,s= .alt i r G)→
  zD P n d.toList s W (V .normal) t w.heap→ ∀j∈Region.ready .any d listed,j∉q→
   zE ρ P d (vd n w0 V) j (fun a' R=>(vD P d j→eC w.heap R.heap)∧(∀o,d[j]? =some o→quiet P o=false→lJ (qs o W) R.heap)∧rP ρ P d (vd n w0 V) W (pD listed-1) (listed.setIfInBounds j true) a' R) a w):=by
 have Q:=I1 hp;have U: ∀(j:Nat) (o:Oper),d[j]? =some o→tm o.op=true:=fun j o u=>kj hp u
 induction s with
 |done=>
  refine⟨fun W done listed t a w g b r K H=> ?_,fun _ _ _ _ _ _ _ _ _ _ _ h=> ?_⟩
  ·simp only[schOk,U9] at g;have M:Region.ready .any d listed=[]:=by
    rw[List.eq_nil_iff_forall_not_mem];intro j u;obtain⟨o,E,h0,_⟩:=(gF b Q j).1 u;have:=vb g.2 j o (by rw[←E];simp);rw[SI,h0] at this;cases this
   have hq:vd n w0 V .normal a w:=⟨trivial,t,r,K,H⟩;cases pD listed with
   |zero=>exact⟨M,hq⟩
   |succ k=>exact⟨fun _=>hq,by rw[M];intro i hi;cases hi⟩
  ·rcases h with h|⟨_,_,_,h⟩<;>cases h
 |stop=>
  refine⟨fun W done listed t a w g=>by simp[schOk] at g,fun W done q listed t a w g b r K _ H j u X=> ?_⟩;simp only[schOk,U9] at g;obtain⟨o,E,h0,hb⟩:=(gF b Q j).1 u;have:=tn g.2 j o (by rw[←E];simp) (by rw[SI];exact h0) hb;rw[SI] at this;exact absurd this X
 |early i r ih=>
  refine⟨fun W done listed t a w g b C K H=> ?_,fun _ _ _ _ _ _ _ _ _ _ _ h=> ?_⟩
  ·simp only[schOk,U9] at g;obtain⟨⟨⟨_,m⟩,f⟩,g⟩:=g;simp only[zD,mJ] at H;unfold ya at m;unfold Ow at f;rw[mJ] at m f;cases E:d.toList[i]? with
   |none=>simp[E] at m
   |some o=>
    simp only[E] at H m f;have l:d[i]? =some o:=by rw[←E];simp
    have hi:i<d.size:=(Vl.1 l).1;simp only[U9,Wh] at m f;have L:i∈Region.ready .any d listed:=(gF b Q i).2 ⟨o,l,m.1,m.2⟩;obtain⟨v,t',W',ag,hy,aa,I,H'⟩:=Kz (kj hp l) C H;have N:=ih.1 _ _ _ t' (a.put o.dst v) w g (b.set i) I K H';have F:=rT (listed:=listed) (i:=i) (by rw[b.size];exact hi) (by rw[b.bit i hi];exact m.1);rw[F];have A:=fun j J (u:d[j]? =some J) (D:j≠i) (z:listed.getD j true=false) y=>
     yb f.2 j J (by rw[←u];simp) (by omega) (by rw[SI,←b.bit j (Vl.1 u).1];exact z) y
    refine BV _ _ _ _ (rR (S:=fun R=>lJ W' R.heap) l ((oN l).2 (HR f.1)) U (fun c a w h=>h.1.elim) _ listed a w (fun j J u D z y=>(A j J u D z y).1)
     (fun j J u D z y w1 w2 h1 h2 h3=> ?_) L hy aa N)
    cases hqj:quiet P J with
    |true=>exact h1.keeps (h2 ((oN u).2 hqj))
    |false=>
     intro x hx;refine(h3 hqj).live x (Vu _ hx) ?_;rw[ag x hx];cases hw:waitsFor J i with
     |false=>rfl
     |true=>
      simp only[waitsFor,List.any_eq_true,U9,beq_iff_eq] at hw;obtain⟨e,he,hb,ai⟩:=hw;exact absurd ai (y e (Vx.1 he) hb)
  ·rcases h with h|⟨_,_,_,h⟩<;>cases h
 |one i r ih=>
  refine⟨fun W done listed t a w g b C K H=> ?_,fun _ _ _ _ _ _ _ _ _ _ _ h=> ?_⟩
  ·simp only[schOk,U9] at g;obtain⟨⟨⟨_,m⟩,f⟩,g⟩:=g;simp only[zD,mJ] at H;unfold ya at m;unfold Ov at f;rw[mJ] at m f;cases E:d.toList[i]? with
   |none=>simp[E] at m
   |some o=>
    simp only[E] at H m f;have l:d[i]? =some o:=by rw[←E];simp
    have hi:i<d.size:=(Vl.1 l).1;simp only[U9,Wh] at m f;have L:i∈Region.ready .any d listed:=(gF b Q i).2 ⟨o,l,m.1,m.2⟩;obtain⟨v,t',hy,ap,I,H'⟩:=MO (kj hp l) f.1 C H;have N:=ih.1 W _ _ t' (a.put o.dst v) w g (b.set i) I K (ve H').2;have F:=rT (listed:=listed) (i:=i) (by rw[b.size];exact hi) (by rw[b.bit i hi];exact m.1);rw[F];have A:=fun j J (u:d[j]? =some J) (D:j≠i) (z:listed.getD j true=false) y=>
     yb f.2 j J (by rw[←u];simp) (by omega) (by rw[SI,←b.bit j (Vl.1 u).1];exact z) y
    have ad:=(oN l).2 (CS f.1);cases hpu:KA P o with
    |true=>
     have ao:Yields P d o v a:=ap (by unfold KA at hpu;split at hpu<;>simp_all);exact rR (S:=fun _=>True) l ad U (fun c a w h=>h.1.elim) _ listed a w (fun j J u D z y=>(A j J u D z y).1)
      (fun _ _ _ _ _ _ _ _ _ _ _=>trivial) L ao.yieldsIf trivial N
    |false=>
     refine rR (S:=fun R=>eC w.heap R.heap) l ad U (fun c a w h=>h.1.elim) _ listed a w (fun j J u D z y=>(A j J u D z y).1)
      (fun j J u D z y w1 w2 h1 h2 _=>h1.trans (h2 fun o2 T=> ?_)) L hy (eC.refl _) N
     rw[u] at T;cases T;exact(A j J u D z y).2 (by simp[hpu])
  ·rcases h with h|⟨_,_,_,h⟩<;>cases h
 |alt i r G ar O=>
  have B: ∀(W:hY) (done:Nat) (q:List Nat) (listed:Array Bool) (t:Tm) (a:Act) (w:World),schOk P d (.alt i r G) done q=true→FV d done listed→ob n t a→Fr w0 w→
   zD P n d.toList (.alt i r G) W (V .normal) t w.heap→ ∀j∈Region.ready .any d listed,j∉q→
    zE ρ P d (vd n w0 V) j (fun a' R=>(vD P d j→eC w.heap R.heap)∧(∀o,d[j]? =some o→quiet P o=false→lJ (qs o W) R.heap)∧rP ρ P d (vd n w0 V) W (pD listed-1) (listed.setIfInBounds j true) a' R) a w:=by
   intro W done q listed t a w g b C K H j u X;simp only[schOk,U9] at g;obtain⟨⟨m,ab⟩,p⟩:=g;simp only[zD,mJ] at H;unfold ya at m;rw[mJ] at m;cases E:d.toList[i]? with
   |none=>simp[E] at m
   |some o=>
    simp only[E] at H m;have l:d[i]? =some o:=by rw[←E];simp
    have hi:i<d.size:=(Vl.1 l).1;simp only[U9,Wh] at m;have an:RD P n d.toList o (AW P o W (zD P n d.toList r W (V .normal))) t w.heap:=by
     cases G<;>first|exact H|exact H.1
    by_cases Y:j=i
    ·subst Y;refine wpOpIn_mono (fun a' R h=> ?_) (Ot l (kj hp l) C an);obtain⟨Z,t',I,aj,H'⟩:=h;have:=ar.1 W _ _ t' a' R ab (b.set j) I (K.trans aj) (ve H').2;have F:=rT (listed:=listed) (i:=j) (by rw[b.size];exact hi) (by rw[b.bit j hi];exact m.1);rw[F];exact⟨fun hq=>Z ((oN l).1 hq),fun o2 T hq=>(by rw[l] at T;cases T;exact(ve H').1 hq),this⟩
    ·cases hrest:G with
     |done=>subst hrest;simp[schOk] at p
     |one i2 r2=>subst hrest;simp[schOk] at p
     |early i2 r2=>subst hrest;simp[schOk] at p
     |stop=>
      subst hrest;exact O.2 W done (i::q) listed t a w p b C K (.inl rfl) trivial j u (by simp[Y,X])
     |alt i2 r2 aw=>
      subst hrest;exact O.2 W done (i::q) listed t a w p b C K (.inr ⟨_,_,_,rfl⟩) H.2 j u (by simp[Y,X])
  refine⟨fun W done listed t a w g b C K H=> ?_,fun W done q listed t a w g b C K _ H=>B W done q listed t a w g b C K H⟩;have hB:=B W done [] listed t a w g b C K H;have m:i∈Region.ready .any d listed:=by
   simp only[schOk,U9] at g;have m:=g.1.1;unfold ya at m;rw[mJ] at m;cases E:d.toList[i]? with
   |none=>simp[E] at m
   |some o=>
    simp only[E,U9,Wh] at m;exact(gF b Q i).2 ⟨o,by rw[←E];simp,m.1,m.2⟩
  have hi:i<listed.size:=by
   obtain⟨o,E,_⟩:=(gF b Q i).1 m;rw[b.size];exact(Vl.1 E).1
  have F:=rT (listed:=listed) (i:=i) hi (mem_ready.1 m).1;cases hc:pD listed with
  |zero=>omega
  |succ k=>
   rw[hc] at hB;exact⟨fun M=>(by rw[M] at m;cases m),fun j u=>hB j u (by simp)⟩
theorem MQ (a:Array Oper):FV a 0 (Array.replicate a.size false):=⟨by simp,fun i hi=>by simp[hi,has]⟩
theorem I3 (a:Array Oper):pD (Array.replicate a.size false)=a.size:=by simp[pD]
theorem zF {ρ:Option Nat} {P:Program} {n:Nat} {id:Nat} {b:Array Oper} {e:Exit→Tm→af→Prop} (f:P.follows .mixedOrders=true) (g:ki b.toList=true) {s:N3}
 (c:schOk P b s 0 []=true) {t:Tm} {a:Act} {w:World} (d:ob n t a) (H:zD P n b.toList s [] (e .normal) t w.heap):
 (Code.region id b true).wpIn (Fl ρ) 0 P (vd n w e) a w:=by
 refine wpIn_region_any f (EA (W:=[]) _ _ _ _ ?_);have:=(MP (ρ:=ρ) (w0:=w) g s).1 [] 0 (Array.replicate b.size false) t a {w with drawn:=w.drawn+1} c (MQ b) d ⟨rfl,rfl,rfl⟩ H;rw[I3] at this;exact this
theorem MR {ρ:Option Nat} {P:Program} {n:Nat} {b:Array Oper} {g:Exit→Tm→af→Prop} {w0:World} (s:ki b.toList=true): ∀(l:List Oper) (k:Nat),(∀j,l[j]? =b[k+j]?)→ ∀(t:Tm) (a:Act) (w:World),
 ob n t a→Fr w0 w→Qs P n b.toList l (g .normal) t w.heap→wpOpsIn (Fl ρ) 0 P b (vd n w0 g) (List.range' k l.length) a w:=by
 intro l
 induction l with
 |nil=>intro k _ t a w c e H;exact⟨trivial,t,c,e,H⟩
 |cons o r u=>
  intro k i t a w c e H;have m:b[k]? =some o:=by have:=i 0;simpa using this.symm
  rw[UY,List.range'_succ,wpOpsIn_cons];refine wpOpIn_mono (fun q x h=> ?_) (Ot m (kj s m) c H);obtain⟨_,v,d,f,p⟩:=h;exact u (k+1) (fun j=>by have:=i (j+1);simpa[Nat.add_assoc,Nat.add_comm 1] using this) v q x d (e.trans f) p
theorem HS {ρ:Option Nat} {P:Program} {n:Nat} {id:Nat} {b:Array Oper} {d:Exit→Tm→af→Prop} (e:ki b.toList=true)
 {t:Tm} {a:Act} {w:World} (c:ob n t a) (H:Qs P n b.toList b.toList (d .normal) t w.heap):
 (Code.region id b false).wpIn (Fl ρ) 0 P (vd n w d) a w:=by
 refine wpIn_region ?_;have:=MR (ρ:=ρ) (w0:=w) e b.toList 0 (fun j=>by simp) t a w c (Fr.refl w) H;rw[WC,←List.range_eq_range'] at this;exact this
end
section
inductive Sc where
 |int (k:IntKind)
 |bool|str|ptr|adr|slice|map|any
def Sc.T:Sc→Type
 | .int _=>Int
 | .bool=>Bool
 | .str=>ByteArray
 | .ptr=>Option Addr
 | .adr=>Addr
 | .slice=>Option Addr×Nat×Nat
 | .map=>Option Nat
 | .any=>Value
def Sc.mk:(s:Sc)→s.T→Value
 | .int k,n=> .int k n
 | .bool,b=> .bool b
 | .str,s=> .string s
 | .ptr,p=> .pointer p
 | .adr,a=> .pointer (some a)
 | .slice,x=> .slice x.1 x.2.1 x.2.2
 | .map,r=> .map r
 | .any,v=>v
def Sc.rd:(s:Sc)→Value→(s.T→Prop)→Prop
 | .int k,v,K=>match v with| .int d n=>if k=d then K n else False|_=>False
 | .bool,v,K=>match v with| .bool b=>K b|_=>False
 | .str,v,K=>match v with| .string s=>K s|_=>False
 | .ptr,v,K=>match v with| .pointer p=>K p|_=>False
 | .adr,v,K=>match v with| .pointer (some a)=>K a|_=>False
 | .slice,v,K=>match v with| .slice a l c=>K (a,l,c)|_=>False
 | .map,v,K=>match v with| .map r=>K r|_=>False
 | .any,v,K=>K v
theorem Sc.rd_mk: ∀(s:Sc) (v:Value) (K:s.T→Prop),s.rd v K→ ∃x,s.mk x=v∧K x:=by
 intro s v K h;cases s<;>simp only[Sc.rd] at h
 case any=>exact⟨v,rfl,h⟩
 case int k=>
  split at h
  ·split at h
   ·rename_i a;subst a;exact⟨_,rfl,h⟩
   ·exact h.elim
  ·exact h.elim
 all_goals
  split at h
  ·exact⟨_,rfl,h⟩
  ·exact h.elim
def TS:List Sc→Type
 |[]=>Unit
 |s::r=>s.T×TS r
def aL:(l:List Sc)→TS l→List Value
 |[],_=>[]
 |s::r,x=>s.mk x.1::aL r x.2
def SW:(l:List Sc)→List Value→(TS l→Prop)→Prop
 |[],[],K=>K ()
 |s::r,v::vs,K=>s.rd v fun x=>SW r vs fun xs=>K (x,xs)
 |_,_,_=>False
theorem HT: ∀(l:List Sc) (a:List Value) (K:TS l→Prop),SW l a K→ ∃x,aL l x=a∧K x
 |[],[],K,h=>⟨(),rfl,h⟩
 |[],_::_,_,h=>h.elim
 |_::_,[],_,h=>h.elim
 |s::r,v::a,K,h=>by
  obtain⟨x,c,h⟩:=s.rd_mk v _ h;obtain⟨xs,b,h⟩:=HT r a _ h;exact⟨(x,xs),by simp only[aL,c,b],h⟩
inductive Ls where
 |sc (s:Sc)
 |ag (l:List Sc)
 |fn (f:Nat) (l m:List Sc)
def Ls.T:Ls→Type
 | .sc s=>s.T
 | .ag l=>TS l
 | .fn _ l m=>TS l×TS m
def Ls.mk:(s:Ls)→s.T→Value
 | .sc s,x=>s.mk x
 | .ag l,x=> .agg (aL l x).toArray
 | .fn f l m,x=> .func (.func f) (aL l x.1).toArray (aL m x.2).toArray
def Ls.rd:(s:Ls)→Value→(s.T→Prop)→Prop
 | .sc s,v,K=>s.rd v K
 | .ag l,v,K=>match v with| .agg c=>SW l c.toList K|_=>False
 | .fn f l m,v,K=>match v with
   | .func (.func g) a b=>match Nat.beq g f with
     |true=>SW l a.toList fun x=>SW m b.toList fun y=>K (x,y)
     |false=>False
   |_=>False
theorem Ls.rd_mk (s:Ls) (v:Value) (K:s.T→Prop) (h:s.rd v K): ∃x,s.mk x=v∧K x:=by
 cases s with
 |sc s=>exact s.rd_mk v K h
 |ag l=>
  simp only[Ls.rd] at h;split at h
  ·obtain⟨x,c,h⟩:=HT l _ K h;exact⟨x,by simp only[Ls.mk,c],h⟩
  ·exact h.elim
 |fn f l m=>
  simp only[Ls.rd] at h;split at h
  ·split at h
   ·rename_i g a b d;obtain⟨x,c,h⟩:=HT l _ _ h;obtain⟨y,e,h⟩:=HT m _ _ h;exact⟨(x,y),by simp only[Ls.mk,c,e,V5 d],h⟩
   ·exact h.elim
  ·exact h.elim
abbrev yc:=List (Nat×Ls)
def TL:yc→Type
 |[]=>Unit
 |x::r=>x.2.T×TL r
def zG:(l:yc)→TL l→Tm
 |[],_=>fun _=> .bot
 |x::r,s=>upd (zG r s.2) x.1 (.val (x.2.mk s.1))
def TA (t:Tm) (i:Nat) (K:Value→Prop):Prop:=
 match t i with
 | .bot=>False
 | .mark _=>False
 | .known b=>K (.bool b)
 | .val v=>K v
def RZ:(l:yc)→Tm→(TL l→Prop)→Prop
 |[],_,K=>K ()
 |x::r,t,K=>TA t x.1 fun v=>x.2.rd v fun y=>RZ r t fun a=>K (y,a)
theorem CZ: ∀(l:yc) (t:Tm) (K:TL l→Prop),RZ l t K→ ∃s,K s∧ ∀i,zG l s i= .bot∨((zG l s i).v=(t i).v∧t i≠ .bot)
 |[],t,K,h=>⟨(),h,fun i=> .inl rfl⟩
 |x::r,t,K,h=>by
  simp only[RZ,TA] at h;have key: ∀v,t x.1≠ .bot→(t x.1).v=v→(x.2.rd v fun y=>RZ r t fun d=>K (y,d))→ ∃s,K s∧ ∀i,zG (x::r) s i= .bot∨((zG (x::r) s i).v=(t i).v∧t i≠ .bot):=by
   intro v a f h;obtain⟨y,g,h⟩:=x.2.rd_mk v _ h;obtain⟨d,e,c⟩:=CZ r t _ h;refine⟨(y,d),e,fun i=> ?_⟩;simp only[zG];by_cases hi:i=x.1
   ·right;rw[hi,nH];exact⟨by rw[f];exact g,a⟩
   ·rw[xY _ _ hi];exact c i
  split at h
  ·exact h.elim
  ·exact h.elim
  ·rename_i b a;exact key _ (by rw[a];simp) (by rw[a];rfl) h
  ·rename_i v a;exact key _ (by rw[a];simp) (by rw[a];rfl) h
theorem L4: ∀(l:yc) (s:TL l) (i:Nat),(zG l s i).ds=[]
 |[],_,_=>rfl
 |x::r,s,i=>by
  simp only[zG];by_cases h:i=x.1
  ·rw[h,nH];rfl
  ·rw[xY _ _ h];exact L4 r s.2 i
def MS (n:Nat) (t:Tm) (K:Prop):Prop:=
 match t n with
 | .mark _=>False
 |_=>K
theorem vG {n:Nat} {t:Tm} {K:Prop} (h:MS n t K):(t n).ds=[]∧K:=by
 unfold MS at h;split at h
 ·exact h.elim
 ·rename_i a;refine⟨?_,h⟩;cases e:t n with
  |mark ds=>exact absurd e (a ds)
  |_=>rfl
theorem ob.emb {n:Nat} {t:Tm} {a:Act} (r:ob n t a) (d:(t n).ds=[]) {l:yc} {s:TL l} (h: ∀i,zG l s i= .bot∨((zG l s i).v=(t i).v∧t i≠ .bot)):ob n (zG l s) a:=by
 refine⟨r.size,fun i=> ?_,by rw[L4,r.dfs,d]⟩;rcases h i with h|⟨h,c⟩
 ·exact .inl h
 ·right;rcases r.at_ i with b|b
  ·exact absurd b c
  ·rw[h,b]
def gj {α:Type} (d:α):List (Nat×α)→Nat→α
 |[],_=>d
 |x::r,i=>match Nat.beq x.1 i with|true=>x.2|false=>gj d r i
structure N4 where
 sch:Nat→N3
 lp:Nat→yc
 jn:Nat→Option yc
 rf:Nat→List Ls:=fun _=>[]
def key:Code→Nat
 | .region id _ _=>id
 | .seq a _=>key a
 | .block _ c=>key c
 | .loop c=>key c
 | .scope c=>key c
 |_=>1000000
def MT (N:Tm→af→Prop) (Q:Exit→Tm→af→Prop):Exit→Tm→af→Prop
 | .normal,t,h=>N t h
 |e,t,h=>Q e t h
def SX (id:Nat) (Q:Exit→Tm→af→Prop):Exit→Tm→af→Prop
 | .exit a,t,h=>match Nat.beq a id with|true=>Q .normal t h|false=>Q (.exit a) t h
 |e,t,h=>Q e t h
def TV (Q:Exit→Tm→af→Prop):Exit→Tm→af→Prop
 | .goto _,_,_=>False
 |e,t,h=>Q e t h
def aZ {S:Type} (B:(S→af→Prop)→S→af→Prop) (s:S) (h:af):Prop:=
 ∃a:Nat→S→af→Prop,(∃n,a n s h)∧ ∀n s h,a n s h→B (fun c b=> ∃m,m<n∧a m c b) s h
def Qd:List Ls→Type
 |[]=>Unit
 |s::r=>s.T×Qd r
def CT:(L:List Ls)→Qd L→List Value
 |[],_=>[]
 |s::r,x=>s.mk x.1::CT r x.2
def Ox (n:Nat):Tm→List Tmp→(L:List Ls)→Qd L→Tm
 |t,p::ps,s::r,x=>Ox n (put n t (some p) (.val (s.mk x.1))) ps r x.2
 |t,_,_,_=>t
def yd (P:Program) (j:Value) (L:List Ls) (round:Obj→Obj→Nat→Qd L→(af→Prop)→af→Prop) (h:af) (K:Nat→af→Prop):Prop:=
 ∃(g:FuncId) (i:Array Value),j= .func (.func g) #[] i∧ ∀a b c:Obj,mK a=false→mK b=false→mK c=false→
  (∀(y:Qd L) (e:af) (f:Value→af→Prop),e[h.size+1]? =some a→
   round a b (h.size+1) y (fun d=>d[h.size+1]? =some b∧f (.bool true) (d.setIfInBounds (h.size+1) a)) e→yf P (h.size+1) (CT L y).toArray e f)→
  au P g (#[.func (.yield (h.size+1)) #[] #[]]++i) ((h.push (.deferred (some []))).push a) fun _ d=>d[h.size+1]? =some a∧K h.size (d.setIfInBounds (h.size+1) c)
def RE:Exit→Tm→af→Prop:=fun _ _ _=>False
def TB (D:Nat):Deferred:={target:= .collected D,args:= #[]}
def I (P:Program) (n:Nat) (tb:N4):Code→(Exit→Tm→af→Prop)→Tm→af→Prop
 | .skip,Q,t,h=>Q .normal t h
 | .label _,Q,t,h=>Q .normal t h
 | .region id f k,Q,t,h=>match k with
   |false=>Qs P n f.toList f.toList (Q .normal) t h
   |true=>zD P n f.toList (tb.sch id) [] (Q .normal) t h
 | .seq a b,Q,t,h=>match tb.jn (key b) with
   |none=>I P n tb a (MT (I P n tb b Q) Q) t h
   |some L=> ∃J:TL L→af→Prop,(∀s h,J s h→I P n tb b Q (zG L s) h)∧I P n tb a (MT (fun t h=>MS n t (RZ L t fun s=>J s h)) Q) t h
 | .cond c x y,Q,t,h=>match N5 t c with
   | .known true=>I P n tb x Q t h
   | .known false=>I P n tb y Q t h
   | .val (.bool b)=>
     (b=true→I P n tb x Q (match c with| .tmp i=>upd t i (.known true)|_=>t) h)∧
     (b=false→I P n tb y Q (match c with| .tmp i=>upd t i (.known false)|_=>t) h)
   |_=>False
 | .block id c,Q,t,h=>I P n tb c (SX id Q) t h
 | .loop d,Q,t,h=>MS n t (RZ (tb.lp (key d)) t fun s=>
  aZ (fun K s h=>I P n tb d (MT (fun m o=>MS n m (RZ (tb.lp (key d)) m fun z=>K z o)) Q) (zG (tb.lp (key d)) s) h) s h)
 | .exit id,Q,t,h=>Q (.exit id) t h
 | .scope c,Q,t,h=>I P n tb c (TV Q) t h
 | .ret,Q,t,h=>Q .ret t h
 | .rangeFunc g r e d,Q,t,h=>MS n t (match N5 t g with
   | .val u=>match Nat.beq (tb.rf (key d)).length r.size with
     |true=>yd P u (tb.rf (key d)) (fun p j l y R v=>
      I P n tb e (MT (fun m q=>q[l]? =some p∧I P n tb d (MT (fun _ w=>R w) RE) m (q.setIfInBounds l j)) RE) (Ox n t r.toList (tb.rf (key d)) y) v) h
      fun D o=>Q .normal (upd t n (.mark [TB D])) o
     |false=>False
   |_=>False)
 |_,_,_,_=>False
def rU:Code→Bool
 | .seq a b=>rU a&&rU b
 | .cond _ x y=>rU x&&rU y
 | .block _ c=>rU c
 | .loop c=>rU c
 | .scope c=>rU c
 | .rangeFunc .. =>false
 |_=>true
def iy (P:Program) (tb:N4):Code→Bool
 | .region id e d=>ki e.toList&&(!d||schOk P e (tb.sch id) 0 [])
 | .seq a b=>iy P tb a&&iy P tb b
 | .cond _ x y=>iy P tb x&&iy P tb y
 | .block _ c=>iy P tb c
 | .loop c=>iy P tb c
 | .scope c=>iy P tb c
 | .rangeFunc _ _ a c=>iy P tb a&&iy P tb c&&rU a&&rU c
 |_=>true
theorem vd.mono {n:Nat} {w0 d:World} {c b:Exit→Tm→af→Prop} (i:Fr w0 d) (j: ∀e t h,c e t h→b e t h) (e:Exit) (a:Act) (w:World)
 (h:vd n d c e a w):vd n w0 b e a w:=by
 obtain⟨g,t,r,f,q⟩:=h;exact⟨g,t,r,i.trans f,j _ _ _ q⟩
theorem KC {F:Fence} {m:Nat} {P:Program} {Q:Exit→Act→World→Prop} {a:Act} {w:World} {c:Code} (J:Nat→Act→World→Prop) (b:Nat) (h:J b a w)
 (round: ∀n a w,J n a w→c.wpIn F m P (Exit.then (fun i j=> ∃g,g<n∧J g i j) Q) a w):(Code.loop c).wpIn F m P Q a w:=by
 refine wpIn_loop (fun a w=> ∃n,J n a w) (fun a w=>leastOf (fun n=>J n a w)) ⟨b,h⟩ ?_;intro a w o;refine wpIn_mono (round _ a w (leastOf_spec o).1) ?_;intro e i j f;cases e with
 |normal=>
  obtain⟨g,k,d⟩:=f;exact show(∃n,J n i j)∧leastOf (fun n=>J n i j)<leastOf (fun n=>J n a w) from⟨⟨g,d⟩,Nat.lt_of_le_of_lt ((leastOf_spec ⟨g,d⟩).2 g d) k⟩
 |exit id=>exact f
 |goto l=>exact f
 |ret=>exact f
 |panic p=>exact f
 |outgrown=>exact f
theorem i3 {P:Program} {b:Frame} {a:Act} {k:List Item} {cs:List Frame} {w:World} {c:Code}:step P (lone (b.atR a (.code (.scope c)::k)) cs w)= .next (lone (b.atR a (.code c:: .inScope c::k)) cs w):=
 step_lone_go (by simp[stepG,stepG.exec,Frame.atR])
theorem EB {P:Program} {b:Frame} {a:Act} {k:List Item} {cs:List Frame} {w:World} {c:Code}:step P (lone (b.atR a (.inScope c::k)) cs w)= .next (lone (b.atR a k) cs w):=
 step_lone_go (by simp[stepG,stepG.exec,Frame.atR])
theorem wu {F:Fence} {t:Nat} {P:Program} {Q:Exit→Act→World→Prop} {a:Act} {w:World} {c:Code} (h:c.wpIn F t P (Exit.noGoto Q) a w):(Code.scope c).wpIn F t P Q a w:=by
 intro b k r q m o;have h0:(lone (b.atR a (.code (.scope c)::k)) r w).fenced P F:=fenced_calm m o rfl;obtain⟨e,f,g,i,d⟩:=h b (.inScope c::k) r q m o;cases e with
 |normal=>exact⟨.normal,f,g,i,.head h0 i3 (StepsIn.trans d (.one (fenced_calm m o rfl) EB))⟩
 |exit id=>
  have s:exitTo id (.inScope c::k)=exitTo id k:=by simp[exitTo]
  exact⟨.exit id,f,g,i,fun x n=> .head h0 i3 (d.1 x (by rw[s];exact n)),
   fun p n=>let ⟨j,u,v⟩:=d.2 p (by rw[s];exact n);⟨j,u,.head h0 i3 v⟩⟩
 |goto l=>exact i.elim
 |ret=>exact⟨_,f,g,i,.of_steps (.one h0 i3) d⟩
 |panic y=>exact⟨_,f,g,i,.of_steps (.one h0 i3) d⟩
 |outgrown=>exact⟨_,f,g,i,.of_steps (.one h0 i3) d⟩
theorem GR {n:Nat}: ∀(b:List Tmp) (L:List Ls) (y:Qd L) (t:Tm) (a:Array Value) (ds:List Deferred),ob n t ⟨a,ds⟩→L.length=b.length→
 ob n (Ox n t b L y) ⟨(b.zip (CT L y)).foldl (fun a x=>a.setIfInBounds x.1 x.2) a,ds⟩
 |[],[],_,t,a,ds,r,_=>r
 |p::b,s::L,y,t,a,ds,r,h=>by
  have c:=r.put (some p) (.val (s.mk y.1)) (v:=s.mk y.1) rfl;exact GR b L y.2 _ _ ds c (by simpa using h)
 |[],s::L,_,_,_,_,_,h=>by simp at h
 |p::b,[],_,_,_,_,_,h=>by simp at h
theorem BW: ∀(L:List Ls) (y:Qd L),(CT L y).length=L.length
 |[],_=>rfl
 |s::L,y=>by simp[CT,BW L y.2]
theorem ob.marked {n:Nat} {t:Tm} {a:Act} (r:ob n t a) (ds:List Deferred):ob n (upd t n (.mark ds)) {a with defers:=ds}:=by
 refine⟨r.size,fun i=> ?_,by rw[nH];rfl⟩;by_cases h:i=n
 ·subst h;right;rw[nH];show undef=a.tmps.getD i undef;simp[r.size]
 ·rw[xY _ _ h];exact r.at_ i
def lf (fn:FuncId) (tmps:Array Value) (a:Array Tmp) (assign body:Code) (D:Nat) (st:LoopState):Loop:={state:=st,pending:=none,fn,tmps,params:=a,assign,body,defers:=D}
theorem Qu {P:Program} {n:Nat} {tb:N4} (hm:P.follows .mixedOrders=true): ∀(c:Code),iy P tb c=true→ ∀(ρ:Option Nat),(ρ=none∨rU c=true)→ ∀(p:Exit→Tm→af→Prop) (t:Tm) (a:Act) (w:World),
 ob n t a→I P n tb c p t w.heap→c.wpIn (Fl ρ) 0 P (vd n w p) a w:=by
 intro c
 induction c with
 |skip=>intro _ ρ _ p t a w r H;exact wpIn_skip ⟨trivial,t,r,Fr.refl w,H⟩
 |label l=>intro _ ρ _ p t a w r H;exact wpIn_label ⟨trivial,t,r,Fr.refl w,H⟩
 |goto l=>intro _ ρ _ p t a w r H;exact H.elim
 |refuse br=>intro _ ρ _ p t a w r H;exact H.elim
 |exit id=>intro _ ρ _ p t a w r H;exact wpIn_exit ⟨trivial,t,r,Fr.refl w,H⟩
 |ret=>intro _ ρ _ p t a w r H;exact wpIn_ret ⟨trivial,t,r,Fr.refl w,H⟩
 |region id bq ap=>
  intro d ρ _ p t a w r H;simp only[iy,U9] at d;cases ap with
  |false=>exact HS d.1 r H
  |true=>exact zF hm d.1 (by simpa using d.2) r H
 |rangeFunc g R j k bk bl=>
  intro d ρ o p t a w r H;rcases o with rfl|o
  rotate_left
  ·simp[rU] at o
  simp only[iy,U9] at d;obtain⟨⟨⟨bn,bp⟩,aO⟩,a0⟩:=d;simp only[I] at H;obtain⟨aw,H⟩:=vG H;have a4:a.defers=[]:=by rw[r.dfs,aw]
  split at H
  rotate_left
  ·exact H.elim
  rename_i fv ag;cases C:Nat.beq (tb.rf (key k)).length R.size with
  |false=>simp[C] at H
  |true=>
   simp only[C] at H;have C:=V5 C;generalize tb.rf (key k)=L at H C;obtain⟨gf,lb,rfl,H⟩:=H;have hg:a.eval g= .func (.func gf) #[] lb:=by
    have:=r.ev (x:=g) (by
     cases g with
     |tmp i=>simp only[R4];simp only[N5] at ag;rw[ag]
     |_=>rfl)
    rw[←this,ag];rfl
   refine wpIn_rangeFunc ?_;intro fn _;obtain⟨V,aa⟩: ∃V,(w.alloc (.deferred (some []))).alloc (.loop (lf fn a.tmps R j k w.heap.size .ready))=V:=⟨_,rfl⟩;have a7:V.heap=(w.heap.push (.deferred (some []))).push (.loop (lf fn a.tmps R j k w.heap.size .ready)):=by rw[←aa];rfl
   have ab:Fr w V:=by rw[←aa];exact⟨rfl,rfl,rfl⟩
   have H:=H (.loop (lf fn a.tmps R j k w.heap.size .ready)) (.loop (lf fn a.tmps R j k w.heap.size .busy)) (.loop (lf fn a.tmps R j k w.heap.size .exhausted)) rfl rfl rfl fun y u K1 hl E w1 bg=> ?_
   ·refine⟨w.heap.size+1,[TB w.heap.size],V,{target:= .fn (.func gf) lb,args:= #[.func (.yield (w.heap.size+1)) #[] #[]]},V,gf,
     #[.func (.yield (w.heap.size+1)) #[] #[]]++lb,V,?_,?_,fun _ _=>trivial,?_,(fun h=>by cases h),?_⟩
    ·rw[←aa];exact run_enterLoop_outer _ _ _ _ _
    ·simp only[resolve,Deferred.ofValue,bf,bN];have e1:a.eval (.const (.func (.yield (w.heap.size+1)) #[] #[]))= .func (.yield (w.heap.size+1)) #[] #[]:=rfl;simp only[hg];simp[go_sem,e1]
    ·simp only[invoke];exact H.1 V
    ·refine callsIn_wide (n:=0).2 ((H.2 V a7).mono ?_);rintro e w3 ⟨v,rfl,ad,aj,hk⟩;have ax:=run_endLoop (P:=P) aj (by simp[lf]);refine⟨none,_,ax,?_⟩;have e1:({a with defers:=[TB w.heap.size]++a.defers}:Act)={a with defers:=[TB w.heap.size]}:=by rw[a4];rfl
     rw[e1];exact⟨trivial,_,r.marked _,⟨(ab.trans ad).tape,(ab.trans ad).os,(ab.trans ad).output⟩,hk⟩
   ·subst bg;have hy:=run_yield (P:=P) (args:=(CT L y).toArray) hl (by simp[lf,BW,C]);refine⟨fn,_,j,k,hy,roundIn_of_wpIn trivial ?_⟩;have r0:ob n t ⟨a.tmps,[]⟩:=⟨r.size,r.at_,aw.symm⟩;have r1:=GR R.toList L y t a.tmps [] r0 (by simpa using C);have e1:(R.zip (CT L y).toArray).foldl (fun tmps x=>tmps.setIfInBounds x.1 x.2) a.tmps=(R.toList.zip (CT L y)).foldl (fun tmps x=>tmps.setIfInBounds x.1 x.2) a.tmps:=by
     rw[←Array.foldl_toList,Array.toList_zip]
    have e2:({tmps:=(R.zip (CT L y).toArray).foldl (fun tmps x=>tmps.setIfInBounds x.1 x.2) a.tmps,defers:=[]}:Act)=⟨(R.toList.zip (CT L y)).foldl (fun tmps x=>tmps.setIfInBounds x.1 x.2) a.tmps,[]⟩:=by rw[e1]
    have A:=bk bn (some (w.heap.size+1)) (.inr aO) _ _ _ w1 r1 E;have A:j.wpIn (Fence.wide.inRound (w.heap.size+1)) 0 P _ ⟨(R.toList.zip (CT L y)).foldl (fun tmps x=>tmps.setIfInBounds x.1 x.2) a.tmps,[]⟩ w1:=A;rw[←e2] at A;refine wpIn_mono A fun e Z Y T=> ?_;obtain⟨_,t2,r2,W,q2⟩:=T;cases e with
    |normal=>
     obtain⟨a9,a1⟩:=q2;refine⟨_,run_beginRound a9 rfl,?_⟩;have B:=bl bp (some (w.heap.size+1)) (.inr a0) _ t2 Z (Y.putObj (w.heap.size+1) (.loop (lf fn a.tmps R j k w.heap.size .busy))) r2 a1;have B:k.wpIn (Fence.wide.inRound (w.heap.size+1)) 0 P _ Z (Y.putObj (w.heap.size+1) (.loop (lf fn a.tmps R j k w.heap.size .busy))):=B;refine wpIn_mono B fun e a3 w3 T=> ?_;obtain⟨_,t3,r3,f3,q3⟩:=T;cases e with
     |normal=>
      obtain⟨aj,a8⟩:=q3;refine⟨_,_,run_endRound none aj,_,rfl,?_,?_⟩
      ·have ay:Fr w1 (Y.putObj (w.heap.size+1) (.loop (lf fn a.tmps R j k w.heap.size .busy))):=⟨W.tape,W.os,W.output⟩;have:=ay.trans f3;exact⟨this.tape,this.os,this.output⟩
      ·exact a8
     |exit id=>exact q3.elim
     |goto l=>exact q3.elim
     |ret=>exact q3.elim
     |panic ch=>exact q3.elim
     |outgrown=>exact q3.elim
    |exit id=>exact q2.elim
    |goto l=>exact q2.elim
    |ret=>exact q2.elim
    |panic ch=>exact q2.elim
    |outgrown=>exact q2.elim
 |seq x y Q K=>
  intro d ρ o p t a w r H;simp only[iy,U9] at d;have O:ρ=none∨rU x=true:=o.imp id fun h=>by simp only[rU,U9] at h;exact h.1
  have G:ρ=none∨rU y=true:=o.imp id fun h=>by simp only[rU,U9] at h;exact h.2
  simp only[I] at H
  have ar: ∀N:Tm→af→Prop,(∀t S M,ob n t S→Fr w M→N t M.heap→y.wpIn (Fl ρ) 0 P (vd n w p) S M)→I P n tb x (MT N p) t w.heap→
   (Code.seq x y).wpIn (Fl ρ) 0 P (vd n w p) a w:=by
   intro N hN H;refine wpIn_seq (wpIn_mono (Q d.1 ρ O _ t a w r H) fun e S M T=> ?_);obtain⟨u,F,D,z,q⟩:=T;cases e with
   |normal=>exact hN F S M D z q
   |exit id=>exact⟨u,F,D,z,q⟩
   |goto l=>exact⟨u,F,D,z,q⟩
   |ret=>exact⟨u,F,D,z,q⟩
   |panic ch=>exact u.elim
   |outgrown=>exact u.elim
  split at H
  ·exact ar _ (fun F S M D z q=>wpIn_mono (K d.2 ρ G p F S M D q) fun e Z Y h2=>vd.mono z (fun _ _ _ x=>x) e Z Y h2) H
  ·rename_i L hL;obtain⟨J,hJ,H⟩:=H;refine ar _ (fun F S M D z q=> ?_) H;obtain⟨hn,q⟩:=vG q;obtain⟨s,hs,he⟩:=CZ L F _ q;exact wpIn_mono (K d.2 ρ G p _ S M (D.emb hn he) (hJ s _ hs)) fun e Z Y h2=>vd.mono z (fun _ _ _ x=>x) e Z Y h2
 |cond c x y Q K=>
  intro d ρ o p t a w r H;simp only[iy,U9] at d;have O:ρ=none∨rU x=true:=o.imp id fun h=>by simp only[rU,U9] at h;exact h.1
  have G:ρ=none∨rU y=true:=o.imp id fun h=>by simp only[rU,U9] at h;exact h.2
  simp only[I] at H;have an: ∀v,N5 t c=v→v≠ .bot→(N5 t c).v=a.eval c:=fun v hv X=>r.ev (by
   cases c with
   |tmp i=>simp only[R4];simp only[N5] at hv;cases h:t i<;>simp_all
   |_=>rfl)
  split at H
  ·rename_i U;exact wpIn_cond_true (by rw[←an _ U (by simp),U];rfl) (Q d.1 ρ O p t a w r H)
  ·rename_i U;exact wpIn_cond_false (by rw[←an _ U (by simp),U];rfl) (K d.2 ρ G p t a w r H)
  ·rename_i b U;have a6:a.eval c= .bool b:=by rw[←an _ U (by simp),U];rfl
   refine wpIn_cond_split a6 (fun X=> ?_) (fun X=> ?_)
   ·have:=H.1 X;cases c with
    |tmp i=>subst X;exact Q d.1 ρ O p _ a w (r.known i true U) this
    |const v=>exact Q d.1 ρ O p _ a w r this
    |global g=>exact Q d.1 ρ O p _ a w r this
    |func f=>exact Q d.1 ρ O p _ a w r this
   ·have:=H.2 X;cases c with
    |tmp i=>subst X;exact K d.2 ρ G p _ a w (r.known i false U) this
    |const v=>exact K d.2 ρ G p _ a w r this
    |global g=>exact K d.2 ρ G p _ a w r this
    |func f=>exact K d.2 ρ G p _ a w r this
  ·exact H.elim
 |block id c ih=>
  intro d ρ o p t a w r H;simp only[iy] at d;refine wpIn_block (wpIn_mono (ih d ρ o _ t a w r H) fun e S M T=> ?_);obtain⟨u,F,D,z,q⟩:=T;cases e with
  |exit ao=>
   simp only[Exit.inBlock];simp only[SX] at q;by_cases ai:ao=id
   ·subst ai;simp only[Nat.beq_refl] at q;rw[if_pos rfl];exact⟨trivial,F,D,z,q⟩
   ·have:Nat.beq ao id=false:=by
     cases X:Nat.beq ao id with
     |false=>rfl
     |true=>exact absurd (V5 X) ai
    simp only[this] at q;rw[if_neg ai];exact⟨trivial,F,D,z,q⟩
  |normal=>exact⟨u,F,D,z,q⟩
  |goto l=>exact⟨u,F,D,z,q⟩
  |ret=>exact⟨u,F,D,z,q⟩
  |panic ch=>exact u.elim
  |outgrown=>exact u.elim
 |scope c ih=>
  intro d ρ o p t a w r H;simp only[iy] at d;refine wu (wpIn_mono (ih d ρ o _ t a w r H) fun e S M T=> ?_);obtain⟨u,F,D,z,q⟩:=T;cases e with
  |goto l=>exact q.elim
  |exit id=>exact⟨u,F,D,z,q⟩
  |normal=>exact⟨u,F,D,z,q⟩
  |ret=>exact⟨u,F,D,z,q⟩
  |panic ch=>exact u.elim
  |outgrown=>exact u.elim
 |loop k ih=>
  intro d ρ o p t a w r H;simp only[iy] at d;simp only[I] at H;obtain⟨hn,H⟩:=vG H;obtain⟨s,⟨bm,⟨m,bb⟩,E⟩,he⟩:=CZ _ t _ H;refine KC (fun m S M=> ∃s,bm m s M.heap∧ob n (zG (tb.lp (key k)) s) S∧Fr w M) m ⟨s,bb,r.emb hn he,Fr.refl w⟩ ?_;rintro m S M ⟨s,hs,D,z⟩;refine wpIn_mono (ih d ρ o _ _ S M D (E m s _ hs)) fun e Z Y T=> ?_;obtain⟨u,t2,r2,W,q⟩:=T;cases e with
  |normal=>
   obtain⟨bd,q⟩:=vG q;obtain⟨s2,⟨m2,ba,hi⟩,a5⟩:=CZ _ t2 _ q;exact⟨m2,ba,s2,hi,r2.emb bd a5,z.trans W⟩
  |exit id=>exact⟨u,t2,r2,z.trans W,q⟩
  |goto l=>exact⟨u,t2,r2,z.trans W,q⟩
  |ret=>exact⟨u,t2,r2,z.trans W,q⟩
  |panic ch=>exact u.elim
  |outgrown=>exact u.elim
def KD:List Value→Nat→Tv
 |[],_=> .bot
 |x::_,0=> .val x
 |_::xs,n+1=>KD xs n
def SY (args:List Value):Tm:=fun i=>KD args i
theorem HU: ∀(l:List Value) (i:Nat),KD l i= .bot∨(∃v,l[i]? =some v∧KD l i= .val v)
 |[],_=> .inl rfl
 |x::_,0=> .inr ⟨x,rfl,rfl⟩
 |_::xs,n+1=>by simpa[KD] using HU xs n
def FW (P:Program):List ResultVar→Tm→af→(List Value→Prop)→Prop
 |[],_,_,K=>K []
 | .tmp i::r,t,h,K=>TA t i fun v=>FW P r t h fun b=>K (v::b)
 | .cell a ty::r,t,h,K=>match t a with
   | .val (.pointer (some c))=>EE P ty h c fun v=>FW P r t h fun b=>K (v::b)
   |_=>False
def MU:List Value→Value
 |[v]=>v
 |vs=> .tuple vs.toArray
def EC (P:Program):List Deferred→af→(af→Prop)→Prop
 |[],h,K=>K h
 |d::ds,h,K=>match d.target with
  | .collected r=>h[r]? =some (.deferred (some []))∧EC P ds (h.setIfInBounds r (.deferred none)) K
  |_=>False
def TW (P:Program) (n:Nat) (rs:List ResultVar) (Q:Value→af→Prop):Exit→Tm→af→Prop
 | .normal,t,h=>EC P (t n).ds h fun a=>FW P rs t a fun b=>Q (MU b) a
 | .ret,t,h=>EC P (t n).ds h fun a=>FW P rs t a fun b=>Q (MU b) a
 |_,_,_=>False
def TX (P:Program) (fn:Func) (tb:N4) (args:List Value) (h:af) (Q:Value→af→Prop):Prop:=
 match fn.body,Nat.ble args.length fn.ntmps with
 |some c,true=>I P fn.ntmps tb c (TW P fn.ntmps fn.results.toList Q) (SY args) h
 |_,_=>False
def R0 (P:Program) (fn:Func) (tb:N4):Bool:=
 match fn.body with
 |some c=>iy P tb c
 |none=>false
def HV (a:Act):ResultVar→Sem Value
 | .tmp t=>pure (a.tmps.getD t undef)
 | .cell x b=>do loadVar b (←asAddr (a.tmps.getD x undef))
theorem ED {P:Program} {n:Nat}: ∀{rs:List ResultVar} {t:Tm} {a:Act} {w:World} {K:List Value→Prop},ob n t a→FW P rs t w.heap K→
 ∃c,K c∧(rs.mapM (HV a)).run P w= .ok c w
 |[],t,a,w,K,r,H=>⟨[],H,rfl⟩
 | .tmp i::rs,t,a,w,K,r,H=>by
   simp only[FW,TA] at H;have key: ∀v,t i≠ .bot→(t i).v=v→(FW P rs t w.heap fun c=>K (v::c))→ ∃c,K c∧((ResultVar.tmp i::rs).mapM (HV a)).run P w= .ok c w:=by
    intro v f o h;obtain⟨c,j,k⟩:=ED r h;refine⟨v::c,j,?_⟩;have:a.tmps.getD i undef=v:=by
     rcases r.at_ i with d|d
     ·exact absurd d f
     ·rw[←d,o]
    rw[List.mapM_cons,bf];have e:(HV a (.tmp i)).run P w= .ok v w:=by simp only[HV,this];rfl
    rw[e];simp only;rw[bf,k];rfl
   split at H
   ·exact H.elim
   ·exact H.elim
   ·rename_i b f;exact key _ (by rw[f];simp) (by rw[f];rfl) H
   ·rename_i v f;exact key _ (by rw[f];simp) (by rw[f];rfl) H
 | .cell x ty::rs,t,a,w,K,r,H=>by
   simp only[FW] at H;split at H
   ·rename_i g l;obtain⟨v,h,m⟩:=GV H;obtain⟨c,j,k⟩:=ED r h;refine⟨v::c,j,?_⟩;have:a.tmps.getD x undef= .pointer (some g):=by
     rcases r.at_ x with d|d
     ·rw[l] at d;cases d
     ·rw[←d,l];rfl
    rw[List.mapM_cons,bf];have e:(HV a (.cell x ty)).run P w= .ok v w:=by
     simp only[HV,this,bf];have:(asAddr (.pointer (some g))).run P w= .ok g w:=rfl;rw[this];exact m w (eC.refl _)
    rw[e];simp only;rw[bf,k];rfl
   ·exact H.elim
theorem KE {P:Program} {n:Nat} {fn:Func} {t:Tm} {a:Act} {w:World} {Q:Value→af→Prop} (r:ob n t a)
 (H:FW P fn.results.toList t w.heap fun b=>Q (MU b) w.heap): ∃v,(results fn a.tmps).run P w= .ok v w∧Q v w.heap:=by
 obtain⟨b,f,g⟩:=ED r H;refine⟨MU b,?_,f⟩;have d:(fun x:ResultVar=>match x with| .tmp t=>pure (a.tmps.getD t undef)| .cell x ty=>do loadVar ty (←asAddr (a.tmps.getD x undef)):ResultVar→Sem Value)=HV a:=by
  funext x;cases x<;>rfl
 have e:(fn.results.mapM (HV a)).run P w= .ok b.toArray w:=by
  rw[Array.mapM_eq_mapM_toList,map_eq_pure_bind,bf,g];rfl
 have c:results fn a.tmps=(do let b←fn.results.mapM (HV a);pure (if h:b.size=1 then b[0] else .tuple b)):=by
  rw[←d];rfl
 rw[c,bf,e];simp only;rw[bN];congr 1
 match b with
 |[]=>rfl
 |[v]=>rfl
 |v::u::r=>simp[MU]
theorem Oy {P:Program} {f:FuncId} {fn:Func} {tb:N4} {args:List Value} {h:af} {Q:Value→af→Prop}
 (A:P.follows .mixedOrders=true) (z:P.funcs[f]? =some fn) (y: ∀args w,(callFunc f args).run P w= .ok (.enter f args) w)
 (s:R0 P fn tb=true) (H:TX P fn tb args h Q):au P f args.toArray h Q:=by
 refine⟨y _,fun w E=> ?_⟩;subst E;unfold TX at H;unfold R0 at s;cases hb:fn.body with
 |none=>simp[hb] at H
 |some c=>
  cases j:Nat.ble args.length fn.ntmps with
  |false=>simp[hb,j] at H
  |true=>
   simp only[hb,j] at H s;have j:=jb j;have u:ob fn.ntmps (SY args) {tmps:=args.toArray++Array.replicate (fn.ntmps-args.toArray.size) undef,defers:=[]}:=by
    refine⟨by simp;omega,fun i=> ?_,?_⟩
    ·rcases HU args i with h|⟨v,m,t⟩
     ·exact .inl h
     ·right;have hi:i<args.length:=(Pt.1 m).1;show(KD args i).v=_;rw[t];simp[Array.getElem?_append,hi,m,Tv.v];exact(Pt.1 m).2.symm
    ·show []=(KD args fn.ntmps).ds;rcases HU args fn.ntmps with h|⟨v,_,t⟩
     ·rw[h];rfl
     ·rw[t];rfl
   have b: ∀(ds:List Deferred) (p:Tm) (g:Act) (a:World),ob fn.ntmps p g→Fr w a→EC P ds a.heap (fun x=>FW P fn.results.toList p x fun G=>Q (MU G) x)→
    LeavesInM Fence.wide 0 P fn g.tmps (fun e a=> ∃v,e= .returned v∧Fr w a∧Q v a.heap) ds .returning a:=by
    intro ds
    induction ds with
    |nil=>
     intro p g a o k q;obtain⟨v,D,C⟩:=KE o q;exact⟨v,D,v,rfl,k,C⟩
    |cons d ds F=>
     intro p g a o k q;unfold EC at q;cases hd:d.target with
     |collected r=>
      rw[hd] at q;obtain⟨m,t⟩:=q;exact⟨by simp,.inl ⟨r,_,hd,run_takeDeferred m,F p g (a.putObj r (.deferred none)) o ⟨k.tape,k.os,k.output⟩ t⟩⟩
     |_=>rw[hd] at q;exact q.elim
   refine callsIn_wide (n:=0).1 (callsIn_of_wp_marks z hb trivial (wpIn_mono (Qu A c s none (.inl rfl) _ _ _ w u H) fun e g a B=> ?_));obtain⟨m,p,o,k,q⟩:=B;cases e with
   |normal=>show LeavesInM _ _ _ _ _ _ g.defers _ _;rw[o.dfs];exact b _ p g a o k q
   |ret=>show LeavesInM _ _ _ _ _ _ g.defers _ _;rw[o.dfs];exact b _ p g a o k q
   |exit id=>exact q.elim
   |goto l=>exact q.elim
   |panic I=>exact m.elim
   |outgrown=>exact m.elim
end
end Go.Sh

