/- ShCode ShReg ShI, in one text. -/
import Derived.Test.YtdhpmegbmjoekaaGreatDoorShSound2
import Derived.Deep.LoopGhost
import Derived.RangeFuncLeaves
section
set_option linter.unusedVariables false
namespace Go.Sh
set_option linter.unusedSimpArgs false
def Ep:List Oper→Nat→Option Oper
 |[],_=>none
 |x::_,0=>some x
 |_::xs,n+1=>Ep xs n
theorem mA: ∀(l:List Oper) (i:Nat),Ep l i=l[i]?
 |[],_=>rfl
 |_::_,0=>rfl
 |_::xs,n+1=>by simpa[Ep] using mA xs n
def Ms (P:Program) (n:Nat) (o:Oper) (K:Tm→ae→Prop) (t:Tm) (h:ae):Prop:=
 match Gd t o.op.operands.toList with
 |true=>Ht P o (Md t) h fun x h'=>K (put n t o.dst x) h'
 |false=>False
def Mu (b want:Bool) (A B:Prop):Prop:=
 match b,want with
 |true,true=>A
 |false,false=>A
 |true,false=>B
 |false,true=>B
def Ra (ops:List Oper) (o:Oper) (t:Tm) (R S:Tm→Prop):Prop:=
 match o.guard with
 |none=>R t
 |some (j,want)=>
  match Ep ops j with
  |some oj=>
   match oj.dst with
   |some d=>
    match t d with
    | .known b=>Mu b want (R t) (S t)
    | .val (.bool b)=>
      (b=true→Mu true want (R (upd t d (.known true))) (S (upd t d (.known true))))∧
      (b=false→Mu false want (R (upd t d (.known false))) (S (upd t d (.known false))))
    | .val (.tuple _)=>S t
    |_=>False
   |none=>False
  |none=>False
def Pu (P:Program) (n:Nat) (ops:List Oper) (o:Oper) (K:Tm→ae→Prop) (t:Tm) (h:ae):Prop:=
 Ra ops o t (fun t'=>Ms P n o K t' h) (fun t'=>K (put n t' o.dst (.val undef)) h)
def Oq (P:Program) (n:Nat) (ops:List Oper):List Oper→(Tm→ae→Prop)→Tm→ae→Prop
 |[],K,t,h=>K t h
 |o::r,K,t,h=>Pu P n ops o (Oq P n ops r K) t h
inductive Mv where
 |done
 |stop
 |one (i:Nat) (r:Mv)
 |early (i:Nat) (r:Mv)
 |alt (i:Nat) (r rest:Mv)
abbrev gT:=List (Nat×Addr×Value)
def df (k:Nat) (a:Addr):List Value→Nat→gT
 |[],_=>[]
 |v::r,i=>(k,a.add i,v)::df k a r (i+1)
def ze (P:Program) (t:TypeId) (k:Nat) (a:Addr) (v:Value):gT:=
 match xN P t with
 |some (.agg _)=>match v with
  | .agg cs=>df k a cs.toList 0
  |v=>[(k,a,v)]
 |_=>[(k,a,v)]
def gC:gT→ae→Prop→Prop
 |[],_,K=>K
 |x::r,h,K=>aD h x.2.1=some x.2.2∧gC r h K
def waitsFor (o:Oper) (i:Nat):Bool:=o.after.toList.any fun e=>Region.binds .any e&&e.on==i
def pG (o:Oper):gT→gT
 |[]=>[]
 |x::r=>match waitsFor o x.1 with|true=>pG o r|false=>x::pG o r
def quiet (P:Program) (o:Oper):Bool:=
 match Ho P o.op with
 | .loud=>false
 |_=>true
def zf (P:Program) (o:Oper) (W:gT) (K:Tm→ae→Prop) (t:Tm) (h:ae):Prop:=
 match quiet P o with
 |true=>K t h
 |false=>gC (pG o W) h (K t h)
def QF (P:Program) (n:Nat) (k:Nat) (o:Oper) (K:gT→Tm→ae→Prop) (t:Tm) (h:ae):Prop:=
 match Gd t o.op.operands.toList with
 |true=>
  match o.op with
  | .load ty a=>match(Md t a).v with
    | .pointer (some ad)=>CX P ty h ad fun v=>K (ze P ty k ad v) (put n t o.dst (.val v)) h
    |_=>False
  |_=>False
 |false=>False
def R4 (P:Program) (n:Nat) (k:Nat) (ops:List Oper) (o:Oper) (K:gT→Tm→ae→Prop) (t:Tm) (h:ae):Prop:=
 Ra ops o t (fun t'=>QF P n k o K t' h) (fun t'=>K [] (put n t' o.dst (.val undef)) h)
def xI (P:Program) (n:Nat) (ops:List Oper):Mv→gT→(Tm→ae→Prop)→Tm→ae→Prop
 | .done,_,K,t,h=>K t h
 | .stop,_,_,_,_=>True
 | .one i r,W,K,t,h=>match Ep ops i with
   |some o=>Pu P n ops o (zf P o W (xI P n ops r W K)) t h
   |none=>False
 | .early i r,W,K,t,h=>match Ep ops i with
   |some o=>R4 P n i ops o (fun W'=>xI P n ops r (W'++W) K) t h
   |none=>False
 | .alt i r rest,W,K,t,h=>match Ep ops i with
   |some o=>match rest with
    | .stop=>Pu P n ops o (zf P o W (xI P n ops r W K)) t h
    |rest=>Pu P n ops o (zf P o W (xI P n ops r W K)) t h∧xI P n ops rest W K t h
   |none=>False
structure nJ (n:Nat) (t:Tm) (a:Act):Prop where
 size:a.tmps.size=n
 at_: ∀i,t i= .bot∨(t i).v=a.tmps.getD i undef
 dfs:a.defers=(t n).ds
abbrev Fl (ρ:Option Nat):Fence:={Fence.wide with round:=ρ}
abbrev xJ (ρ:Option Nat) (P:Program) (ops:Array Oper) (Q:Exit→Act→World→Prop) (i:Nat) (K:Act→World→Prop) (a:Act) (w:World):Prop:=wpOpIn (Fl ρ) 0 P ops Q i K a w
theorem nj (t:Tm) (d:Nat) (x:Tv):upd t d x d=x:=by simp[upd]
theorem vU (t:Tm) {d i:Nat} (x:Tv) (h:i≠d):upd t d x i=t i:=by
 unfold upd
 cases hb:Nat.beq i d with
 |true=>exact absurd (Nat.eq_of_beq_eq_true hb) h
 |false=>rfl
theorem nJ.put {n:Nat} {t:Tm} {a:Act} (r:nJ n t a) (dst:Option Tmp) (x:Tv) {v:Value} (hx:x.v=v):nJ n (put n t dst x) (a.put dst v):=by
 cases dst with
 |none=>exact r
 |some d=>
  simp only[Sh.put,Act.put]
  cases hb:Nat.blt d n with
  |true=>
   have hlt:d<a.tmps.size:=by rw[r.size];exact Nat.le_of_ble_eq_true hb
   refine⟨by simp[r.size],fun i=> ?_,by show a.defers=(upd t d x n).ds;rw[vU t x (show n≠d from fun e=>absurd (show d<n from Nat.le_of_ble_eq_true hb) (by rw[e];exact Nat.lt_irrefl _))];exact r.dfs⟩
   by_cases hi:i=d
   ·subst hi;right;show(upd t i x i).v=_;rw[nj];simp[hlt,hx]
   ·show upd t d x i= .bot∨(upd t d x i).v=_
    rw[vU t x hi]
    rcases r.at_ i with h|h
    ·exact .inl h
    ·right;rw[h];simp[Array.getElem?_setIfInBounds_ne (Ne.symm hi)]
  |false=>
   have hge:a.tmps.size≤d:=by
    rw[r.size]
    rcases Nat.lt_or_ge d n with h|h
    ·have:Nat.blt d n=true:=Nat.ble_eq_true_of_le h
     rw[hb] at this;cases this
    ·exact h
   have:a.tmps.setIfInBounds d v=a.tmps:=by
    apply Array.ext (by simp)
    intro i h1 h2
    rw[Array.getElem_setIfInBounds_ne];omega
   rw[this];exact r
theorem nJ.known {n:Nat} {t:Tm} {a:Act} (r:nJ n t a) (d:Nat) (b:Bool) (h:t d= .val (.bool b)):nJ n (upd t d (.known b)) a:=by
 refine⟨r.size,fun i=> ?_,?_⟩
 ·by_cases hi:i=d
  ·subst hi;right;rw[nj]
   rcases r.at_ i with h'|h'
   ·rw[h] at h';cases h'
   ·rw[←h',h];rfl
  ·rw[vU t _ hi];exact r.at_ i
 ·by_cases hn:n=d
  ·subst hn;rw[nj,r.dfs,h];rfl
  ·rw[vU t _ hn];exact r.dfs
theorem nJ.ev {n:Nat} {t:Tm} {a:Act} (r:nJ n t a) {x:Operand} (h:PQ t x=true):(Md t x).v=a.eval x:=by
 cases x with
 |tmp i=>
  rcases r.at_ i with h'|h'
  ·simp[PQ,h'] at h
  ·exact h'
 |const v=>cases v<;>rfl
 |global g=>rfl
 |func f=>rfl
theorem He {t:Tm}: ∀{l:List Operand},Gd t l=true→ ∀x∈l,PQ t x=true
 |[],_,x,hx=>by cases hx
 |y::r,h,x,hx=>by
  simp only[Gd] at h
  cases hy:PQ t y with
  |false=>simp[hy] at h
  |true=>
   simp only[hy] at h
   cases hx with
   |head=>exact hy
   |tail _ hm=>exact He h x hm
def rM:Op→Bool
 | .select .. =>false
 | .defer .. =>false
 |_=>true
theorem nJ.exec {n:Nat} {t:Tm} {a:Act} (r:nJ n t a) {o:Oper} (hs:rM o.op=true) (h:Gd t o.op.operands.toList=true):
 execOp (fun x=>(Md t x).v) o=execOp a.eval o:=
 execOp_congr o (fun cs b e=>by rw[e] at hs;cases hs) fun x hx=>r.ev (He h x (Array.mem_toList_iff.2 hx))
theorem IK {n:Nat} {t:Tm} {a:Act} (r:nJ n t a) {ops:Array Oper} {j d:Nat} {oj:Oper} (hj:ops[j]? =some oj) (hd:oj.dst=some d):
 (∀b,(t d).v= .bool b→t d≠ .bot→yielded ops a.tmps j=some b)∧(∀vs,(t d).v= .tuple vs→t d≠ .bot→yielded ops a.tmps j=none):=by
 have key: ∀v,(t d).v=v→t d≠ .bot→a.tmps.getD d undef=v:=fun v hv hb=>by
  rcases r.at_ d with h|h
  ·exact absurd h hb
  ·rw[←h,hv]
 constructor
 ·intro b hv hb
  have:=key _ hv hb
  unfold yielded
  rw[hj]
  simp only[Option.bind_some,hd]
  rw[Array.getD_eq_getD_getElem?] at this
  cases hg:a.tmps[d]? with
  |none=>rw[hg] at this;simp[undef] at this
  |some u=>rw[hg] at this;simp at this;rw[this]
 ·intro vs hv hb
  have:=key _ hv hb
  unfold yielded
  rw[hj]
  simp only[Option.bind_some,hd]
  rw[Array.getD_eq_getD_getElem?] at this
  cases hg:a.tmps[d]? with
  |none=>rfl
  |some u=>rw[hg] at this;simp at this;rw[this]
def pH (P:Program) (o:Oper):Bool:=
 match Ho P o.op with
 | .pure| .load=>true
 |_=>false
def R5 (P:Program) (n:Nat) (o:Oper) (w:World) (K:Tm→ae→Prop) (a':Act) (w':World):Prop:=
 (quiet P o=true→dY w.heap w'.heap)∧ ∃t',nJ n t' a'∧Fr w w'∧K t' w'.heap
theorem IL {α:Type} (p:Program) (s:Sem α): ∀{h h':ae} {a:α},Eu p s h=some (a,h')→dY h h':=by
 induction s with
 |pure b=>intro h h' a H;simp only[Eu,Option.some.injEq,Prod.mk.injEq] at H;obtain⟨_,rfl⟩:=H;exact dY.refl _
 |program k ih=>intro h h' a H;exact ih p H
 |mark m k ih=>intro h h' a H;exact ih H
 |new o k ih=>intro h h' a H;exact(dY.push h o).trans (ih _ H)
 |_=>intro h h' a H;simp[Eu] at H
theorem Ot {ρ:Option Nat} {P:Program} {n:Nat} {o:Oper} {K:Tm→ae→Prop} {t:Tm} {a:Act} {w:World} {Q:Exit→Act→World→Prop} (hs:rM o.op=true) (r:nJ n t a)
 (H:Ms P n o K t w.heap):o.wpIn (Fl ρ) 0 P a w (R5 P n o w K) Q:=by
 unfold Ms at H
 cases hok:Gd t o.op.operands.toList with
 |false=>simp[hok] at H
 |true=>
  simp only[hok] at H
  have he:=r.exec hs hok
  unfold Oper.wpIn
  refine⟨fun _ _=>trivial,?_⟩
  rw[Oper.semAt_eq _ _ _ (fun c e=>by rw[e] at hs;cases hs),←he]
  have no1:(Fl ρ).depth.isSome=true→1≤0:=fun h=>by cases h
  by_cases hq:quiet P o=true
  ·
   have hval: ∃v w',(execOp (fun x=>(Md t x).v) o).run P w= .ok (.value v) w'∧Fr w w'∧dY w.heap w'.heap∧ ∃x:Tv,x.v=v∧K (put n t o.dst x) w'.heap:=by
    unfold Ht at H
    unfold quiet at hq
    split at H
    ·obtain⟨x,hx,hr⟩:=zj H
     exact⟨_,w,hr w,Fr.refl w,dY.refl _,x,rfl,hx⟩
    ·obtain⟨x,hx,hr⟩:=zk H
     exact⟨_,w,hr w (dY.refl _),Fr.refl w,dY.refl _,x,rfl,hx⟩
    ·unfold Ge at H
     split at H
     ·rename_i v h' hr
      obtain⟨nx,w',hrun,hf,e1,e2⟩:=Hm P _ w.heap (fun nx h''=>nx= .value v∧h''=h') (E7 P _ hr _ ⟨rfl,rfl⟩) w rfl
      subst e1
      exact⟨v,w',hrun,hf,e2▸IL P _ hr,.val v,rfl,e2▸H⟩
     ·exact H.elim
    ·rename_i hc;rw[hc] at hq;cases hq
   obtain⟨v,w',hrun,hf,hkeep,x,hx,hk⟩:=hval
   rw[hrun]
   exact⟨fun _=>hkeep,_,r.put o.dst x hx,hf,hk⟩
  ·have:=Lh H w rfl
   cases hrun:(execOp (fun x=>(Md t x).v) o).run P w with
   |halt e w'=>rw[hrun] at this;exact this.elim
   |ok nx w'=>
    rw[hrun] at this
    cases nx<;>simp only at this<;>try exact this.elim
    ·obtain⟨hf,x,hx,hk⟩:=this
     exact⟨fun h=>absurd h hq,_,r.put o.dst x hx,hf,hk⟩
    ·obtain⟨hf,x,hx,hk⟩:=this
     exact⟨fun h=>absurd h hq,_,r.put o.dst x hx,hf,hk⟩
    ·obtain⟨hf,hc⟩:=this
     refine⟨no1,(callsIn_wide (n:=0).2 (hc.mono ?_))⟩
     rintro e w'' ⟨v,rfl,hf2,x,hx,hk⟩
     exact⟨fun h=>absurd h hq,_,r.put o.dst x hx,hf.trans hf2,hk⟩
    ·obtain⟨hf,hc⟩:=this
     refine⟨no1,RoundIn.mono hc ?_⟩
     rintro e w'' ⟨v,rfl,hf2,x,hx,hk⟩
     exact⟨fun h=>absurd h hq,_,r.put o.dst x hx,hf.trans hf2,hk⟩
theorem vV {b want:Bool} {A B:Prop} (h:Mu b want A B):(b=want∧A)∨(b≠want∧B):=by
 cases b<;>cases want<;>simp_all [Mu]
theorem E4 {n:Nat} {ops:Array Oper} {o:Oper} {R S:Tm→Prop} {t:Tm} {a:Act} (r:nJ n t a)
 (H:Ra ops.toList o t R S): ∃t',nJ n t' a∧
  ((Region.wanted o (yielded ops a.tmps)=true∧R t')∨(Region.wanted o (yielded ops a.tmps)=false∧S t')):=by
 unfold Ra at H
 cases hg:o.guard with
 |none=>simp only[hg] at H;exact⟨t,r,.inl ⟨by simp[Region.wanted,hg],H⟩⟩
 |some jw=>
  obtain⟨j,want⟩:=jw
  simp only[hg,mA] at H
  cases hj:ops.toList[j]? with
  |none=>simp[hj] at H
  |some oj=>
   simp only[hj] at H
   have hj':ops[j]? =some oj:=by rw[←hj];simp
   cases hd:oj.dst with
   |none=>simp[hd] at H
   |some d=>
    simp only[hd] at H
    obtain⟨y1,y2⟩:=IK r hj' hd
    have wb: ∀b,yielded ops a.tmps j=some b→Region.wanted o (yielded ops a.tmps)=(b==want):=fun b hb=>by simp[Region.wanted,hg,hb]
    split at H
    ·rename_i b hb
     have hy:=wb b (y1 b (by rw[hb];rfl) (by rw[hb];simp))
     rcases vV H with ⟨e,H⟩|⟨e,H⟩
     ·exact⟨t,r,.inl ⟨by rw[hy];simp[e],H⟩⟩
     ·exact⟨t,r,.inr ⟨by rw[hy];simp[e],H⟩⟩
    ·rename_i b hb
     have hy:=wb b (y1 b (by rw[hb];rfl) (by rw[hb];simp))
     cases b with
     |true=>
      rcases vV (H.1 rfl) with ⟨e,H⟩|⟨e,H⟩
      ·exact⟨_,r.known d true hb,.inl ⟨by rw[hy];simp[e],H⟩⟩
      ·exact⟨_,r.known d true hb,.inr ⟨by rw[hy];simpa using e,H⟩⟩
     |false=>
      rcases vV (H.2 rfl) with ⟨e,H⟩|⟨e,H⟩
      ·exact⟨_,r.known d false hb,.inl ⟨by rw[hy];simp[e],H⟩⟩
      ·exact⟨_,r.known d false hb,.inr ⟨by rw[hy];simpa using e,H⟩⟩
    ·rename_i vs hb
     have hy:=y2 vs (by rw[hb];rfl) (by rw[hb];simp)
     exact⟨t,r,.inr ⟨by simp[Region.wanted,hg,hy],H⟩⟩
    ·exact H.elim
theorem E5 {P:Program} {n:Nat} {ops:Array Oper} {o:Oper} {K:Tm→ae→Prop} {t:Tm} {a:Act} {h:ae} (r:nJ n t a)
 (H:Pu P n ops.toList o K t h): ∃t',nJ n t' a∧
  ((Region.wanted o (yielded ops a.tmps)=true∧Ms P n o K t' h)∨(Region.wanted o (yielded ops a.tmps)=false∧K (put n t' o.dst (.val undef)) h)):=
 E4 r H
theorem Mw {ρ:Option Nat} {P:Program} {n:Nat} {ops:Array Oper} {i:Nat} {o:Oper} {K:Tm→ae→Prop} {t:Tm} {a:Act} {w:World} {Q:Exit→Act→World→Prop}
 (hi:ops[i]? =some o) (hs:rM o.op=true) (r:nJ n t a) (H:Pu P n ops.toList o K t w.heap):xJ ρ P ops Q i (R5 P n o w K) a w:=by
 obtain⟨t',r',H|H⟩:=E5 r H
 ·simp only[wpOpIn,hi,H.1,if_true];exact Ot hs r' H.2
 ·simp only[wpOpIn,hi,H.1,Bool.false_eq_true,if_false]
  exact⟨fun _ _=>trivial,fun _=>dY.refl _,_,r'.put o.dst _ rfl,Fr.refl w,H.2⟩
theorem KW {P:Program} {n:Nat} {ops:Array Oper} {o:Oper} {K:Tm→ae→Prop} {t:Tm} {a:Act} {h:ae}
 (hs:rM o.op=true) (hc:pH P o=true) (r:nJ n t a) (H:Pu P n ops.toList o K t h):
 ∃v t',YieldsIf P ops (fun w=>dY h w.heap) o v a∧(Ho P o.op= .pure→Yields P ops o v a)∧nJ n t' (a.put o.dst v)∧K t' h:=by
 obtain⟨t',r',H|H⟩:=E5 r H
 ·obtain⟨hw,H⟩:=H
  unfold Ms at H
  cases hok:Gd t' o.op.operands.toList with
  |false=>simp[hok] at H
  |true=>
   simp only[hok] at H
   have he:=r'.exec hs hok
   unfold Ht at H
   unfold pH at hc
   split at H
   ·obtain⟨x,hx,hr⟩:=zj H
    rw[he] at hr
    exact⟨x.v,_,.inl ⟨hw,fun w _=>hr w⟩,fun _=> .inl ⟨hw,hr⟩,r'.put o.dst x rfl,hx⟩
   ·rename_i hl
    obtain⟨x,hx,hr⟩:=zk H
    rw[he] at hr
    exact⟨x.v,_,.inl ⟨hw,fun w hk=>hr w hk⟩,(fun e=>by rw[hl] at e;cases e),r'.put o.dst x rfl,hx⟩
   ·rename_i hl;rw[hl] at hc;cases hc
   ·rename_i hl;rw[hl] at hc;cases hc
 ·exact⟨undef,_,.inr ⟨H.1,rfl⟩,fun _=> .inr ⟨H.1,rfl⟩,r'.put o.dst (.val undef) rfl,H.2⟩
def lF (W:gT) (h:ae):Prop:= ∀x∈W,aD h x.2.1=some x.2.2
def Mx (k:Nat) (W:gT):Prop:= ∀x∈W,x.1=k
theorem lF.live {o:Oper}: ∀{W:gT} {h:ae},lF (pG o W) h→ ∀x∈W,waitsFor o x.1=false→aD h x.2.1=some x.2.2
 |[],_,_,x,hx,_=>by simp at hx
 |y::r,h,a,x,hx,hw=>by
  simp only[pG] at a
  cases hy:waitsFor o y.1 with
  |true=>
   simp only[hy] at a
   rcases List.mem_cons.1 hx with rfl|hx
   ·rw[hw] at hy;cases hy
   ·exact lF.live a x hx hw
  |false=>
   simp only[hy] at a
   rcases List.mem_cons.1 hx with rfl|hx
   ·exact a x (by simp)
   ·exact lF.live (fun z hz=>a z (List.mem_cons_of_mem _ hz)) x hx hw
theorem zg: ∀(W:gT) (h:ae) (K:Prop),gC W h K↔lF W h∧K
 |[],h,K=>by simp[gC,lF]
 |x::r,h,K=>by
  simp only[gC,zg r h K,lF,List.mem_cons,forall_eq_or_imp]
  constructor
  ·rintro⟨h1,h2,h3⟩;exact⟨⟨h1,h2⟩,h3⟩
  ·rintro⟨⟨h1,h2⟩,h3⟩;exact⟨h1,h2,h3⟩
theorem lF.keeps {W:gT} {h h':ae} (a:lF W h) (k:dY h h'):lF W h':=fun x hx=>k.cell (a x hx)
theorem lF.append {W V:gT} {h:ae} (a:lF W h) (b:lF V h):lF (W++V) h:=fun x hx=>by
 rcases List.mem_append.1 hx with h|h
 ·exact a x h
 ·exact b x h
theorem Hf (P:Program) (k:Nat): ∀(zs:List Value) (h:ae) (a:Addr) (i:Nat) (K:List Value→Prop),E9 zs h a i K→
 ∃vs,K vs∧vs.length=zs.length∧Mx k (df k a vs i)∧lF (df k a vs i) h∧ ∀w:World,lF (df k a vs i) w.heap→ ∀acc,(loadCellsFrom a i zs.length acc).run P w= .ok (acc++vs.toArray) w:=by
 intro zs
 induction zs with
 |nil=>intro h a i K H;exact⟨[],H,rfl,fun x hx=>by simp[df] at hx,fun x hx=>by simp[df] at hx,fun w _ acc=>by simp[loadCellsFrom]⟩
 |cons z zs ih=>
  intro h a i K H
  simp only[E9,Kh] at H
  obtain⟨v,hv,H⟩:=kH H
  obtain⟨vs,hk,hl,hat,hw,hr⟩:=ih h a (i+1) _ H
  refine⟨v::vs,hk,by simp[hl],?_,?_,fun w hall acc=> ?_⟩
  ·intro x hx
   simp only[df,List.mem_cons] at hx
   rcases hx with rfl|hx
   ·rfl
   ·exact hat x hx
  ·intro x hx
   simp only[df,List.mem_cons] at hx
   rcases hx with rfl|hx
   ·exact hv
   ·exact hw x hx
  ·simp only[List.length_cons,loadCellsFrom,ba,xP (hall (k,a.add i,v) (by simp[df]))]
   rw[hr w (fun x hx=>hall x (by simp only[df,List.mem_cons];exact .inr hx))]
   simp
theorem Hg {P:Program} {t:TypeId} {h:ae} {a:Addr} {K:Value→Prop} (k:Nat) (H:CX P t h a K):
 ∃v,K v∧Mx k (ze P t k a v)∧lF (ze P t k a v) h∧ ∀w:World,lF (ze P t k a v) w.heap→(loadVar t a).run P w= .ok v w:=by
 unfold CX at H
 cases hty:xN P t with
 |none=>simp[hty] at H
 |some ty=>
  simp only[hty] at H
  unfold xN at hty
  cases hu:P.underlying t with
  |none=>simp[hu] at hty
  |some d=>
   cases hi:P.info? t with
   |none=>simp[hu,hi] at hty
   |some i=>
    simp only[hu,hi] at hty
    have hty':xN P t=some ty:=by unfold xN;simp only[hu,hi];exact hty
    cases hd:zi d with
    |false=>
     simp only[hd] at hty
     cases hz:i.zero with
     |none=>simp[hz] at hty
     |some z=>
      simp only[hz,Option.some.injEq] at hty
      subst hty
      obtain⟨v,hv,H⟩:=kH H
      refine⟨v,H,?_⟩
      simp only[ze,hty']
      refine⟨fun x hx=>by simp only[List.mem_singleton] at hx;subst hx;rfl,fun x hx=>by simp only[List.mem_singleton] at hx;subst hx;exact hv,fun w hw=> ?_⟩
      simp only[loadVar,ba,iU hu,hd,Bool.false_eq_true,if_false,xP (hw (k,a,v) (by simp))]
    |true=>
     cases hz:i.zero with
     |none=>simp[hz,hd] at hty
     |some z=>
      cases z<;>simp only[hz,hd] at hty<;>try (cases hty;done)
      rename_i zs
      cases hn:Nat.beq zs.size i.size with
      |false=>simp[hn] at hty
      |true=>
       simp only[hn,Option.some.injEq] at hty
       subst hty
       obtain⟨vs,hk,hl,hat,hw,hr⟩:=Hf P k zs.toList h a 0 _ H
       refine⟨_,hk,?_⟩
       simp only[ze,hty']
       refine⟨hat,hw,fun w hall=> ?_⟩
       have hr':=hr w hall #[]
       have hsz:i.size=zs.toList.length:=by rw[Array.length_toList];exact(Nat.eq_of_beq_eq_true hn).symm
       simp only[loadVar,ba,iU hu,hd,if_true,eY hi,loadCells,hsz,hr',bG,Array.empty_append]
theorem IM {P:Program} {n:Nat} {ops:Array Oper} {o:Oper} {K:gT→Tm→ae→Prop} {t:Tm} {a:Act} {h:ae} {k:Nat}
 (hs:rM o.op=true) (r:nJ n t a) (H:R4 P n k ops.toList o K t h):
 ∃v t' W,Mx k W∧YieldsIf P ops (fun w=>lF W w.heap) o v a∧lF W h∧nJ n t' (a.put o.dst v)∧K W t' h:=by
 obtain⟨t',r',⟨hw,H⟩|H⟩:=E4 r H
 ·unfold QF at H
  cases hok:Gd t' o.op.operands.toList with
  |false=>simp[hok] at H
  |true=>
   simp only[hok] at H
   have he:=r'.exec hs hok
   split at H
   ·rename_i ty x ho
    split at H
    ·rename_i ad hx
     obtain⟨v,hv,hat,hall,hr⟩:=Hg k H
     refine⟨v,_,_,hat,.inl ⟨hw,fun w hall'=> ?_⟩,hall,r'.put o.dst (.val v) rfl,hv⟩
     rw[←he]
     obtain⟨dst,op,type,pos,after,guard⟩:=o
     subst ho
     simp only[execOp,Instr.loadAt,Instr.sureAddr,ba,hx,bG,hr w hall']
    ·exact H.elim
   ·exact H.elim
 ·exact⟨undef,_,[],fun x hx=>by simp at hx,.inr ⟨H.1,rfl⟩,fun x hx=>by simp at hx,r'.put o.dst (.val undef) rfl,H.2⟩
end Go.Sh
end
section
set_option linter.unusedVariables false
namespace Go.Sh
set_option linter.unusedSimpArgs false
def tX (P:Program) (ops:Array Oper) (i:Nat):Prop:= ∀o,ops[i]? =some o→quiet P o=true
def qz (ρ:Option Nat) (P:Program) (ops:Array Oper) (Q:Exit→Act→World→Prop) (W:gT):Nat→Array Bool→Act→World→Prop
 |0,listed,a,w=>Region.ready .any ops listed=[]∧Q .normal a w
 |fuel+1,listed,a,w=>
  (Region.ready .any ops listed=[]→Q .normal a w)∧
  ∀i∈Region.ready .any ops listed,xJ ρ P ops Q i (fun a' w'=>(tX P ops i→dY w.heap w'.heap)∧(∀o,ops[i]? =some o→quiet P o=false→lF (pG o W) w'.heap)∧qz ρ P ops Q W fuel (listed.setIfInBounds i true) a' w') a w
theorem CS {ρ:Option Nat} {P:Program} {ops:Array Oper} {Q:Exit→Act→World→Prop} {W:gT}: ∀(fuel:Nat) (listed:Array Bool) (a:Act) (w:World),qz ρ P ops Q W fuel listed a w→wpAnyIn (Fl ρ) 0 P .any ops Q fuel listed a w
 |0,_,_,_,h=>h
 |fuel+1,_,_,_,h=>⟨h.1,fun i hi=>wpOpIn_mono (fun a' w' h'=>CS fuel _ a' w' h'.2.2) (h.2 i hi)⟩
theorem qA (o:Oper): ∀(V W:gT),∀x∈pG o W,x∈pG o (V++W)
 |[],_,_,hx=>hx
 |y::r,W,x,hx=>by
  simp only[List.cons_append,pG]
  split
  ·exact qA o r W x hx
  ·exact List.mem_cons_of_mem _ (qA o r W x hx)
theorem zX {ρ:Option Nat} {P:Program} {ops:Array Oper} {Q:Exit→Act→World→Prop} {V W:gT}: ∀(fuel:Nat) (listed:Array Bool) (a:Act) (w:World),qz ρ P ops Q (V++W) fuel listed a w→qz ρ P ops Q W fuel listed a w
 |0,_,_,_,h=>h
 |fuel+1,_,_,_,h=>⟨h.1,fun i hi=>wpOpIn_mono (fun a' w' h'=>⟨h'.1,fun o ho hq x hx=>h'.2.1 o ho hq x (qA o V W x hx),zX fuel _ a' w' h'.2.2⟩) (h.2 i hi)⟩
theorem tp {ρ:Option Nat} {P:Program} {ops:Array Oper} {Q:Exit→Act→World→Prop} {S:World→Prop} {i:Nat} {o:Oper} {v:Value} {a:Act} (hi:ops[i]? =some o) (hs:rM o.op=true) (hy:YieldsIf P ops S o v a)
 {K:Act→World→Prop} {w:World} (hS:S w) (h:K (a.put o.dst v) w):xJ ρ P ops Q i K a w:=by
 unfold xJ wpOpIn
 simp only[hi]
 rcases hy with ⟨hw,hv⟩|⟨hw,rfl⟩
 ·simp only[hw,if_true,Oper.wpIn,Oper.semAt_eq _ _ o (fun c e=>by rw[e] at hs;cases hs),hv w hS,Oper.uponIn]
  exact⟨fun _ _=>trivial,h⟩
 ·simp only[hw,Bool.false_eq_true,if_false]
  exact⟨fun _ _=>trivial,h⟩
theorem Hh {ρ:Option Nat} {P:Program} {ops:Array Oper} {Q:Exit→Act→World→Prop} {S:World→Prop} {j:Nat} {oi oj:Oper} {v:Value} (hj:ops[j]? =some oj) (hap:oi.apart ops oj=true)
 (hsi:rM oi.op=true) (hsj:rM oj.op=true)
 (hQ: ∀c a w,Q (.panic c) (a.put oi.dst v) w→Q (.panic c) a w) {K:Act→World→Prop} {a:Act} {w:World}
 (hy:YieldsIf P ops S oi v a) (h:xJ ρ P ops Q j K (a.put oi.dst v) w):
 xJ ρ P ops Q j (fun a' w'=>YieldsIf P ops S oi v a'∧K (a'.put oi.dst v) w') a w:=by
 obtain⟨h1,h2,h3⟩:=Oper.apart_spec hap
 have hsi': ∀cs b,oi.op≠ .select cs b:=fun cs b e=>by rw[e] at hsi;cases hsi
 have hsj': ∀cs b,oj.op≠ .select cs b:=fun cs b e=>by rw[e] at hsj;cases hsj
 have keep: ∀(a:Act),YieldsIf P ops S oi v a→ ∀u,YieldsIf P ops S oi v (a.put oj.dst u):=fun a hy u=>
  hy.of_same (execOp_put oi hsi' a oj.dst u h3) (wanted_put oi a oj.dst u h3)
 have keepD: ∀d,YieldsIf P ops S oi v {a with defers:=d::a.defers}:=fun d=>hy.of_same rfl rfl
 have nd: ∀ρ',Oper.semAt (Fl ρ).round ρ' oj=execOp ρ' oj:=fun ρ'=>Oper.semAt_eq _ _ oj (fun c e=>by rw[e] at hsj;cases hsj)
 unfold xJ wpOpIn at *
 simp only[hj] at *
 rw[wanted_put oj a oi.dst v h1] at h
 split
 ·rename_i hw
  simp only[hw,if_true] at h
  unfold Oper.wpIn at *
  refine⟨fun _ _=>trivial,?_⟩
  have h:=h.2
  rw[nd,execOp_put oj hsj' a oi.dst v h1] at h
  rw[nd]
  generalize (execOp a.eval oj).run P w=r at *
  cases r with
  |ok x w'=>
   cases x<;>simp only[Oper.uponIn] at h ⊢
   case value u=>exact⟨keep a hy u,by rw[←Act.put_comm a v u h2];exact h⟩
   case skip=>exact⟨keep a hy _,by rw[←Act.put_comm a v undef h2];exact h⟩
   case defer d=>
    refine⟨keep _ (keepD d) _,?_⟩
    rw[←Act.put_comm _ v undef h2,←Act.put_defers]
    exact h
   case enter f args=>
    refine⟨h.1,CallsIn.mono h.2 fun e w'' he=> ?_⟩
    cases e with
    |returned u=>exact⟨keep a hy u,by rw[←Act.put_comm a v u h2];exact he⟩
    |panicked c=>exact hQ _ _ _ he
    |outgrown=>exact he
   case row row args=>exact⟨h.1,RowsIn.mono h.2 fun u w'' he=>⟨keep a hy u,by rw[←Act.put_comm a v u h2];exact he⟩⟩
   case round l f tmps assign body=>
    refine⟨h.1,RoundIn.mono h.2 fun e w'' he=> ?_⟩
    cases e with
    |returned u=>exact⟨keep a hy u,by rw[←Act.put_comm a v u h2];exact he⟩
    |panicked c=>exact hQ _ _ _ he
    |outgrown=>exact he
  |halt x w'=>
   cases x<;>simp only[Oper.uponIn] at h ⊢
   case panic u=>exact hQ _ _ _ h
 ·rename_i hw
  simp only[hw] at h
  exact⟨fun _ _=>trivial,keep a hy _,by rw[←Act.put_comm a v undef h2];exact h.2⟩
theorem qB {ρ:Option Nat} {P:Program} {ops:Array Oper} {Q:Exit→Act→World→Prop} {W:gT} {S:World→Prop} {i:Nat} {oi:Oper} {v:Value} (hi:ops[i]? =some oi) (hqi:tX P ops i)
 (hsel: ∀(j:Nat) (o:Oper),ops[j]? =some o→rM o.op=true)
 (hQ: ∀c a w,Q (.panic c) (a.put oi.dst v) w→Q (.panic c) a w):
 ∀(fuel:Nat) (listed:Array Bool) (a:Act) (w:World),
  (∀j oj,ops[j]? =some oj→j≠i→listed.getD j true=false→(∀e∈oj.after,Region.binds .any e=true→e.on≠i)→oi.apart ops oj=true)→
  (∀j oj,ops[j]? =some oj→j≠i→listed.getD j true=false→(∀e∈oj.after,Region.binds .any e=true→e.on≠i)→
   ∀w w':World,S w→(tX P ops j→dY w.heap w'.heap)→(quiet P oj=false→lF (pG oj W) w'.heap)→S w')→
  i∈Region.ready .any ops listed→YieldsIf P ops S oi v a→S w→
  qz ρ P ops Q W fuel (listed.setIfInBounds i true) (a.put oi.dst v) w→qz ρ P ops Q W (fuel+1) listed a w:=by
 intro fuel
 induction fuel with
 |zero=>
  intro listed a w _ _ hr hy hS H
  refine⟨fun h=>(by rw[h] at hr;cases hr),fun j hj=> ?_⟩
  by_cases hji:j=i
  ·subst hji;exact tp hi (hsel _ _ hi) hy hS ⟨fun _=>dY.refl _,fun o ho hf=>absurd (hqi o ho) (by rw[hf];simp),H⟩
  ·have:=ready_mono hj hji
   rw[H.1] at this
   cases this
 |succ fuel ih=>
  intro listed a w hfree hkeep hr hy hS H
  refine⟨fun h=>(by rw[h] at hr;cases hr),fun j hj=> ?_⟩
  by_cases hji:j=i
  ·subst hji;exact tp hi (hsel _ _ hi) hy hS ⟨fun _=>dY.refl _,fun o ho hf=>absurd (hqi o ho) (by rw[hf];simp),H⟩
  ·have h1:=H.2 j (ready_mono hj hji)
   obtain⟨hjun,oj,hoj,hall⟩:=mem_ready.1 hj
   have hnot: ∀e∈oj.after,Region.binds .any e=true→e.on≠i:=fun e he hb heq=>by
    have h1:=hall e he hb
    have h0:=(mem_ready.1 hr).1
    rw[heq] at h1
    rcases Nat.lt_or_ge i listed.size with h'|h'
    ·simp[h'] at h0 h1;rw[h0] at h1;cases h1
    ·simp[Array.getElem?_eq_none h'] at h1
   have h2:=Hh hoj (hfree j oj hoj hji hjun hnot) (hsel i oi hi) (hsel j oj hoj) hQ hy h1
   have hun': ∀k,(listed.setIfInBounds j true).getD k true=false→listed.getD k true=false:=fun k hun=>by
    by_cases hjk:j=k
    ·subst hjk;exact hjun
    ·rw[getD_set_ne true hjk] at hun;exact hun
   refine wpOpIn_mono (fun a' w' h3=>⟨h3.2.1,h3.2.2.1,ih (listed.setIfInBounds j true) a' w' (fun k ok hk hki hun hno=>hfree k ok hk hki (hun' k hun) hno)
    (fun k ok hk hki hun hno=>hkeep k ok hk hki (hun' k hun) hno) (ready_mono hr (Ne.symm hji)) h3.1 (hkeep j oj hoj hji hjun hnot w w' hS h3.2.1 (h3.2.2.1 oj hoj)) ?_⟩) h2
   rw[Array.setIfInBounds_comm _ _ hji]
   exact h3.2.2.2
def has (m i:Nat):Bool:=Nat.testBit m i
def tY (done:Nat) (o:Oper):Bool:=o.after.toList.all fun e=> !Region.binds .any e||has done e.on
def vW (ops:List Oper) (done i:Nat):Bool:=
 match Ep ops i with
 |some o=> !has done i&&tY done o
 |none=>false
def Hj (P:Program) (ops:Array Oper) (oi:Oper) (ld:Bool) (done i:Nat):List Oper→Nat→Bool
 |[],_=>true
 |o::r,j=>(j==i||has done j||waitsFor o i||(oi.apart ops o&&(!ld||quiet P o)))&&Hj P ops oi ld done i r (j+1)
def IP (P:Program) (o:Oper):Bool:=
 match Ho P o.op with
 | .pure=>true
 |_=>false
def My (P:Program) (ops:Array Oper) (done i:Nat):Bool:=
 match Ep ops.toList i with
 |some o=>pH P o&&Hj P ops o (!IP P o) done i ops.toList 0
 |none=>false
def IQ (o:Oper):Bool:=
 match o.op with
 | .load .. =>true
 |_=>false
def Mz (P:Program) (ops:Array Oper) (done i:Nat):Bool:=
 match Ep ops.toList i with
 |some o=>IQ o&&Hj P ops o false done i ops.toList 0
 |none=>false
def qC (ops:List Oper) (done:Nat) (seen:List Nat):List Oper→Nat→Bool
 |[],_=>true
 |o::r,j=>(has done j|| !tY done o||seen.contains j)&&qC ops done seen r (j+1)
def tZ (done:Nat):List Oper→Nat→Bool
 |[],_=>true
 |_::r,j=>has done j&&tZ done r (j+1)
def schOk (P:Program) (ops:Array Oper):Mv→(done:Nat)→(seen:List Nat)→Bool
 | .done,done,seen=>seen.isEmpty&&tZ done ops.toList 0
 | .stop,done,seen=> !seen.isEmpty&&qC ops.toList done seen ops.toList 0
 | .one i r,done,seen=>seen.isEmpty&&vW ops.toList done i&&My P ops done i&&schOk P ops r (done|||2 ^ i) []
 | .early i r,done,seen=>seen.isEmpty&&vW ops.toList done i&&Mz P ops done i&&schOk P ops r (done|||2 ^ i) []
 | .alt i r rest,done,seen=>vW ops.toList done i&&schOk P ops r (done|||2 ^ i) []&&schOk P ops rest done (i::seen)
structure Er (ops:Array Oper) (done:Nat) (listed:Array Bool):Prop where
 size:listed.size=ops.size
 bit: ∀i,i<ops.size→listed.getD i true=has done i
theorem Er.set {ops:Array Oper} {done:Nat} {listed:Array Bool} (b:Er ops done listed) (i:Nat):Er ops (done|||2 ^ i) (listed.setIfInBounds i true):=by
 refine⟨by simp[b.size],fun j hj=> ?_⟩
 unfold has
 rw[Nat.testBit_or,Nat.testBit_two_pow]
 by_cases h:i=j
 ·subst h;simp[b.size,hj]
 ·rw[getD_set_ne true h,b.bit j hj];simp[has,h]
theorem Er.false_of {ops:Array Oper} {done:Nat} {listed:Array Bool} (b:Er ops done listed) {i:Nat} (hi:i<ops.size):listed.getD i false=has done i:=by
 rw[←b.bit i hi]
 simp[b.size,hi]
theorem gx {ops:Array Oper} {done:Nat} {listed:Array Bool} (b:Er ops done listed) (hlt: ∀(j:Nat) (o:Oper),ops[j]? =some o→ ∀e∈o.after,e.on<ops.size) (j:Nat):
 j∈Region.ready .any ops listed↔ ∃o,ops[j]? =some o∧has done j=false∧tY done o=true:=by
 rw[mem_ready]
 constructor
 ·rintro⟨h0,o,ho,hall⟩
  have hj:j<ops.size:=(Array.getElem?_eq_some_iff.1 ho).1
  refine⟨o,ho,by rw[←b.bit j hj];exact h0,?_⟩
  simp only[tY,List.all_eq_true,Bool.or_eq_true,Bool.not_eq_true']
  intro e he
  cases hb:Region.binds .any e with
  |false=>exact .inl rfl
  |true=>right;rw[←b.false_of (hlt j o ho e (Array.mem_toList_iff.1 he))];exact hall e (Array.mem_toList_iff.1 he) hb
 ·rintro⟨o,ho,h0,hall⟩
  have hj:j<ops.size:=(Array.getElem?_eq_some_iff.1 ho).1
  refine⟨by rw[b.bit j hj];exact h0,o,ho,fun e he hb=> ?_⟩
  simp only[tY,List.all_eq_true,Bool.or_eq_true,Bool.not_eq_true'] at hall
  rcases hall e (Array.mem_toList_iff.2 he) with h|h
  ·rw[hb] at h;cases h
  ·rw[b.false_of (hlt j o ho e he)];exact h
theorem vX {P:Program} {ops:Array Oper} {oi:Oper} {ld:Bool} {done i:Nat}: ∀{l:List Oper} {j:Nat},Hj P ops oi ld done i l j=true→
 ∀k o,l[k]? =some o→j+k≠i→has done (j+k)=false→(∀e∈o.after,Region.binds .any e=true→e.on≠i)→oi.apart ops o=true∧(ld=true→quiet P o=true)
 |[],_,_,k,o,ho=>by simp at ho
 |x::r,j,h,k,o,ho=>by
  intro hne hun hno
  simp only[Hj,Bool.and_eq_true] at h
  obtain⟨h1,h2⟩:=h
  cases k with
  |zero=>
   simp only[List.getElem?_cons_zero,Option.some.injEq] at ho
   subst ho
   simp only[Nat.add_zero] at hne hun
   simp only[Bool.or_eq_true,beq_iff_eq,hne,false_or,hun,Bool.false_eq_true,Bool.and_eq_true] at h1
   rcases h1 with h1|h1
   ·simp only[waitsFor,List.any_eq_true,Bool.and_eq_true,beq_iff_eq] at h1
    obtain⟨e,he,hb,heq⟩:=h1
    exact absurd heq (hno e (Array.mem_toList_iff.1 he) hb)
   ·refine⟨h1.1,fun hl=> ?_⟩
    rcases h1.2 with h3|h3
    ·rw[hl] at h3;simp at h3
    ·exact h3
  |succ k=>
   have:=vX h2 k o (by simpa using ho) (by omega) (by rw[show j+1+k=j+(k+1) by omega];exact hun) hno
   exact this
theorem rN {ops:List Oper} {done:Nat} {seen:List Nat}: ∀{l:List Oper} {j:Nat},qC ops done seen l j=true→
 ∀k o,l[k]? =some o→has done (j+k)=false→tY done o=true→j+k∈seen
 |[],_,_,k,o,ho=>by simp at ho
 |x::r,j,h,k,o,ho=>by
  intro hun hb
  simp only[qC,Bool.and_eq_true] at h
  cases k with
  |zero=>
   simp only[List.getElem?_cons_zero,Option.some.injEq] at ho
   subst ho
   simp only[Nat.add_zero] at hun ⊢
   have:=h.1
   simp only[hun,hb,Bool.not_true,Bool.or_false,Bool.false_or] at this
   simpa using this
  |succ k=>
   have:=rN h.2 k o (by simpa using ho) (by rw[show j+1+k=j+(k+1) by omega];exact hun) hb
   rw[show j+1+k=j+(k+1) by omega] at this
   exact this
theorem tq {done:Nat}: ∀{l:List Oper} {j:Nat},tZ done l j=true→ ∀k o,l[k]? =some o→has done (j+k)=true
 |[],_,_,k,o,ho=>by simp at ho
 |x::r,j,h,k,o,ho=>by
  simp only[tZ,Bool.and_eq_true] at h
  cases k with
  |zero=>simpa using h.1
  |succ k=>
   have:=tq h.2 k o (by simpa using ho)
   rw[show j+1+k=j+(k+1) by omega] at this
   exact this
def kf (ops:List Oper):Bool:=ops.all fun o=>rM o.op&&o.after.toList.all fun e=>Nat.blt e.on ops.length
theorem kg {ops:Array Oper} (h:kf ops.toList=true) {i:Nat} {o:Oper} (ho:ops[i]? =some o):rM o.op=true:=by
 simp only[kf,List.all_eq_true,Bool.and_eq_true] at h
 exact(h o (Array.mem_toList_iff.2 (Array.mem_of_getElem? ho))).1
theorem Hk {ops:Array Oper} (h:kf ops.toList=true) (j:Nat) (o:Oper) (ho:ops[j]? =some o) (e:Edge) (he:e∈o.after):e.on<ops.size:=by
 simp only[kf,List.all_eq_true,Bool.and_eq_true] at h
 have:=(h o (Array.mem_toList_iff.2 (Array.mem_of_getElem? ho))).2 e (Array.mem_toList_iff.2 he)
 have:=Nat.le_of_ble_eq_true this
 simp only[Array.length_toList] at this
 exact this
def tr (n:Nat) (w0:World) (QI:Exit→Tm→ae→Prop) (e:Exit) (a:Act) (w:World):Prop:=
 (match e with| .panic _=>False| .outgrown=>False|_=>True)∧ ∃t,nJ n t a∧Fr w0 w∧QI e t w.heap
def oR (listed:Array Bool):Nat:=listed.toList.count false
theorem qD {listed:Array Bool} {i:Nat} (hi:i<listed.size) (h:listed.getD i true=false):oR listed=oR (listed.setIfInBounds i true)+1:=by
 have hi':i<listed.toList.length:=by simpa using hi
 have hv:listed.toList[i]=false:=by simpa[hi] using h
 unfold oR
 rw[Array.toList_setIfInBounds,List.count_set hi']
 simp only[hv]
 have:0<listed.toList.count false:=List.count_pos_iff.2 (hv▸List.getElem_mem hi')
 show _=_-1+0+1
 omega
theorem ow {P:Program} {ops:Array Oper} {i:Nat} {o:Oper} (ho:ops[i]? =some o):tX P ops i↔quiet P o=true:=
 ⟨fun h=>h o ho,fun h o' ho'=>by rw[ho] at ho';cases ho';exact h⟩
theorem tu {P:Program} {o:Oper} {W:gT} {K:Tm→ae→Prop} {t:Tm} {h:ae} (H:zf P o W K t h):(quiet P o=false→lF (pG o W) h)∧K t h:=by
 unfold zf at H
 cases hq:quiet P o with
 |true=>simp only[hq] at H;exact⟨fun h=>(by cases h),H⟩
 |false=>simp only[hq] at H;exact⟨fun _=>((zg _ h _).1 H).1,((zg _ h _).1 H).2⟩
theorem F7 {P:Program} {o:Oper} (h:IQ o=true):quiet P o=true:=by
 obtain⟨dst,op,type,pos,after,guard⟩:=o
 cases op<;>first|rfl|(simp[IQ] at h)
theorem Ba {P:Program} {o:Oper} (h:pH P o=true):quiet P o=true:=by
 unfold pH at h;unfold quiet
 split at h<;>simp_all
theorem KX {ρ:Option Nat} {P:Program} {n:Nat} {ops:Array Oper} {QI:Exit→Tm→ae→Prop} {w0:World} (hp:kf ops.toList=true) (s:Mv):
 (∀(W:gT) (done:Nat) (listed:Array Bool) (t:Tm) (a:Act) (w:World),schOk P ops s done []=true→Er ops done listed→nJ n t a→Fr w0 w→
  xI P n ops.toList s W (QI .normal) t w.heap→qz ρ P ops (tr n w0 QI) W (oR listed) listed a w)∧
 (∀(W:gT) (done:Nat) (seen:List Nat) (listed:Array Bool) (t:Tm) (a:Act) (w:World),schOk P ops s done seen=true→Er ops done listed→nJ n t a→Fr w0 w→
  (s= .stop∨ ∃i r rest,s= .alt i r rest)→
  xI P n ops.toList s W (QI .normal) t w.heap→ ∀j∈Region.ready .any ops listed,j∉seen→
   xJ ρ P ops (tr n w0 QI) j (fun a' w'=>(tX P ops j→dY w.heap w'.heap)∧(∀o,ops[j]? =some o→quiet P o=false→lF (pG o W) w'.heap)∧qz ρ P ops (tr n w0 QI) W (oR listed-1) (listed.setIfInBounds j true) a' w') a w):=by
 have hlt:=Hk hp
 have hsel: ∀(j:Nat) (o:Oper),ops[j]? =some o→rM o.op=true:=fun j o hj=>kg hp hj
 induction s with
 |done=>
  refine⟨fun W done listed t a w hok b r hf H=> ?_,fun _ _ _ _ _ _ _ _ _ _ _ h=> ?_⟩
  ·simp only[schOk,Bool.and_eq_true] at hok
   have hnil:Region.ready .any ops listed=[]:=by
    rw[List.eq_nil_iff_forall_not_mem]
    intro j hj
    obtain⟨o,ho,h0,_⟩:=(gx b hlt j).1 hj
    have:=tq hok.2 j o (by rw[←ho];simp)
    rw[Nat.zero_add,h0] at this;cases this
   have hq:tr n w0 QI .normal a w:=⟨trivial,t,r,hf,H⟩
   cases oR listed with
   |zero=>exact⟨hnil,hq⟩
   |succ k=>exact⟨fun _=>hq,by rw[hnil];intro i hi;cases hi⟩
  ·rcases h with h|⟨_,_,_,h⟩<;>cases h
 |stop=>
  refine⟨fun W done listed t a w hok=>by simp[schOk] at hok,fun W done seen listed t a w hok b r hf _ H j hj hjs=> ?_⟩
  simp only[schOk,Bool.and_eq_true] at hok
  obtain⟨o,ho,h0,hb⟩:=(gx b hlt j).1 hj
  have:=rN hok.2 j o (by rw[←ho];simp) (by rw[Nat.zero_add];exact h0) hb
  rw[Nat.zero_add] at this
  exact absurd this hjs
 |early i r ih=>
  refine⟨fun W done listed t a w hok b rel hf H=> ?_,fun _ _ _ _ _ _ _ _ _ _ _ h=> ?_⟩
  ·simp only[schOk,Bool.and_eq_true] at hok
   obtain⟨⟨⟨_,hr⟩,hfirst⟩,hok⟩:=hok
   simp only[xI,mA] at H
   unfold vW at hr
   unfold Mz at hfirst
   rw[mA] at hr hfirst
   cases ho:ops.toList[i]? with
   |none=>simp[ho] at hr
   |some o=>
    simp only[ho] at H hr hfirst
    have ho':ops[i]? =some o:=by rw[←ho];simp
    have hi:i<ops.size:=(Array.getElem?_eq_some_iff.1 ho').1
    simp only[Bool.and_eq_true,Bool.not_eq_true'] at hr hfirst
    have hmem:i∈Region.ready .any ops listed:=(gx b hlt i).2 ⟨o,ho',hr.1,hr.2⟩
    obtain⟨v,t',W',hat,hy,hall,rel',H'⟩:=IM (kg hp ho') rel H
    have hrec:=ih.1 _ _ _ t' (a.put o.dst v) w hok (b.set i) rel' hf H'
    have hcnt:=qD (listed:=listed) (i:=i) (by rw[b.size];exact hi) (by rw[b.bit i hi];exact hr.1)
    rw[hcnt]
    have hfree:=fun j oj (hj:ops[j]? =some oj) (hne:j≠i) (hun:listed.getD j true=false) hno=>
     vX hfirst.2 j oj (by rw[←hj];simp) (by omega) (by rw[Nat.zero_add,←b.bit j (Array.getElem?_eq_some_iff.1 hj).1];exact hun) hno
    refine zX _ _ _ _ (qB (S:=fun w'=>lF W' w'.heap) ho' ((ow ho').2 (F7 hfirst.1)) hsel (fun c a w h=>h.1.elim) _ listed a w (fun j oj hj hne hun hno=>(hfree j oj hj hne hun hno).1)
     (fun j oj hj hne hun hno w1 w2 h1 h2 h3=> ?_) hmem hy hall hrec)
    cases hqj:quiet P oj with
    |true=>exact h1.keeps (h2 ((ow hj).2 hqj))
    |false=>
     intro x hx
     refine(h3 hqj).live x (List.mem_append_left _ hx) ?_
     rw[hat x hx]
     cases hw:waitsFor oj i with
     |false=>rfl
     |true=>
      simp only[waitsFor,List.any_eq_true,Bool.and_eq_true,beq_iff_eq] at hw
      obtain⟨e,he,hb,heq⟩:=hw
      exact absurd heq (hno e (Array.mem_toList_iff.1 he) hb)
  ·rcases h with h|⟨_,_,_,h⟩<;>cases h
 |one i r ih=>
  refine⟨fun W done listed t a w hok b rel hf H=> ?_,fun _ _ _ _ _ _ _ _ _ _ _ h=> ?_⟩
  ·simp only[schOk,Bool.and_eq_true] at hok
   obtain⟨⟨⟨_,hr⟩,hfirst⟩,hok⟩:=hok
   simp only[xI,mA] at H
   unfold vW at hr
   unfold My at hfirst
   rw[mA] at hr hfirst
   cases ho:ops.toList[i]? with
   |none=>simp[ho] at hr
   |some o=>
    simp only[ho] at H hr hfirst
    have ho':ops[i]? =some o:=by rw[←ho];simp
    have hi:i<ops.size:=(Array.getElem?_eq_some_iff.1 ho').1
    simp only[Bool.and_eq_true,Bool.not_eq_true'] at hr hfirst
    have hmem:i∈Region.ready .any ops listed:=(gx b hlt i).2 ⟨o,ho',hr.1,hr.2⟩
    obtain⟨v,t',hy,hyp,rel',H'⟩:=KW (kg hp ho') hfirst.1 rel H
    have hrec:=ih.1 W _ _ t' (a.put o.dst v) w hok (b.set i) rel' hf (tu H').2
    have hcnt:=qD (listed:=listed) (i:=i) (by rw[b.size];exact hi) (by rw[b.bit i hi];exact hr.1)
    rw[hcnt]
    have hfree:=fun j oj (hj:ops[j]? =some oj) (hne:j≠i) (hun:listed.getD j true=false) hno=>
     vX hfirst.2 j oj (by rw[←hj];simp) (by omega) (by rw[Nat.zero_add,←b.bit j (Array.getElem?_eq_some_iff.1 hj).1];exact hun) hno
    have hqi:=(ow ho').2 (Ba hfirst.1)
    cases hpu:IP P o with
    |true=>
     have hy':Yields P ops o v a:=hyp (by unfold IP at hpu;split at hpu<;>simp_all)
     exact qB (S:=fun _=>True) ho' hqi hsel (fun c a w h=>h.1.elim) _ listed a w (fun j oj hj hne hun hno=>(hfree j oj hj hne hun hno).1)
      (fun _ _ _ _ _ _ _ _ _ _ _=>trivial) hmem hy'.yieldsIf trivial hrec
    |false=>
     refine qB (S:=fun w'=>dY w.heap w'.heap) ho' hqi hsel (fun c a w h=>h.1.elim) _ listed a w (fun j oj hj hne hun hno=>(hfree j oj hj hne hun hno).1)
      (fun j oj hj hne hun hno w1 w2 h1 h2 _=>h1.trans (h2 fun o2 ho2=> ?_)) hmem hy (dY.refl _) hrec
     rw[hj] at ho2;cases ho2
     exact(hfree j oj hj hne hun hno).2 (by simp[hpu])
  ·rcases h with h|⟨_,_,_,h⟩<;>cases h
 |alt i r rest ihr ihrest=>
  have B: ∀(W:gT) (done:Nat) (seen:List Nat) (listed:Array Bool) (t:Tm) (a:Act) (w:World),schOk P ops (.alt i r rest) done seen=true→Er ops done listed→nJ n t a→Fr w0 w→
   xI P n ops.toList (.alt i r rest) W (QI .normal) t w.heap→ ∀j∈Region.ready .any ops listed,j∉seen→
    xJ ρ P ops (tr n w0 QI) j (fun a' w'=>(tX P ops j→dY w.heap w'.heap)∧(∀o,ops[j]? =some o→quiet P o=false→lF (pG o W) w'.heap)∧qz ρ P ops (tr n w0 QI) W (oR listed-1) (listed.setIfInBounds j true) a' w') a w:=by
   intro W done seen listed t a w hok b rel hf H j hj hjs
   simp only[schOk,Bool.and_eq_true] at hok
   obtain⟨⟨hr,hokr⟩,hokrest⟩:=hok
   simp only[xI,mA] at H
   unfold vW at hr
   rw[mA] at hr
   cases ho:ops.toList[i]? with
   |none=>simp[ho] at hr
   |some o=>
    simp only[ho] at H hr
    have ho':ops[i]? =some o:=by rw[←ho];simp
    have hi:i<ops.size:=(Array.getElem?_eq_some_iff.1 ho').1
    simp only[Bool.and_eq_true,Bool.not_eq_true'] at hr
    have hop:Pu P n ops.toList o (zf P o W (xI P n ops.toList r W (QI .normal))) t w.heap:=by
     cases rest<;>first|exact H|exact H.1
    by_cases hji:j=i
    ·subst hji
     refine wpOpIn_mono (fun a' w' h=> ?_) (Mw ho' (kg hp ho') rel hop)
     obtain⟨hkeep,t',rel',hf',H'⟩:=h
     have:=ihr.1 W _ _ t' a' w' hokr (b.set j) rel' (hf.trans hf') (tu H').2
     have hcnt:=qD (listed:=listed) (i:=j) (by rw[b.size];exact hi) (by rw[b.bit j hi];exact hr.1)
     rw[hcnt]
     exact⟨fun hq=>hkeep ((ow ho').1 hq),fun o2 ho2 hq=>(by rw[ho'] at ho2;cases ho2;exact(tu H').1 hq),this⟩
    ·cases hrest:rest with
     |done=>subst hrest;simp[schOk] at hokrest
     |one i2 r2=>subst hrest;simp[schOk] at hokrest
     |early i2 r2=>subst hrest;simp[schOk] at hokrest
     |stop=>
      subst hrest
      exact ihrest.2 W done (i::seen) listed t a w hokrest b rel hf (.inl rfl) trivial j hj (by simp[hji,hjs])
     |alt i2 r2 rest2=>
      subst hrest
      exact ihrest.2 W done (i::seen) listed t a w hokrest b rel hf (.inr ⟨_,_,_,rfl⟩) H.2 j hj (by simp[hji,hjs])
  refine⟨fun W done listed t a w hok b rel hf H=> ?_,fun W done seen listed t a w hok b rel hf _ H=>B W done seen listed t a w hok b rel hf H⟩
  have hB:=B W done [] listed t a w hok b rel hf H
  have hr:i∈Region.ready .any ops listed:=by
   simp only[schOk,Bool.and_eq_true] at hok
   have hr:=hok.1.1
   unfold vW at hr
   rw[mA] at hr
   cases ho:ops.toList[i]? with
   |none=>simp[ho] at hr
   |some o=>
    simp only[ho,Bool.and_eq_true,Bool.not_eq_true'] at hr
    exact(gx b hlt i).2 ⟨o,by rw[←ho];simp,hr.1,hr.2⟩
  have hi:i<listed.size:=by
   obtain⟨o,ho,_⟩:=(gx b hlt i).1 hr
   rw[b.size];exact(Array.getElem?_eq_some_iff.1 ho).1
  have hcnt:=qD (listed:=listed) (i:=i) hi (mem_ready.1 hr).1
  cases hc:oR listed with
  |zero=>omega
  |succ k=>
   rw[hc] at hB
   exact⟨fun hnil=>(by rw[hnil] at hr;cases hr),fun j hj=>hB j hj (by simp)⟩
theorem KY (ops:Array Oper):Er ops 0 (Array.replicate ops.size false):=⟨by simp,fun i hi=>by simp[hi,has]⟩
theorem Hl (ops:Array Oper):oR (Array.replicate ops.size false)=ops.size:=by simp[oR]
theorem xK {ρ:Option Nat} {P:Program} {n:Nat} {id:Nat} {ops:Array Oper} {QI:Exit→Tm→ae→Prop} (hm:P.follows .mixedOrders=true) (hp:kf ops.toList=true) {s:Mv}
 (hok:schOk P ops s 0 []=true) {t:Tm} {a:Act} {w:World} (rel:nJ n t a) (H:xI P n ops.toList s [] (QI .normal) t w.heap):
 (Code.region id ops true).wpIn (Fl ρ) 0 P (tr n w QI) a w:=by
 refine wpIn_region_any hm (CS (W:=[]) _ _ _ _ ?_)
 have:=(KX (ρ:=ρ) (w0:=w) hp s).1 [] 0 (Array.replicate ops.size false) t a {w with drawn:=w.drawn+1} hok (KY ops) rel ⟨rfl,rfl,rfl⟩ H
 rw[Hl] at this
 exact this
theorem KZ {ρ:Option Nat} {P:Program} {n:Nat} {ops:Array Oper} {QI:Exit→Tm→ae→Prop} {w0:World} (hp:kf ops.toList=true): ∀(l:List Oper) (k:Nat),(∀j,l[j]? =ops[k+j]?)→ ∀(t:Tm) (a:Act) (w:World),
 nJ n t a→Fr w0 w→Oq P n ops.toList l (QI .normal) t w.heap→wpOpsIn (Fl ρ) 0 P ops (tr n w0 QI) (List.range' k l.length) a w:=by
 intro l
 induction l with
 |nil=>intro k _ t a w rel hf H;exact⟨trivial,t,rel,hf,H⟩
 |cons o r ih=>
  intro k hk t a w rel hf H
  have ho:ops[k]? =some o:=by have:=hk 0;simpa using this.symm
  rw[List.length_cons,List.range'_succ,wpOpsIn_cons]
  refine wpOpIn_mono (fun a' w' h=> ?_) (Mw ho (kg hp ho) rel H)
  obtain⟨_,t',rel',hf',H'⟩:=h
  exact ih (k+1) (fun j=>by have:=hk (j+1);simpa[Nat.add_assoc,Nat.add_comm 1] using this) t' a' w' rel' (hf.trans hf') H'
theorem F8 {ρ:Option Nat} {P:Program} {n:Nat} {id:Nat} {ops:Array Oper} {QI:Exit→Tm→ae→Prop} (hp:kf ops.toList=true)
 {t:Tm} {a:Act} {w:World} (rel:nJ n t a) (H:Oq P n ops.toList ops.toList (QI .normal) t w.heap):
 (Code.region id ops false).wpIn (Fl ρ) 0 P (tr n w QI) a w:=by
 refine wpIn_region ?_
 have:=KZ (ρ:=ρ) (w0:=w) hp ops.toList 0 (fun j=>by simp) t a w rel (Fr.refl w) H
 rw[Array.length_toList,←List.range_eq_range'] at this
 exact this
end Go.Sh
end
section
set_option linter.unusedVariables false
namespace Go.Sh
set_option linter.unusedSimpArgs false
inductive Sc where
 |int (k:IntKind)
 |bool|str|ptr|adr|slice|map|any
def Sc.T:Sc→Type
 | .int _=>Int
 | .bool=>Bool
 | .str=>ByteArray
 | .ptr=>Option Addr
 | .adr=>Addr
 | .slice=>Option Addr×Nat×Nat
 | .map=>Option Nat
 | .any=>Value
def Sc.mk:(s:Sc)→s.T→Value
 | .int k,n=> .int k n
 | .bool,b=> .bool b
 | .str,s=> .string s
 | .ptr,p=> .pointer p
 | .adr,a=> .pointer (some a)
 | .slice,x=> .slice x.1 x.2.1 x.2.2
 | .map,r=> .map r
 | .any,v=>v
def Sc.rd:(s:Sc)→Value→(s.T→Prop)→Prop
 | .int k,v,K=>match v with| .int k' n=>if k=k' then K n else False|_=>False
 | .bool,v,K=>match v with| .bool b=>K b|_=>False
 | .str,v,K=>match v with| .string s=>K s|_=>False
 | .ptr,v,K=>match v with| .pointer p=>K p|_=>False
 | .adr,v,K=>match v with| .pointer (some a)=>K a|_=>False
 | .slice,v,K=>match v with| .slice a l c=>K (a,l,c)|_=>False
 | .map,v,K=>match v with| .map r=>K r|_=>False
 | .any,v,K=>K v
theorem Sc.rd_mk: ∀(s:Sc) (v:Value) (K:s.T→Prop),s.rd v K→ ∃x,s.mk x=v∧K x:=by
 intro s v K h
 cases s<;>simp only[Sc.rd] at h
 case any=>exact⟨v,rfl,h⟩
 case int k=>
  split at h
  ·split at h
   ·rename_i hk;subst hk;exact⟨_,rfl,h⟩
   ·exact h.elim
  ·exact h.elim
 all_goals
  split at h
  ·exact⟨_,rfl,h⟩
  ·exact h.elim
def TS:List Sc→Type
 |[]=>Unit
 |s::r=>s.T×TS r
def aP:(l:List Sc)→TS l→List Value
 |[],_=>[]
 |s::r,x=>s.mk x.1::aP r x.2
def QG:(l:List Sc)→List Value→(TS l→Prop)→Prop
 |[],[],K=>K ()
 |s::r,v::vs,K=>s.rd v fun x=>QG r vs fun xs=>K (x,xs)
 |_,_,_=>False
theorem F9: ∀(l:List Sc) (vs:List Value) (K:TS l→Prop),QG l vs K→ ∃x,aP l x=vs∧K x
 |[],[],K,h=>⟨(),rfl,h⟩
 |[],_::_,_,h=>h.elim
 |_::_,[],_,h=>h.elim
 |s::r,v::vs,K,h=>by
  obtain⟨x,hx,h⟩:=s.rd_mk v _ h
  obtain⟨xs,hxs,h⟩:=F9 r vs _ h
  exact⟨(x,xs),by simp only[aP,hx,hxs],h⟩
inductive Ls where
 |sc (s:Sc)
 |ag (l:List Sc)
 |fn (f:Nat) (l m:List Sc)
def Ls.T:Ls→Type
 | .sc s=>s.T
 | .ag l=>TS l
 | .fn _ l m=>TS l×TS m
def Ls.mk:(s:Ls)→s.T→Value
 | .sc s,x=>s.mk x
 | .ag l,x=> .agg (aP l x).toArray
 | .fn f l m,x=> .func (.func f) (aP l x.1).toArray (aP m x.2).toArray
def Ls.rd:(s:Ls)→Value→(s.T→Prop)→Prop
 | .sc s,v,K=>s.rd v K
 | .ag l,v,K=>match v with| .agg cs=>QG l cs.toList K|_=>False
 | .fn f l m,v,K=>match v with
   | .func (.func g) a b=>match Nat.beq g f with
     |true=>QG l a.toList fun x=>QG m b.toList fun y=>K (x,y)
     |false=>False
   |_=>False
theorem Ls.rd_mk (s:Ls) (v:Value) (K:s.T→Prop) (h:s.rd v K): ∃x,s.mk x=v∧K x:=by
 cases s with
 |sc s=>exact s.rd_mk v K h
 |ag l=>
  simp only[Ls.rd] at h
  split at h
  ·obtain⟨x,hx,h⟩:=F9 l _ K h
   exact⟨x,by simp only[Ls.mk,hx],h⟩
  ·exact h.elim
 |fn f l m=>
  simp only[Ls.rd] at h
  split at h
  ·split at h
   ·rename_i g a b hg
    obtain⟨x,hx,h⟩:=F9 l _ _ h
    obtain⟨y,hy,h⟩:=F9 m _ _ h
    exact⟨(x,y),by simp only[Ls.mk,hx,hy,Nat.eq_of_beq_eq_true hg],h⟩
   ·exact h.elim
  ·exact h.elim
abbrev CT:=List (Nat×Ls)
def TL:CT→Type
 |[]=>Unit
 |x::r=>x.2.T×TL r
def xL:(l:CT)→TL l→Tm
 |[],_=>fun _=> .bot
 |x::r,s=>upd (xL r s.2) x.1 (.val (x.2.mk s.1))
def Rb (t:Tm) (i:Nat) (K:Value→Prop):Prop:=
 match t i with
 | .bot=>False
 | .mark _=>False
 | .known b=>K (.bool b)
 | .val v=>K v
def PP:(l:CT)→Tm→(TL l→Prop)→Prop
 |[],_,K=>K ()
 |x::r,t,K=>Rb t x.1 fun v=>x.2.rd v fun y=>PP r t fun ys=>K (y,ys)
theorem Bf: ∀(l:CT) (t:Tm) (K:TL l→Prop),PP l t K→ ∃s,K s∧ ∀i,xL l s i= .bot∨((xL l s i).v=(t i).v∧t i≠ .bot)
 |[],t,K,h=>⟨(),h,fun i=> .inl rfl⟩
 |x::r,t,K,h=>by
  simp only[PP,Rb] at h
  have key: ∀v,t x.1≠ .bot→(t x.1).v=v→(x.2.rd v fun y=>PP r t fun ys=>K (y,ys))→ ∃s,K s∧ ∀i,xL (x::r) s i= .bot∨((xL (x::r) s i).v=(t i).v∧t i≠ .bot):=by
   intro v hb hv h
   obtain⟨y,hy,h⟩:=x.2.rd_mk v _ h
   obtain⟨ys,hk,hys⟩:=Bf r t _ h
   refine⟨(y,ys),hk,fun i=> ?_⟩
   simp only[xL]
   by_cases hi:i=x.1
   ·right
    rw[hi,nj]
    exact⟨by rw[hv];exact hy,hb⟩
   ·rw[vU _ _ hi];exact hys i
  split at h
  ·exact h.elim
  ·exact h.elim
  ·rename_i b hb;exact key _ (by rw[hb];simp) (by rw[hb];rfl) h
  ·rename_i v hb;exact key _ (by rw[hb];simp) (by rw[hb];rfl) h
theorem Kf: ∀(l:CT) (s:TL l) (i:Nat),(xL l s i).ds=[]
 |[],_,_=>rfl
 |x::r,s,i=>by
  simp only[xL]
  by_cases h:i=x.1
  ·rw[h,nj];rfl
  ·rw[vU _ _ h];exact Kf r s.2 i
def K5 (n:Nat) (t:Tm) (K:Prop):Prop:=
 match t n with
 | .mark _=>False
 |_=>K
theorem ua {n:Nat} {t:Tm} {K:Prop} (h:K5 n t K):(t n).ds=[]∧K:=by
 unfold K5 at h
 split at h
 ·exact h.elim
 ·rename_i hn
  refine⟨?_,h⟩
  cases e:t n with
  |mark ds=>exact absurd e (hn ds)
  |_=>rfl
theorem nJ.emb {n:Nat} {t:Tm} {a:Act} (r:nJ n t a) (hn:(t n).ds=[]) {l:CT} {s:TL l} (h: ∀i,xL l s i= .bot∨((xL l s i).v=(t i).v∧t i≠ .bot)):nJ n (xL l s) a:=by
 refine⟨r.size,fun i=> ?_,by rw[Kf,r.dfs,hn]⟩
 rcases h i with h|⟨h,hb⟩
 ·exact .inl h
 ·right
  rcases r.at_ i with h'|h'
  ·exact absurd h' hb
  ·rw[h,h']
def ak {α:Type} (d:α):List (Nat×α)→Nat→α
 |[],_=>d
 |x::r,i=>match Nat.beq x.1 i with|true=>x.2|false=>ak d r i
structure cz where
 sch:Nat→Mv
 lp:Nat→CT
 jn:Nat→Option CT
 rf:Nat→List Ls:=fun _=>[]
def key:Code→Nat
 | .region id _ _=>id
 | .seq a _=>key a
 | .block _ c=>key c
 | .loop c=>key c
 | .scope c=>key c
 |_=>1000000
def K6 (N:Tm→ae→Prop) (Q:Exit→Tm→ae→Prop):Exit→Tm→ae→Prop
 | .normal,t,h=>N t h
 |e,t,h=>Q e t h
def QH (id:Nat) (Q:Exit→Tm→ae→Prop):Exit→Tm→ae→Prop
 | .exit id',t,h=>match Nat.beq id' id with|true=>Q .normal t h|false=>Q (.exit id') t h
 |e,t,h=>Q e t h
def Rq (Q:Exit→Tm→ae→Prop):Exit→Tm→ae→Prop
 | .goto _,_,_=>False
 |e,t,h=>Q e t h
def bB {S:Type} (B:(S→ae→Prop)→S→ae→Prop) (s:S) (h:ae):Prop:=
 ∃inv:Nat→S→ae→Prop,(∃n,inv n s h)∧ ∀n s h,inv n s h→B (fun s' h'=> ∃m,m<n∧inv m s' h') s h
def Oc:List Ls→Type
 |[]=>Unit
 |s::r=>s.T×Oc r
def Bb:(L:List Ls)→Oc L→List Value
 |[],_=>[]
 |s::r,x=>s.mk x.1::Bb r x.2
def MA (n:Nat):Tm→List Tmp→(L:List Ls)→Oc L→Tm
 |t,p::ps,s::r,x=>MA n (put n t (some p) (.val (s.mk x.1))) ps r x.2
 |t,_,_,_=>t
def vY (P:Program) (fv:Value) (L:List Ls) (round:Obj→Obj→Nat→Oc L→(ae→Prop)→ae→Prop) (h:ae) (K:Nat→ae→Prop):Prop:=
 ∃(gf:FuncId) (lb:Array Value),fv= .func (.func gf) #[] lb∧ ∀rdy busy exh:Obj,mB rdy=false→mB busy=false→mB exh=false→
  (∀(y:Oc L) (h1:ae) (K1:Value→ae→Prop),h1[h.size+1]? =some rdy→
   round rdy busy (h.size+1) y (fun h3=>h3[h.size+1]? =some busy∧K1 (.bool true) (h3.setIfInBounds (h.size+1) rdy)) h1→wd P (h.size+1) (Bb L y).toArray h1 K1)→
  aq P gf (#[.func (.yield (h.size+1)) #[] #[]]++lb) ((h.push (.deferred (some []))).push rdy) fun _ h3=>h3[h.size+1]? =some rdy∧K h.size (h3.setIfInBounds (h.size+1) exh)
def Pw:Exit→Tm→ae→Prop:=fun _ _ _=>False
def Rc (D:Nat):Deferred:={target:= .collected D,args:= #[]}
def I (P:Program) (n:Nat) (tb:cz):Code→(Exit→Tm→ae→Prop)→Tm→ae→Prop
 | .skip,Q,t,h=>Q .normal t h
 | .label _,Q,t,h=>Q .normal t h
 | .region id ops draw,Q,t,h=>match draw with
   |false=>Oq P n ops.toList ops.toList (Q .normal) t h
   |true=>xI P n ops.toList (tb.sch id) [] (Q .normal) t h
 | .seq a b,Q,t,h=>match tb.jn (key b) with
   |none=>I P n tb a (K6 (I P n tb b Q) Q) t h
   |some L=> ∃J:TL L→ae→Prop,(∀s h,J s h→I P n tb b Q (xL L s) h)∧I P n tb a (K6 (fun t h=>K5 n t (PP L t fun s=>J s h)) Q) t h
 | .cond c x y,Q,t,h=>match Md t c with
   | .known true=>I P n tb x Q t h
   | .known false=>I P n tb y Q t h
   | .val (.bool b)=>
     (b=true→I P n tb x Q (match c with| .tmp i=>upd t i (.known true)|_=>t) h)∧
     (b=false→I P n tb y Q (match c with| .tmp i=>upd t i (.known false)|_=>t) h)
   |_=>False
 | .block id c,Q,t,h=>I P n tb c (QH id Q) t h
 | .loop body,Q,t,h=>K5 n t (PP (tb.lp (key body)) t fun s=>
  bB (fun K s h=>I P n tb body (K6 (fun t' h'=>K5 n t' (PP (tb.lp (key body)) t' fun s'=>K s' h')) Q) (xL (tb.lp (key body)) s) h) s h)
 | .exit id,Q,t,h=>Q (.exit id) t h
 | .scope c,Q,t,h=>I P n tb c (Rq Q) t h
 | .ret,Q,t,h=>Q .ret t h
 | .rangeFunc g ps assign body,Q,t,h=>K5 n t (match Md t g with
   | .val fv=>match Nat.beq (tb.rf (key body)).length ps.size with
     |true=>vY P fv (tb.rf (key body)) (fun rdy busy l y R h1=>
      I P n tb assign (K6 (fun t' h2=>h2[l]? =some rdy∧I P n tb body (K6 (fun _ h3=>R h3) Pw) t' (h2.setIfInBounds l busy)) Pw) (MA n t ps.toList (tb.rf (key body)) y) h1) h
      fun D h'=>Q .normal (upd t n (.mark [Rc D])) h'
     |false=>False
   |_=>False)
 |_,_,_,_=>False
def qE:Code→Bool
 | .seq a b=>qE a&&qE b
 | .cond _ x y=>qE x&&qE y
 | .block _ c=>qE c
 | .loop c=>qE c
 | .scope c=>qE c
 | .rangeFunc .. =>false
 |_=>true
def ie (P:Program) (tb:cz):Code→Bool
 | .region id ops draw=>kf ops.toList&&(!draw||schOk P ops (tb.sch id) 0 [])
 | .seq a b=>ie P tb a&&ie P tb b
 | .cond _ x y=>ie P tb x&&ie P tb y
 | .block _ c=>ie P tb c
 | .loop c=>ie P tb c
 | .scope c=>ie P tb c
 | .rangeFunc _ _ a c=>ie P tb a&&ie P tb c&&qE a&&qE c
 |_=>true
theorem tr.mono {n:Nat} {w0 w1:World} {QI QI':Exit→Tm→ae→Prop} (hf:Fr w0 w1) (hq: ∀e t h,QI e t h→QI' e t h) (e:Exit) (a:Act) (w:World)
 (h:tr n w1 QI e a w):tr n w0 QI' e a w:=by
 obtain⟨h1,t,r,f,q⟩:=h
 exact⟨h1,t,r,hf.trans f,hq _ _ _ q⟩
theorem IR {F:Fence} {rm:Nat} {P:Program} {Q:Exit→Act→World→Prop} {a:Act} {w:World} {c:Code} (J:Nat→Act→World→Prop) (n₀:Nat) (h₀:J n₀ a w)
 (round: ∀n a w,J n a w→c.wpIn F rm P (Exit.then (fun a' w'=> ∃n',n'<n∧J n' a' w') Q) a w):(Code.loop c).wpIn F rm P Q a w:=by
 refine wpIn_loop (fun a w=> ∃n,J n a w) (fun a w=>leastOf (fun n=>J n a w)) ⟨n₀,h₀⟩ ?_
 intro a w hI
 refine wpIn_mono (round _ a w (leastOf_spec hI).1) ?_
 intro e a' w' hq
 cases e with
 |normal=>
  obtain⟨n',hlt,hI'⟩:=hq
  exact show(∃n,J n a' w')∧leastOf (fun n=>J n a' w')<leastOf (fun n=>J n a w) from⟨⟨n',hI'⟩,Nat.lt_of_le_of_lt ((leastOf_spec ⟨n',hI'⟩).2 n' hI') hlt⟩
 |exit id=>exact hq
 |goto l=>exact hq
 |ret=>exact hq
 |panic ch=>exact hq
 |outgrown=>exact hq
theorem iT {P:Program} {b:Frame} {a:Act} {k:List Item} {cs:List Frame} {w:World} {c:Code}:step P (lone (b.atR a (.code (.scope c)::k)) cs w)= .next (lone (b.atR a (.code c:: .inScope c::k)) cs w):=
 step_lone_go (by simp[stepG,stepG.exec,Frame.atR])
theorem CU {P:Program} {b:Frame} {a:Act} {k:List Item} {cs:List Frame} {w:World} {c:Code}:step P (lone (b.atR a (.inScope c::k)) cs w)= .next (lone (b.atR a k) cs w):=
 step_lone_go (by simp[stepG,stepG.exec,Frame.atR])
theorem uP {F:Fence} {rm:Nat} {P:Program} {Q:Exit→Act→World→Prop} {a:Act} {w:World} {c:Code} (h:c.wpIn F rm P (Exit.noGoto Q) a w):(Code.scope c).wpIn F rm P Q a w:=by
 intro b k cs hro hb hr
 have h0:(lone (b.atR a (.code (.scope c)::k)) cs w).fenced P F:=fenced_calm hb hr rfl
 obtain⟨e,a₁,w₁,hq,harr⟩:=h b (.inScope c::k) cs hro hb hr
 cases e with
 |normal=>exact⟨.normal,a₁,w₁,hq,.head h0 iT (StepsIn.trans harr (.one (fenced_calm hb hr rfl) CU))⟩
 |exit id=>
  have hx:exitTo id (.inScope c::k)=exitTo id k:=by simp[exitTo]
  exact⟨.exit id,a₁,w₁,hq,fun k' hk=> .head h0 iT (harr.1 k' (by rw[hx];exact hk)),
   fun hr' hk=>let ⟨k₁,h1,h2⟩:=harr.2 hr' (by rw[hx];exact hk);⟨k₁,h1,.head h0 iT h2⟩⟩
 |goto l=>exact hq.elim
 |ret=>exact⟨_,a₁,w₁,hq,.of_steps (.one h0 iT) harr⟩
 |panic ch=>exact⟨_,a₁,w₁,hq,.of_steps (.one h0 iT) harr⟩
 |outgrown=>exact⟨_,a₁,w₁,hq,.of_steps (.one h0 iT) harr⟩
theorem E6 {n:Nat}: ∀(ps:List Tmp) (L:List Ls) (y:Oc L) (t:Tm) (tmps:Array Value) (ds:List Deferred),nJ n t ⟨tmps,ds⟩→L.length=ps.length→
 nJ n (MA n t ps L y) ⟨(ps.zip (Bb L y)).foldl (fun tmps x=>tmps.setIfInBounds x.1 x.2) tmps,ds⟩
 |[],[],_,t,tmps,ds,r,_=>r
 |p::ps,s::L,y,t,tmps,ds,r,h=>by
  have r1:=r.put (some p) (.val (s.mk y.1)) (v:=s.mk y.1) rfl
  exact E6 ps L y.2 _ _ ds r1 (by simpa using h)
 |[],s::L,_,_,_,_,_,h=>by simp at h
 |p::ps,[],_,_,_,_,_,h=>by simp at h
theorem zY: ∀(L:List Ls) (y:Oc L),(Bb L y).length=L.length
 |[],_=>rfl
 |s::L,y=>by simp[Bb,zY L y.2]
theorem nJ.marked {n:Nat} {t:Tm} {a:Act} (r:nJ n t a) (ds:List Deferred):nJ n (upd t n (.mark ds)) {a with defers:=ds}:=by
 refine⟨r.size,fun i=> ?_,by rw[nj];rfl⟩
 by_cases h:i=n
 ·subst h
  right;rw[nj]
  show undef=a.tmps.getD i undef
  simp[r.size]
 ·rw[vU _ _ h];exact r.at_ i
def kW (fn:FuncId) (tmps:Array Value) (ps:Array Tmp) (assign body:Code) (D:Nat) (st:LoopState):Loop:={state:=st,pending:=none,fn,tmps,params:=ps,assign,body,defers:=D}
theorem Ou {P:Program} {n:Nat} {tb:cz} (hm:P.follows .mixedOrders=true): ∀(c:Code),ie P tb c=true→ ∀(ρ:Option Nat),(ρ=none∨qE c=true)→ ∀(QI:Exit→Tm→ae→Prop) (t:Tm) (a:Act) (w:World),
 nJ n t a→I P n tb c QI t w.heap→c.wpIn (Fl ρ) 0 P (tr n w QI) a w:=by
 intro c
 induction c with
 |skip=>intro _ ρ _ QI t a w r H;exact wpIn_skip ⟨trivial,t,r,Fr.refl w,H⟩
 |label l=>intro _ ρ _ QI t a w r H;exact wpIn_label ⟨trivial,t,r,Fr.refl w,H⟩
 |goto l=>intro _ ρ _ QI t a w r H;exact H.elim
 |refuse why=>intro _ ρ _ QI t a w r H;exact H.elim
 |exit id=>intro _ ρ _ QI t a w r H;exact wpIn_exit ⟨trivial,t,r,Fr.refl w,H⟩
 |ret=>intro _ ρ _ QI t a w r H;exact wpIn_ret ⟨trivial,t,r,Fr.refl w,H⟩
 |region id ops draw=>
  intro hok ρ _ QI t a w r H
  simp only[ie,Bool.and_eq_true] at hok
  cases draw with
  |false=>exact F8 hok.1 r H
  |true=>exact xK hm hok.1 (by simpa using hok.2) r H
 |rangeFunc g ps assign body iha ihb=>
  intro hok ρ hfl QI t a w r H
  rcases hfl with rfl|hfl
  rotate_left
  ·simp[qE] at hfl
  simp only[ie,Bool.and_eq_true] at hok
  obtain⟨⟨⟨oka,okb⟩,fla⟩,flb⟩:=hok
  simp only[I] at H
  obtain⟨hds,H⟩:=ua H
  have hdf:a.defers=[]:=by rw[r.dfs,hds]
  split at H
  rotate_left
  ·exact H.elim
  rename_i fv hfv
  cases hlen:Nat.beq (tb.rf (key body)).length ps.size with
  |false=>simp[hlen] at H
  |true=>
   simp only[hlen] at H
   have hlen:=Nat.eq_of_beq_eq_true hlen
   generalize tb.rf (key body)=L at H hlen
   obtain⟨gf,lb,rfl,H⟩:=H
   have hg:a.eval g= .func (.func gf) #[] lb:=by
    have:=r.ev (x:=g) (by
     cases g with
     |tmp i=>simp only[PQ];simp only[Md] at hfv;rw[hfv]
     |_=>rfl)
    rw[←this,hfv];rfl
   refine wpIn_rangeFunc ?_
   intro fn _
   obtain⟨W1,hW1⟩: ∃W1,(w.alloc (.deferred (some []))).alloc (.loop (kW fn a.tmps ps assign body w.heap.size .ready))=W1:=⟨_,rfl⟩
   have hh1:W1.heap=(w.heap.push (.deferred (some []))).push (.loop (kW fn a.tmps ps assign body w.heap.size .ready)):=by rw[←hW1];rfl
   have hf1:Fr w W1:=by rw[←hW1];exact⟨rfl,rfl,rfl⟩
   have H:=H (.loop (kW fn a.tmps ps assign body w.heap.size .ready)) (.loop (kW fn a.tmps ps assign body w.heap.size .busy)) (.loop (kW fn a.tmps ps assign body w.heap.size .exhausted)) rfl rfl rfl fun y h1 K1 hl hround w1 hw1=> ?_
   ·refine⟨w.heap.size+1,[Rc w.heap.size],W1,{target:= .fn (.func gf) lb,args:= #[.func (.yield (w.heap.size+1)) #[] #[]]},W1,gf,
     #[.func (.yield (w.heap.size+1)) #[] #[]]++lb,W1,?_,?_,fun _ _=>trivial,?_,(fun h=>by cases h),?_⟩
    ·rw[←hW1];exact run_enterLoop_outer _ _ _ _ _
    ·simp only[resolve,Deferred.ofValue,ba,bG]
     have e1:a.eval (.const (.func (.yield (w.heap.size+1)) #[] #[]))= .func (.yield (w.heap.size+1)) #[] #[]:=rfl
     simp only[hg]
     simp[go_sem,e1]
    ·simp only[invoke];exact H.1 W1
    ·refine callsIn_wide (n:=0).2 ((H.2 W1 hh1).mono ?_)
     rintro e w3 ⟨v,rfl,hf3,hl3,hk⟩
     have hend:=run_endLoop (P:=P) hl3 (by simp[kW])
     refine⟨none,_,hend,?_⟩
     have e1:({a with defers:=[Rc w.heap.size]++a.defers}:Act)={a with defers:=[Rc w.heap.size]}:=by rw[hdf];rfl
     rw[e1]
     exact⟨trivial,_,r.marked _,⟨(hf1.trans hf3).tape,(hf1.trans hf3).os,(hf1.trans hf3).output⟩,hk⟩
   ·
    subst hw1
    have hy:=run_yield (P:=P) (args:=(Bb L y).toArray) hl (by simp[kW,zY,hlen])
    refine⟨fn,_,assign,body,hy,roundIn_of_wpIn trivial ?_⟩
    have r0:nJ n t ⟨a.tmps,[]⟩:=⟨r.size,r.at_,hds.symm⟩
    have r1:=E6 ps.toList L y t a.tmps [] r0 (by simpa using hlen)
    have e1:(ps.zip (Bb L y).toArray).foldl (fun tmps x=>tmps.setIfInBounds x.1 x.2) a.tmps=(ps.toList.zip (Bb L y)).foldl (fun tmps x=>tmps.setIfInBounds x.1 x.2) a.tmps:=by
     rw[←Array.foldl_toList,Array.toList_zip]
    have e2:({tmps:=(ps.zip (Bb L y).toArray).foldl (fun tmps x=>tmps.setIfInBounds x.1 x.2) a.tmps,defers:=[]}:Act)=⟨(ps.toList.zip (Bb L y)).foldl (fun tmps x=>tmps.setIfInBounds x.1 x.2) a.tmps,[]⟩:=by rw[e1]
    have A:=iha oka (some (w.heap.size+1)) (.inr fla) _ _ _ w1 r1 hround
    have A:assign.wpIn (Fence.wide.inRound (w.heap.size+1)) 0 P _ ⟨(ps.toList.zip (Bb L y)).foldl (fun tmps x=>tmps.setIfInBounds x.1 x.2) a.tmps,[]⟩ w1:=A
    rw[←e2] at A
    refine wpIn_mono A fun e a2 w2 hp=> ?_
    obtain⟨_,t2,r2,f2,q2⟩:=hp
    cases e with
    |normal=>
     obtain⟨hl2,hb2⟩:=q2
     refine⟨_,run_beginRound hl2 rfl,?_⟩
     have B:=ihb okb (some (w.heap.size+1)) (.inr flb) _ t2 a2 (w2.putObj (w.heap.size+1) (.loop (kW fn a.tmps ps assign body w.heap.size .busy))) r2 hb2
     have B:body.wpIn (Fence.wide.inRound (w.heap.size+1)) 0 P _ a2 (w2.putObj (w.heap.size+1) (.loop (kW fn a.tmps ps assign body w.heap.size .busy))):=B
     refine wpIn_mono B fun e a3 w3 hp=> ?_
     obtain⟨_,t3,r3,f3,q3⟩:=hp
     cases e with
     |normal=>
      obtain⟨hl3,hk3⟩:=q3
      refine⟨_,_,run_endRound none hl3,_,rfl,?_,?_⟩
      ·have f2':Fr w1 (w2.putObj (w.heap.size+1) (.loop (kW fn a.tmps ps assign body w.heap.size .busy))):=⟨f2.tape,f2.os,f2.output⟩
       have:=f2'.trans f3
       exact⟨this.tape,this.os,this.output⟩
      ·exact hk3
     |exit id=>exact q3.elim
     |goto l=>exact q3.elim
     |ret=>exact q3.elim
     |panic ch=>exact q3.elim
     |outgrown=>exact q3.elim
    |exit id=>exact q2.elim
    |goto l=>exact q2.elim
    |ret=>exact q2.elim
    |panic ch=>exact q2.elim
    |outgrown=>exact q2.elim
 |seq x y ihx ihy=>
  intro hok ρ hfl QI t a w r H
  simp only[ie,Bool.and_eq_true] at hok
  have hfx:ρ=none∨qE x=true:=hfl.imp id fun h=>by simp only[qE,Bool.and_eq_true] at h;exact h.1
  have hfy:ρ=none∨qE y=true:=hfl.imp id fun h=>by simp only[qE,Bool.and_eq_true] at h;exact h.2
  simp only[I] at H
  have fin: ∀N:Tm→ae→Prop,(∀t a' w',nJ n t a'→Fr w w'→N t w'.heap→y.wpIn (Fl ρ) 0 P (tr n w QI) a' w')→I P n tb x (K6 N QI) t w.heap→
   (Code.seq x y).wpIn (Fl ρ) 0 P (tr n w QI) a w:=by
   intro N hN H
   refine wpIn_seq (wpIn_mono (ihx hok.1 ρ hfx _ t a w r H) fun e a' w' hp=> ?_)
   obtain⟨h1,t',r',f',q⟩:=hp
   cases e with
   |normal=>exact hN t' a' w' r' f' q
   |exit id=>exact⟨h1,t',r',f',q⟩
   |goto l=>exact⟨h1,t',r',f',q⟩
   |ret=>exact⟨h1,t',r',f',q⟩
   |panic ch=>exact h1.elim
   |outgrown=>exact h1.elim
  split at H
  ·exact fin _ (fun t' a' w' r' f' q=>wpIn_mono (ihy hok.2 ρ hfy QI t' a' w' r' q) fun e a2 w2 h2=>tr.mono f' (fun _ _ _ x=>x) e a2 w2 h2) H
  ·rename_i L hL
   obtain⟨J,hJ,H⟩:=H
   refine fin _ (fun t' a' w' r' f' q=> ?_) H
   obtain⟨hn,q⟩:=ua q
   obtain⟨s,hs,he⟩:=Bf L t' _ q
   exact wpIn_mono (ihy hok.2 ρ hfy QI _ a' w' (r'.emb hn he) (hJ s _ hs)) fun e a2 w2 h2=>tr.mono f' (fun _ _ _ x=>x) e a2 w2 h2
 |cond c x y ihx ihy=>
  intro hok ρ hfl QI t a w r H
  simp only[ie,Bool.and_eq_true] at hok
  have hfx:ρ=none∨qE x=true:=hfl.imp id fun h=>by simp only[qE,Bool.and_eq_true] at h;exact h.1
  have hfy:ρ=none∨qE y=true:=hfl.imp id fun h=>by simp only[qE,Bool.and_eq_true] at h;exact h.2
  simp only[I] at H
  have hne: ∀v,Md t c=v→v≠ .bot→(Md t c).v=a.eval c:=fun v hv hb=>r.ev (by
   cases c with
   |tmp i=>simp only[PQ];simp only[Md] at hv;cases h:t i<;>simp_all
   |_=>rfl)
  split at H
  ·rename_i hc
   exact wpIn_cond_true (by rw[←hne _ hc (by simp),hc];rfl) (ihx hok.1 ρ hfx QI t a w r H)
  ·rename_i hc
   exact wpIn_cond_false (by rw[←hne _ hc (by simp),hc];rfl) (ihy hok.2 ρ hfy QI t a w r H)
  ·rename_i b hc
   have hev:a.eval c= .bool b:=by rw[←hne _ hc (by simp),hc];rfl
   refine wpIn_cond_split hev (fun hb=> ?_) (fun hb=> ?_)
   ·have:=H.1 hb
    cases c with
    |tmp i=>subst hb;exact ihx hok.1 ρ hfx QI _ a w (r.known i true hc) this
    |const v=>exact ihx hok.1 ρ hfx QI _ a w r this
    |global g=>exact ihx hok.1 ρ hfx QI _ a w r this
    |func f=>exact ihx hok.1 ρ hfx QI _ a w r this
   ·have:=H.2 hb
    cases c with
    |tmp i=>subst hb;exact ihy hok.2 ρ hfy QI _ a w (r.known i false hc) this
    |const v=>exact ihy hok.2 ρ hfy QI _ a w r this
    |global g=>exact ihy hok.2 ρ hfy QI _ a w r this
    |func f=>exact ihy hok.2 ρ hfy QI _ a w r this
  ·exact H.elim
 |block id c ih=>
  intro hok ρ hfl QI t a w r H
  simp only[ie] at hok
  refine wpIn_block (wpIn_mono (ih hok ρ hfl _ t a w r H) fun e a' w' hp=> ?_)
  obtain⟨h1,t',r',f',q⟩:=hp
  cases e with
  |exit id'=>
   simp only[Exit.inBlock]
   simp only[QH] at q
   by_cases hid:id'=id
   ·subst hid
    simp only[Nat.beq_refl] at q
    rw[if_pos rfl];exact⟨trivial,t',r',f',q⟩
   ·have:Nat.beq id' id=false:=by
     cases hb:Nat.beq id' id with
     |false=>rfl
     |true=>exact absurd (Nat.eq_of_beq_eq_true hb) hid
    simp only[this] at q
    rw[if_neg hid];exact⟨trivial,t',r',f',q⟩
  |normal=>exact⟨h1,t',r',f',q⟩
  |goto l=>exact⟨h1,t',r',f',q⟩
  |ret=>exact⟨h1,t',r',f',q⟩
  |panic ch=>exact h1.elim
  |outgrown=>exact h1.elim
 |scope c ih=>
  intro hok ρ hfl QI t a w r H
  simp only[ie] at hok
  refine uP (wpIn_mono (ih hok ρ hfl _ t a w r H) fun e a' w' hp=> ?_)
  obtain⟨h1,t',r',f',q⟩:=hp
  cases e with
  |goto l=>exact q.elim
  |exit id=>exact⟨h1,t',r',f',q⟩
  |normal=>exact⟨h1,t',r',f',q⟩
  |ret=>exact⟨h1,t',r',f',q⟩
  |panic ch=>exact h1.elim
  |outgrown=>exact h1.elim
 |loop body ih=>
  intro hok ρ hfl QI t a w r H
  simp only[ie] at hok
  simp only[I] at H
  obtain⟨hn,H⟩:=ua H
  obtain⟨s,⟨inv,⟨m,hm0⟩,hround⟩,he⟩:=Bf _ t _ H
  refine IR (fun m a' w'=> ∃s,inv m s w'.heap∧nJ n (xL (tb.lp (key body)) s) a'∧Fr w w') m ⟨s,hm0,r.emb hn he,Fr.refl w⟩ ?_
  rintro m a' w' ⟨s,hs,r',f'⟩
  refine wpIn_mono (ih hok ρ hfl _ _ a' w' r' (hround m s _ hs)) fun e a2 w2 hp=> ?_
  obtain⟨h1,t2,r2,f2,q⟩:=hp
  cases e with
  |normal=>
   obtain⟨hn2,q⟩:=ua q
   obtain⟨s2,⟨m2,hlt,hi⟩,he2⟩:=Bf _ t2 _ q
   exact⟨m2,hlt,s2,hi,r2.emb hn2 he2,f'.trans f2⟩
  |exit id=>exact⟨h1,t2,r2,f'.trans f2,q⟩
  |goto l=>exact⟨h1,t2,r2,f'.trans f2,q⟩
  |ret=>exact⟨h1,t2,r2,f'.trans f2,q⟩
  |panic ch=>exact h1.elim
  |outgrown=>exact h1.elim
def IU:List Value→Nat→Tv
 |[],_=> .bot
 |x::_,0=> .val x
 |_::xs,n+1=>IU xs n
def QJ (args:List Value):Tm:=fun i=>IU args i
theorem Ga: ∀(l:List Value) (i:Nat),IU l i= .bot∨(∃v,l[i]? =some v∧IU l i= .val v)
 |[],_=> .inl rfl
 |x::_,0=> .inr ⟨x,rfl,rfl⟩
 |_::xs,n+1=>by simpa[IU] using Ga xs n
def Es (P:Program):List ResultVar→Tm→ae→(List Value→Prop)→Prop
 |[],_,_,K=>K []
 | .tmp i::r,t,h,K=>Rb t i fun v=>Es P r t h fun vs=>K (v::vs)
 | .cell a ty::r,t,h,K=>match t a with
   | .val (.pointer (some ad))=>CX P ty h ad fun v=>Es P r t h fun vs=>K (v::vs)
   |_=>False
def K7:List Value→Value
 |[v]=>v
 |vs=> .tuple vs.toArray
def CV (P:Program):List Deferred→ae→(ae→Prop)→Prop
 |[],h,K=>K h
 |d::ds,h,K=>match d.target with
  | .collected r=>h[r]? =some (.deferred (some []))∧CV P ds (h.setIfInBounds r (.deferred none)) K
  |_=>False
def Rs (P:Program) (n:Nat) (rs:List ResultVar) (Q:Value→ae→Prop):Exit→Tm→ae→Prop
 | .normal,t,h=>CV P (t n).ds h fun h'=>Es P rs t h' fun vs=>Q (K7 vs) h'
 | .ret,t,h=>CV P (t n).ds h fun h'=>Es P rs t h' fun vs=>Q (K7 vs) h'
 |_,_,_=>False
def R6 (P:Program) (fn:Func) (tb:cz) (args:List Value) (h:ae) (Q:Value→ae→Prop):Prop:=
 match fn.body,Nat.ble args.length fn.ntmps with
 |some c,true=>I P fn.ntmps tb c (Rs P fn.ntmps fn.results.toList Q) (QJ args) h
 |_,_=>False
def QK (P:Program) (fn:Func) (tb:cz):Bool:=
 match fn.body with
 |some c=>ie P tb c
 |none=>false
def Gb (a:Act):ResultVar→Sem Value
 | .tmp t=>pure (a.tmps.getD t undef)
 | .cell x ty=>do loadVar ty (←asAddr (a.tmps.getD x undef))
theorem CW {P:Program} {n:Nat}: ∀{rs:List ResultVar} {t:Tm} {a:Act} {w:World} {K:List Value→Prop},nJ n t a→Es P rs t w.heap K→
 ∃vs,K vs∧(rs.mapM (Gb a)).run P w= .ok vs w
 |[],t,a,w,K,r,H=>⟨[],H,rfl⟩
 | .tmp i::rs,t,a,w,K,r,H=>by
   simp only[Es,Rb] at H
   have key: ∀v,t i≠ .bot→(t i).v=v→(Es P rs t w.heap fun vs=>K (v::vs))→ ∃vs,K vs∧((ResultVar.tmp i::rs).mapM (Gb a)).run P w= .ok vs w:=by
    intro v hb hv h
    obtain⟨vs,hk,hr⟩:=CW r h
    refine⟨v::vs,hk,?_⟩
    have:a.tmps.getD i undef=v:=by
     rcases r.at_ i with h'|h'
     ·exact absurd h' hb
     ·rw[←h',hv]
    rw[List.mapM_cons,ba]
    have e:(Gb a (.tmp i)).run P w= .ok v w:=by simp only[Gb,this];rfl
    rw[e]
    simp only
    rw[ba,hr];rfl
   split at H
   ·exact H.elim
   ·exact H.elim
   ·rename_i b hb;exact key _ (by rw[hb];simp) (by rw[hb];rfl) H
   ·rename_i v hb;exact key _ (by rw[hb];simp) (by rw[hb];rfl) H
 | .cell x ty::rs,t,a,w,K,r,H=>by
   simp only[Es] at H
   split at H
   ·rename_i ad hx
    obtain⟨v,h,hl⟩:=Fa H
    obtain⟨vs,hk,hr⟩:=CW r h
    refine⟨v::vs,hk,?_⟩
    have:a.tmps.getD x undef= .pointer (some ad):=by
     rcases r.at_ x with h'|h'
     ·rw[hx] at h';cases h'
     ·rw[←h',hx];rfl
    rw[List.mapM_cons,ba]
    have e:(Gb a (.cell x ty)).run P w= .ok v w:=by
     simp only[Gb,this,ba]
     have:(asAddr (.pointer (some ad))).run P w= .ok ad w:=rfl
     rw[this]
     exact hl w (dY.refl _)
    rw[e]
    simp only
    rw[ba,hr];rfl
   ·exact H.elim
theorem IV {P:Program} {n:Nat} {fn:Func} {t:Tm} {a:Act} {w:World} {Q:Value→ae→Prop} (r:nJ n t a)
 (H:Es P fn.results.toList t w.heap fun vs=>Q (K7 vs) w.heap): ∃v,(results fn a.tmps).run P w= .ok v w∧Q v w.heap:=by
 obtain⟨vs,hk,hr⟩:=CW r H
 refine⟨K7 vs,?_,hk⟩
 have hg:(fun x:ResultVar=>match x with| .tmp t=>pure (a.tmps.getD t undef)| .cell x ty=>do loadVar ty (←asAddr (a.tmps.getD x undef)):ResultVar→Sem Value)=Gb a:=by
  funext x;cases x<;>rfl
 have e:(fn.results.mapM (Gb a)).run P w= .ok vs.toArray w:=by
  rw[Array.mapM_eq_mapM_toList,map_eq_pure_bind,ba,hr];rfl
 have e2:results fn a.tmps=(do let vs←fn.results.mapM (Gb a);pure (if h:vs.size=1 then vs[0] else .tuple vs)):=by
  rw[←hg];rfl
 rw[e2,ba,e]
 simp only
 rw[bG]
 congr 1
 match vs with
 |[]=>rfl
 |[v]=>rfl
 |v::u::r=>simp[K7]
theorem aA {P:Program} {f:FuncId} {fn:Func} {tb:cz} {args:List Value} {h:ae} {Q:Value→ae→Prop}
 (hm:P.follows .mixedOrders=true) (hf:P.funcs[f]? =some fn) (hc: ∀args w,(callFunc f args).run P w= .ok (.enter f args) w)
 (hok:QK P fn tb=true) (H:R6 P fn tb args h Q):aq P f args.toArray h Q:=by
 refine⟨hc _,fun w hw=> ?_⟩
 subst hw
 unfold R6 at H
 unfold QK at hok
 cases hb:fn.body with
 |none=>simp[hb] at H
 |some c=>
  cases hle:Nat.ble args.length fn.ntmps with
  |false=>simp[hb,hle] at H
  |true=>
   simp only[hb,hle] at H hok
   have hle:=Nat.le_of_ble_eq_true hle
   have rel:nJ fn.ntmps (QJ args) {tmps:=args.toArray++Array.replicate (fn.ntmps-args.toArray.size) undef,defers:=[]}:=by
    refine⟨by simp;omega,fun i=> ?_,?_⟩
    ·rcases Ga args i with h|⟨v,h1,h2⟩
     ·exact .inl h
     ·right
      have hi:i<args.length:=(List.getElem?_eq_some_iff.1 h1).1
      show(IU args i).v=_
      rw[h2]
      simp[Array.getElem?_append,hi,h1,Tv.v]
      exact(List.getElem?_eq_some_iff.1 h1).2.symm
    ·show []=(IU args fn.ntmps).ds
     rcases Ga args fn.ntmps with h|⟨v,_,h2⟩
     ·rw[h];rfl
     ·rw[h2];rfl
   have leave: ∀(ds:List Deferred) (t':Tm) (a':Act) (w':World),nJ fn.ntmps t' a'→Fr w w'→CV P ds w'.heap (fun h'=>Es P fn.results.toList t' h' fun vs=>Q (K7 vs) h')→
    LeavesInM Fence.wide 0 P fn a'.tmps (fun e w'=> ∃v,e= .returned v∧Fr w w'∧Q v w'.heap) ds .returning w':=by
    intro ds
    induction ds with
    |nil=>
     intro t' a' w' r' f' q
     obtain⟨v,hv,hq⟩:=IV r' q
     exact⟨v,hv,v,rfl,f',hq⟩
    |cons d ds ih=>
     intro t' a' w' r' f' q
     unfold CV at q
     cases hd:d.target with
     |collected r=>
      rw[hd] at q
      obtain⟨h1,h2⟩:=q
      exact⟨by simp,.inl ⟨r,_,hd,run_takeDeferred h1,ih t' a' (w'.putObj r (.deferred none)) r' ⟨f'.tape,f'.os,f'.output⟩ h2⟩⟩
     |_=>rw[hd] at q;exact q.elim
   refine callsIn_wide (n:=0).1 (callsIn_of_wp_marks hf hb trivial (wpIn_mono (Ou hm c hok none (.inl rfl) _ _ _ w rel H) fun e a' w' hp=> ?_))
   obtain⟨h1,t',r',f',q⟩:=hp
   cases e with
   |normal=>show LeavesInM _ _ _ _ _ _ a'.defers _ _;rw[r'.dfs];exact leave _ t' a' w' r' f' q
   |ret=>show LeavesInM _ _ _ _ _ _ a'.defers _ _;rw[r'.dfs];exact leave _ t' a' w' r' f' q
   |exit id=>exact q.elim
   |goto l=>exact q.elim
   |panic ch=>exact h1.elim
   |outgrown=>exact h1.elim
end Go.Sh
end
