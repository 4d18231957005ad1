/- Two plans of one content are the same (earshotref22.Same). -/
import Derived.Test.YtdhpmegbmjoekaaGreatDoorCPlan3
namespace Go.Proofs.YtdhpmegbmjoekaaGreatDoor.G
open Go Go.Sh
set_option linter.unusedVariables false
set_option linter.unusedSimpArgs false
theorem L0{g:ah}{b:Nat}{pv:Pv}(c: ∀j v,pv.cells[j]? =some v→aB g ⟨b,j,none⟩=some v)(j:Nat)(v:Value)(a:(aK bz pv.g.t)[j]? =some v):aB g (Addr.add ⟨b,0,none⟩ j)=some v:=by
 rw[aR,SN];refine c j v ?_;have e:pv.cells=aK bz pv.g.t++[pv.o.v,.slice pv.rp pv.rl pv.rc,.int .i64 pv.words,.int .i64 pv.macs,.int .u32 pv.hash]:=rfl;rw[e,WE (R8.1 a).1];exact a
theorem Sy{g:ah}{b:Nat}{pv:Pv}{K:TS bz→Prop}(a: ∀j v,pv.cells[j]? =some v→aB g ⟨b,j,none⟩=some v)(H:K pv.g.t):aT bz g ⟨b,0,none⟩ K:=
 Hc (x:=pv.g.t) (L0 a) H
section
variable {h:ah}
theorem JX{a:Addr}{rs:List Rn}{i:Nat}{x:Rn}(r:bD h (some a) (fu rs))(e:rs[i]? =some x):aB h (a.add (i*3))=some (.int .i64 x.pos)∧aB h ((a.add (i*3)).add 1)=some (.int .i64 x.width)∧aB h ((a.add (i*3)).add 2)=some (.int .i64 x.room):=by
 refine⟨r.cell (i:=i*3) (by have:=uV e (j:=0) (by omega);rw[We]at this;rw[this];rfl),?_,?_⟩
 all_goals
  rw[mh _ _ (by decide)];refine r.cell ?_;rw[uV e (by omega)];rfl
theorem OP{pv qv:Pv}(z:pv.g.ok)(A:qv.g.ok)(pn:bD h pv.g.p (aD pv.g.ns))(pr:(aM pv.g.ns).P h)(qn:bD h qv.g.p (aD qv.g.ns))(qr:(aM qv.g.ns).P h)(hl:pv.g.l<2 ^ 62)(sm: ∀n∈pv.g.ns,n.small)
 (y:pv.o.ok) (d:qv.o.ok) (ol:pv.o.l<2 ^ 62) (po:bD h pv.o.p (az pv.o.xs)) (qo:bD h qv.o.p (az qv.o.xs)) (rp:bD h pv.rp (fu pv.rs)) (rq:bD h qv.rp (fu qv.rs))
 (Q:pv.g.gr=qv.g.gr) (V:pv.o.xs=qv.o.xs) (G:pv.rs=qv.rs) (T:pv.rl=qv.rl) (rl:pv.rs.length=pv.rl) (rb:pv.rl<2 ^ 62) (W:pv.words=qv.words) (U:pv.macs=qv.macs) (R:pv.hash=qv.hash):
 au P lX #[pv.v,qv.v] h fun v X=>v= .bool true∧cd no h X:=by
 refine sg pv.t qv.t ?_;have S:=((((((((aG.start h no).read (row pv.g.p (aD pv.g.ns)) pn).read (aM pv.g.ns) pr).read (row qv.g.p (aD qv.g.ns)) qn).read (aM qv.g.ns) qr).read (row pv.o.p (az pv.o.xs)) po).read (row qv.o.p (az qv.o.xs)) qo).read (row pv.rp (fu pv.rs)) rp).read (row qv.rp (fu qv.rs)) rq;refine aA (cs:=pv.cells) S fun e _ _ S=> ?_;refine aA (cs:=qv.cells) S fun f h4 _ S=> ?_;refine Sy (pv:=pv) (fun j v w=>S.cell 0 rfl w) (Sy (pv:=qv) (fun j v w=>S.cell 1 rfl w) ?_);refine au.mono (Gu z A (S.ro 0) (S.rd 1) (S.ro 2) (S.rd 3) hl sm) ?_;rintro _ h7 ⟨b,rfl,Z,F⟩;have r:b=true:=Z.2 Q;replace S:=S.fra0 F;refine⟨_,rfl,ak (p:=pv.o.p) (l:=pv.o.l) (c:=pv.o.c) (S.c 0) (ak (p:=qv.o.p) (l:=qv.o.l) (c:=qv.o.c) (S.c 1) ?_)⟩;refine(JQ (S.ro 4) y.1 (S.ro 5) d.1 ol).mono ?_;rintro _ Y ⟨rfl,q⟩;subst q;rw[r,decide_eq_true V];refine⟨_,rfl,?_⟩;refine⟨fun s g=>s=(⟨e,0,none⟩,⟨f,0,none⟩,())∧aG h no g [aJ e pv.cells,aJ f qv.cells] [row pv.g.p (aD pv.g.ns),aM pv.g.ns,row qv.g.p (aD qv.g.ns),aM qv.g.ns,row pv.o.p (az pv.o.xs),row qv.o.p (az qv.o.xs),row pv.rp (fu pv.rs),row qv.rp (fu qv.rs)],?_,?_⟩
 ·clear S;rintro s g ⟨rfl,S⟩;refine aO (fun m s I=> ∃i:Nat,s=(⟨e,0,none⟩,⟨f,0,none⟩,(i:Int),())∧i≤pv.rl∧m=pv.rl-i∧aG h no I [aJ e pv.cells,aJ f qv.cells] [row pv.g.p (aD pv.g.ns),aM pv.g.ns,row qv.g.p (aD qv.g.ns),aM qv.g.ns,row pv.o.p (az pv.o.xs),row qv.o.p (az qv.o.xs),row pv.rp (fu pv.rs),row qv.rp (fu qv.rs)]) pv.rl ⟨0,rfl,by omega,rfl,S⟩ ?_;rintro m s I ⟨i,rfl,hi,rfl,S⟩;simp only[aR,SN];refine ak (p:=pv.rp) (l:=pv.rl) (c:=pv.rc) (S.c 0) (aq (fun ab=> ?_) (fun aa=> ?_))
  ·have u:i<pv.rs.length:=by omega
   have B:=S.ro 6;have C:=S.ro 7;obtain⟨x,H⟩: ∃x,pv.rs[i]? =some x:=⟨_,bo u⟩;obtain⟨a1,D⟩:=B.some_of (by rw[mq];omega);obtain⟨a2,E⟩:=C.some_of (by rw[mq,←G];omega);rw[D]at B;rw[E]at C;obtain⟨J,K,L⟩:=JX B H;obtain⟨M,N,O⟩:=JX C (G▸H);refine ak (p:=pv.rp) (l:=pv.rl) (c:=pv.rc) (S.c 0) (aC D rfl (by omega) ?_);refine ae J (ae K (ae L ?_));refine ak (p:=qv.rp) (l:=qv.rl) (c:=qv.rc) (S.c 1) (aC E rfl (by omega) ?_);refine ae M (ae N (ae O (bG (by simp) ?_)));rw[al (by omega)];exact⟨pv.rl-(i+1),by omega,i+1,rfl,by omega,rfl,S⟩
  ·refine ae (n:=pv.words) (S.c 0) (ae (n:=qv.words) (S.c 1) (aH (fun _=> ?_) (fun a=>absurd W a)));refine ae (n:=pv.macs) (S.c 0) (ae (n:=qv.macs) (S.c 1) (aH (fun _=> ?_) (fun a=>absurd U a)));exact ae (k:= .u32) (n:=pv.hash) (S.c 0) (ae (k:= .u32) (n:=qv.hash) (S.c 1) ⟨congrArg Value.bool (beq_iff_eq.2 R),S.fra⟩)
 ·refine bG rfl (bG rfl ?_);exact ak (p:=pv.rp) (l:=pv.rl) (c:=pv.rc) (S.c 0) (ak (p:=qv.rp) (l:=qv.rl) (c:=qv.rc) (S.c 1) (bh (fun a=>absurd (by rw[T]) a) (fun _=>⟨rfl,S⟩)))
