/- Two plans of one content are the same (earshotref22.Same). -/
import Derived.Test.YtdhpmegbmjoekaaGreatDoorCPlan3
import Derived.Test.YtdhpmegbmjoekaaGreatDoorCSameG
import Derived.Test.YtdhpmegbmjoekaaGreatDoorCTapeX4
namespace Go.Proofs.YtdhpmegbmjoekaaGreatDoor.G
open Go Go.Sh
set_option linter.unusedVariables false
set_option linter.unusedSimpArgs false
theorem C9 {g:af} {b:Nat} {pv:Pv} (c: ∀j v,pv.cells[j]? =some v→aD g ⟨b,j,none⟩=some v) (j:Nat) (v:Value) (a:(aL bT pv.g.t)[j]? =some v):aD g (Addr.add ⟨b,0,none⟩ j)=some v:=by
 rw[aQ,SI];refine c j v ?_;have e:pv.cells=aL bT pv.g.t++[pv.o.v,.slice pv.rp pv.rl pv.rc,.int .i64 pv.words,.int .i64 pv.macs,.int .u32 pv.hash]:=rfl;rw[e,VC (Pt.1 a).1];exact a
theorem N9 {g:af} {b:Nat} {pv:Pv} {K:TS bT→Prop} (a: ∀j v,pv.cells[j]? =some v→aD g ⟨b,j,none⟩=some v) (H:K pv.g.t):aT bT g ⟨b,0,none⟩ K:=
 H2 (x:=pv.g.t) (C9 a) H
theorem HC {g:af} {b k:Nat} {pv:Pv} {K:Prop} (a: ∀j v,pv.cells[j]? =some v→aD g ⟨b,j,none⟩=some v) (H:K):di (cf k ⟨b,0,none⟩ (aL bT pv.g.t) 0) g K:=
 H3 k (fun j v c=>by rw[SI];exact C9 a j v c) H
section
variable {h:af}
theorem ID {a:Addr} {rs:List Rn} {i:Nat} {x:Rn} (r:bI h (some a) (gZ rs)) (e:rs[i]? =some x):aD h (a.add (i*3))=some (.int .i64 x.pos)∧aD h ((a.add (i*3)).add 1)=some (.int .i64 x.width)∧aD h ((a.add (i*3)).add 2)=some (.int .i64 x.room):=by
 refine⟨r.cell (i:=i*3) (by have:=tK e (j:=0) (by omega);rw[Va] at this;rw[this];rfl),?_,?_⟩
 all_goals
  rw[rW _ _ (by decide)];refine r.cell ?_;rw[tK e (by omega)];rfl
theorem MD {pv qv:Pv} (A:pv.g.ok) (B:qv.g.ok) (pn:bI h pv.g.p (aF pv.g.ns)) (pr:(aU pv.g.ns).P h) (qn:bI h qv.g.p (aF qv.g.ns)) (qr:(aU qv.g.ns).P h) (hl:pv.g.l<2 ^ 62) (sm: ∀n∈pv.g.ns,n.small)
 (z:pv.o.ok) (d:qv.o.ok) (ol:pv.o.l<2 ^ 62) (po:bI h pv.o.p (az pv.o.xs)) (qo:bI h qv.o.p (az qv.o.xs)) (rp:bI h pv.rp (gZ pv.rs)) (rq:bI h qv.rp (gZ qv.rs))
 (R:pv.g.gr=qv.g.gr) (W:pv.o.xs=qv.o.xs) (H:pv.rs=qv.rs) (U:pv.rl=qv.rl) (rl:pv.rs.length=pv.rl) (rb:pv.rl<2 ^ 62) (X:pv.words=qv.words) (V:pv.macs=qv.macs) (T:pv.hash=qv.hash):
 au P rI #[pv.v,qv.v] h fun v Y=>v= .bool true∧cp no h Y:=by
 refine CD pv.t qv.t ?_;unfold D4;have S:=((((((((aJ.start h no).read (row pv.g.p (aF pv.g.ns)) pn).read (aU pv.g.ns) pr).read (row qv.g.p (aF qv.g.ns)) qn).read (aU qv.g.ns) qr).read (row pv.o.p (az pv.o.xs)) po).read (row qv.o.p (az qv.o.xs)) qo).read (row pv.rp (gZ pv.rs)) rp).read (row qv.rp (gZ qv.rs)) rq;refine aA (cs:=pv.cells) S fun e _ _ S=> ?_;refine aA (cs:=qv.cells) S fun f h4 _ S=> ?_;dsimp only[Xj,Xi] at S;refine N9 (pv:=pv) (fun j v y=>S.cell 0 rfl y) (N9 (pv:=qv) (fun j v y=>S.cell 1 rfl y) ?_);refine au.mono (NK A B (S.row 0 rfl) (S.r 1 _ rfl) (S.row 2 rfl) (S.r 3 _ rfl) hl sm) ?_;rintro _ h7 ⟨b,rfl,hb,F⟩;have u:b=true:=hb.2 R;replace S:=S.fra0 F;refine⟨_,rfl,ak (p:=pv.o.p) (l:=pv.o.l) (c:=pv.o.c) (S.cell 0 rfl rfl) (ak (p:=qv.o.p) (l:=qv.o.l) (c:=qv.o.c) (S.cell 1 rfl rfl) ?_)⟩;refine(PG (S.row 4 rfl) z.1 (S.row 5 rfl) d.1 ol).mono ?_;rintro _ Z ⟨rfl,q⟩;subst q;rw[u,decide_eq_true W];refine⟨_,rfl,?_⟩;refine⟨fun s g=>s=(⟨e,0,none⟩,⟨f,0,none⟩,())∧aJ h no g [blk e pv.cells,blk f qv.cells] [row pv.g.p (aF pv.g.ns),aU pv.g.ns,row qv.g.p (aF qv.g.ns),aU qv.g.ns,row pv.o.p (az pv.o.xs),row qv.o.p (az qv.o.xs),row pv.rp (gZ pv.rs),row qv.rp (gZ qv.rs)],?_,?_⟩
 ·clear S;rintro s g ⟨rfl,S⟩;unfold xd;dsimp only;refine aP (fun m s J=> ∃i:Nat,s=(⟨e,0,none⟩,⟨f,0,none⟩,(i:Int),())∧i≤pv.rl∧m=pv.rl-i∧aJ h no J [blk e pv.cells,blk f qv.cells] [row pv.g.p (aF pv.g.ns),aU pv.g.ns,row qv.g.p (aF qv.g.ns),aU qv.g.ns,row pv.o.p (az pv.o.xs),row qv.o.p (az qv.o.xs),row pv.rp (gZ pv.rs),row qv.rp (gZ qv.rs)]) pv.rl ⟨0,rfl,by omega,rfl,S⟩ ?_;clear S;rintro m s J ⟨i,rfl,hi,rfl,S⟩;unfold xc;dsimp only;simp only[aQ,SI];refine ak (p:=pv.rp) (l:=pv.rl) (c:=pv.rc) (S.cell 0 rfl rfl) (am (fun ab=> ?_) (fun aa=> ?_))
  ·have w:i<pv.rs.length:=by omega
   have C:=S.row 6 rfl;have D:=S.row 7 rfl;obtain⟨x,I⟩: ∃x,pv.rs[i]? =some x:=⟨_,aO w⟩;obtain⟨a1,E⟩:=C.some_of (by rw[mq];omega);obtain⟨a2,G⟩:=D.some_of (by rw[mq,←H];omega);rw[E] at C;rw[G] at D;obtain⟨K,L,M⟩:=ID C I;obtain⟨N,O,Q⟩:=ID D (H▸I);refine ak (p:=pv.rp) (l:=pv.rl) (c:=pv.rc) (S.cell 0 rfl rfl) (aB E rfl (by omega) ?_);simp only[oe];refine ae K (ae L (ae M ?_));refine ak (p:=qv.rp) (l:=qv.rl) (c:=qv.rc) (S.cell 1 rfl rfl) (aB G rfl (by omega) ?_);refine ae N (ae O (ae Q (bQ (by simp) ?_)));rw[al (by omega)];exact⟨pv.rl-(i+1),by omega,i+1,rfl,by omega,rfl,S⟩
  ·refine ae (n:=pv.words) (S.cell 0 rfl rfl) (ae (n:=qv.words) (S.cell 1 rfl rfl) (aH (fun _=> ?_) (fun a=>absurd X a)));refine ae (n:=pv.macs) (S.cell 0 rfl rfl) (ae (n:=qv.macs) (S.cell 1 rfl rfl) (aH (fun _=> ?_) (fun a=>absurd V a)));exact ae (k:= .u32) (n:=pv.hash) (S.cell 0 rfl rfl) (ae (k:= .u32) (n:=qv.hash) (S.cell 1 rfl rfl) ⟨congrArg Value.bool (beq_iff_eq.2 T),S.fra⟩)
 ·refine bQ rfl (bQ rfl ?_);exact ak (p:=pv.rp) (l:=pv.rl) (c:=pv.rc) (S.cell 0 rfl rfl) (ak (p:=qv.rp) (l:=qv.rl) (c:=qv.rc) (S.cell 1 rfl rfl) (bh (fun a=>absurd (by rw[U]) a) (fun _=>⟨rfl,S⟩)))
end
end Go.Proofs.YtdhpmegbmjoekaaGreatDoor.G

