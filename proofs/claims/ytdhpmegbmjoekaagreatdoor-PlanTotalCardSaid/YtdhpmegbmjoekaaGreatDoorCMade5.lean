/- Contracts: the document's graphs of plain numbers: Made (chapter 15). -/
import Derived.Test.YtdhpmegbmjoekaaGreatDoorCBuilt
namespace Go.Proofs.YtdhpmegbmjoekaaGreatDoor.G
open Go Go.Sh
set_option linter.unusedVariables false
set_option linter.unusedSimpArgs false
theorem yc {ins ws:List Int} {st:Bool} {n:Nd} (g:GoodN ins ws st n):n.inn=ins∨n.inn=ins.take 1:=by
 cases g<;>first|exact .inl rfl|exact .inr rfl
theorem qN {ins ws:List Int} {st:Bool} {n:Nd} (g:GoodN ins ws st n) {x:Int} (hx:x∈n.inn):x∈ins:=by
 rcases yc g with h|h
 ·rw[h] at hx;exact hx
 ·rw[h] at hx;exact List.mem_of_mem_take hx
theorem lS.inn {w0:Int} {ns:List Nd} {ws rs:List Int} (b:lS w0 ns ws rs): ∀n∈ns,∀x∈n.inn,0≤x∧x≤(ns.length:Int):=by
 induction b with
 |nil=>intro n hn;cases hn
 |snoc ns ws rs n w' r' b st ih=>
  intro m hm x hx
  rw[List.length_append,List.length_singleton]
  rcases List.mem_append.1 hm with hm|hm
  ·have:=ih m hm x hx;omega
  ·simp only[List.mem_singleton] at hm;subst hm
   obtain⟨ins,h12,hi,_,hg,_⟩:=st
   have:=hi x (qN hg hx)
   have:=b.len.1
   omega
def H2 (h:ae) (v:Value) (h':ae):Prop:=
 ∃gv:Gv,v=gv.v∧gv.ok∧Dz gv.gr∧(∀n∈gv.ns,n.inn.l≤2 ^ 20∧n.weights.l≤2 ^ 20∧n.bias.l≤2 ^ 20)∧aK h no h' [own 15 gv.p gv.l gv.c (aF gv.ns),aZ gv.ns] []
structure H3 where
 a:Nat
 q:Option Addr
 k:Nat
 d:Nat
 ns:List Nv
 wp:Option Addr
 wl:Nat
 wc:Nat
 ws:List Int
 rp:Option Addr
 rl:Nat
 rc:Nat
 rs:List Int
section
variable {h:ae} {r gb t2 l c:Nat} {p:Option Addr} {L:List Int} {w0 lo hi out:Int}
abbrev H3.fs (r gb t2:Nat) (p:Option Addr) (l c:Nat) (w0 lo hi out:Int) (m:H3):List bi:=
 [rP r p l c m.a,blk gb (⟨w0,lo,hi,m.q,m.k,m.d,out,[]⟩:Gv).cells,own 15 m.q m.k m.d (aF m.ns),aZ m.ns,own 1 m.wp m.wl m.wc (az m.ws),own 1 m.rp m.rl m.rc (az m.rs),blk t2 (aP bP (zT bP))]
def H3.ok (l:Nat) (w0:Int) (m:H3):Prop:=
 m.a≤l∧m.ns.length=m.k∧m.ws.length=m.wl∧m.rs.length=m.rl∧lS w0 (m.ns.map Nv.nd) m.ws m.rs∧ ∀n∈m.ns,n.ok∧n.inn.l≤2 ^ 20∧n.weights.l≤2 ^ 20∧n.bias.l≤2 ^ 20
theorem H3.len {m:H3} (ok:m.ok l w0):m.wl=m.k+1∧m.rl=m.k+1:=by
 obtain⟨_,h1,h2,h3,h4,_⟩:=ok
 have:=h4.len
 rw[List.length_map] at this
 omega
theorem pU (A:List Nv) (n:Nv):aZ (A++[n])=cA (A.map Nv.rows++[n.rows]):=by unfold aZ;rw[List.map_append];rfl
set_option maxHeartbeats 2000000 in
theorem Nu {g:ae} {m:H3} {ip wp2:Option Addr} {il ic wl2 wc2 dv a:Nat} {back:Bool} {ins:List Int}
 (ok:m.ok l w0) (hw0:dw w0 1 3) (hk:m.k<6) (hL:L.length=l) (hl:l<2 ^ 62)
 {K:((Addr×Addr×Addr×Bool×Int×(Option Addr×Nat×Nat)×(Option Addr×Nat×Nat)×Int×Unit))→ae→Prop} {Q:Value→ae→Prop}
 (S:aK h no g ([rP r p l c m.a,blk gb (⟨w0,lo,hi,m.q,m.k,m.d,out,[]⟩:Gv).cells,own 15 m.q m.k m.d (aF m.ns),aZ m.ns,own 1 m.wp m.wl m.wc (az m.ws),own 1 m.rp m.rl m.rc (az m.rs),blk t2 (aP bP (zT bP)),own 1 ip il ic (az ins),own 1 wp2 wl2 wc2 (az (ins.map (at_ m.ws)))]) [row p (az L)])
 (h12:ins.length=1∨ins.length=2) (hins: ∀x∈ins,0≤x∧x<(m.ws.length:Int)) (hrs: ∀x∈ins,at_ m.rs x=at_ m.rs (ins.getD 0 0)) (ha:ins.getD 0 0=(a:Int))
 (H: ∀(g:ae) (m':H3),m'.ok l w0→m'.k=m.k+1→aK h no g (m'.fs r gb t2 p l c w0 lo hi out) [row p (az L)]→K (⟨t2,0,none⟩,⟨r,0,none⟩,⟨gb,0,none⟩,back,(dv:Int),(m'.wp,m'.wl,m'.wc),(m'.rp,m'.rl,m'.rc),((m.k+2:Nat):Int),()) g):
 mY Q K ⟨t2,0,none⟩ ⟨r,0,none⟩ ⟨gb,0,none⟩ back (dv:Int) m.wp m.wl m.wc m.rp m.rl m.rc ((m.k+1:Nat):Int) (a:Int) ip il ic wp2 wl2 wc2 g:=by
 unfold mY
 obtain⟨hma,hnk,hwl,hrl,hb,hns⟩:=ok
 have hlen:=hb.len
 rw[List.length_map] at hlen
 have hrange:=hb.range (by omega)
 have hin0:(a:Int)∈ins:=by rw[←ha,dK (by omega)];exact List.getElem_mem _
 have ha2:=hins _ hin0
 have hal:a<m.rs.length:=by omega
 have eρ:at_ m.rs (a:Int)=m.rs[a]:=by unfold at_;rw[Int.toNat_natCast];exact dK hal
 have hρ:=hrange.2 m.rs[a] (List.getElem_mem _)
 have hpow:(3:Int) ^ (m.ns.map Nv.nd).length≤243:=by
  rw[List.length_map]
  have:(3:Nat) ^ m.ns.length≤3 ^ 5:=Nat.pow_le_pow_right (by decide) (by omega)
  have h2:=Int.ofNat_le.2 this
  rw[Int.natCast_pow,Int.natCast_pow] at h2
  exact Int.le_trans h2 (by decide)
 have hrow5:=(S.own 5 rfl).row
 obtain⟨ar,ear⟩:=hrow5.some_of (by rw[aB];omega)
 rw[ear] at hrow5
 refine aG ear rfl (by omega) ?_
 simp only[Int.toNat_natCast,Nat.mul_one]
 refine af (hrow5.cell (aN (List.getElem?_eq_getElem hal))) ?_
 have hil:=(kL (i:=7) S rfl).1
 have hwl2:=(kL (i:=8) S rfl).1
 dsimp only at hil hwl2
 have hwc2:wl2≤wc2:=(S.own 8 rfl).2.1
 have hwl2':wl2=ins.length:=by rw[←hwl2];simp
 have hfit:bo 1 16 (ins.map (at_ m.ws)):=Dy hins hrange.1
 refine(Ny (still:=(m.rs[a]==0)) ((S.into [0,7] [8] [0]).rowO 0) 1 0 rfl hL hma hl rfl hwl2 (by omega) (by omega) hfit).mono ?_
 rintro _ g2 ⟨nv,a',rfl,nok,n1,n2,n3,hgood,ha',S1⟩
 replace S:=S.back [0,7] S1
 dsimp only[bO,List.set] at S
 refine jQ nv.t ⟨rfl,?_⟩
 refine aC S fun b45 h1 _ S=> ?_
 refine cG S 9 rfl rfl (bC rfl) fun h2 _ S=> ?_
 dsimp only[List.set,List.cons_append,List.nil_append] at S
 refine am (p:=m.q) (l:=m.k) (c:=m.d) (S.cell 1 rfl rfl) ?_
 refine aQ S 9 rfl (x:=nv.t) rfl ?_
 refine aC S fun b50 h3 _ S=> ?_
 dsimp only[List.set,List.cons_append,List.nil_append] at S
 refine dI S 2 (ys:=nv.cells) rfl rfl (by decide) (by omega) (bT.of_at (S.at 10 rfl)) rfl (bC rfl) fun q' k' d' h4 hk' S=> ?_
 dsimp only[List.set] at S
 refine aJ S 1 rfl (k:=3) (Nat.le_of_ble_eq_true rfl) fun h5 _ S=> ?_
 dsimp only[List.set] at S
 have S2:aK h no h5 [rP r p l c a',blk gb (⟨w0,lo,hi,q',k',d',out,[]⟩:Gv).cells,own 15 q' k' d' (aF m.ns++nv.cells),aZ m.ns,own 1 m.wp m.wl m.wc (az m.ws),own 1 m.rp m.rl m.rc (az m.rs),blk t2 (aP bP (zT bP)),nv.rows,own 1 wp2 wl2 wc2 (az (ins.map (at_ m.ws))),blk b45 nv.cells] [row p (az L)]:=S.pw [0,1,2,3,4,5,6,7,8,9]
 clear S
 have S:=S2
 clear S2
 refine aQ S 9 rfl (x:=nv.t) rfl ?_
 refine am (p:=nv.inn.p) (l:=nv.inn.l) (c:=nv.inn.c) (S.cell 9 rfl rfl) ?_
 have hinl:nv.inn.l=nv.nd.inn.length:=nok.1.1.symm
 have hinle:nv.nd.inn.length≤ins.length:=by
  rcases yc hgood with e|e<;>rw[e]
  ·exact Nat.le_refl _
  ·rw[List.length_take];omega
 refine ja (n:=nv.inn.l) rfl (by omega) ?_
 rw[show(if wc2=0 then wp2 else Option.map (fun a=>Addr.add a 0) wp2)=wp2 from Rx wc2 1 wp2]
 have hwrow:bT h5 wp2 (az ((ins.map (at_ m.ws)).take nv.nd.inn.length)):=by rw[←ud];exact(S.own 8 rfl).row.take _
 refine(IH nok (S.w 7 _ rfl) (by omega) (by omega) (by omega) hwrow (by rw[List.length_take,List.length_map];omega) (by omega)).mono ?_
 rintro _ g6 ⟨rfl,F⟩
 refine⟨_,rfl,?_⟩
 replace S:=S.fra0 F
 have hgc:=Dx hgood (by simp) h12 hfit
 generalize hw':nv.nd.wid ((ins.map (at_ m.ws)).take nv.nd.inn.length)=w' at hgc ⊢
 refine aC S (fun b60 _ _ S=> ?_)
 dsimp only[List.cons_append,List.nil_append] at S
 refine dI S 4 (ys:=az [w']) rfl rfl (by decide) (by omega) (bT.of_at (S.at 10 rfl)) rfl gO fun wp' wl' wc' h7 hwl' S=> ?_
 dsimp only[List.set] at S
 have ei: ∀(A:List Int) (x:Int),az A++az [x]=az (A++[x]):=fun A x=>by simp[az]
 rw[ei] at S
 refine eW S 9 rfl rfl ?_
 have hrow5:=(S.own 5 rfl).row
 rw[ear] at hrow5
 refine aG ear rfl (by omega) ?_
 refine aQ S 9 rfl (x:=nv.t) rfl (af (hrow5.cell (aN (List.getElem?_eq_getElem hal))) ?_)
 refine aC S (fun b67 _ _ S=> ?_)
 dsimp only[List.cons_append,List.nil_append] at S
 have hst:dD nv.nd.kind→0≤nv.nd.step∧nv.nd.step≤3:=by
  intro hf
  have hg2:=hgood
  generalize (m.rs[a]==0)=st at hg2
  generalize nv.nd=nd at hg2 hf
  cases hg2 with
  |conv width size step gap left right ww bb hwin=>exact⟨by have:=hwin.2.1;show 0≤step;omega,by have:=hwin.2.1;show step≤3;omega⟩
  |depth size step gap left right ww bb hwin=>exact⟨by have:=hwin.2.1;show 0≤step;omega,by have:=hwin.2.1;show step≤3;omega⟩
  |pool k size step gap left right hk hwin=>exact⟨by have:=hwin.2.1;show 0≤step;omega,by have:=hwin.2.1;show step≤3;omega⟩
  |_=>exact absurd hf (by dsimp only;decide)
 have g1:[m.rs[a]].getD 0 0=m.rs[a]:=rfl
 refine(KV (nv:=nv) (l:=1) (rs:=[m.rs[a]]) (bT.of_at (S.at 11 rfl)) rfl (by decide) (by decide) (by rw[g1];omega) (fun hf=>by have:=hst hf;exact⟨this.1,by have h2:nv.step≤3:=this.2;omega⟩)).mono ?_
 rintro _ g8 ⟨rfl,F⟩
 refine⟨_,rfl,?_⟩
 replace S:=S.fra0 F
 generalize hr':cd nv.nd [m.rs[a]]=r'
 refine aC S (fun b71 _ _ S=> ?_)
 dsimp only[List.cons_append,List.nil_append] at S
 refine dI S 5 (ys:=az [r']) rfl rfl (by decide) (by omega) (bT.of_at (S.at 12 rfl)) rfl gO fun rp' rl' rc' h9 hrl' S=> ?_
 dsimp only[List.set] at S
 rw[ei] at S
 refine eW S 9 rfl rfl ?_
 rw[al (by omega)]
 have S3:=S.joinR [0,1,2,4,5,6] 3 7 rfl rfl
 dsimp only[Sh.pick,List.getElem?_cons_zero,List.getElem?_cons_succ,List.cons_append,List.nil_append] at S3
 refine H h9 ⟨a',q',k',d',m.ns++[nv],wp',wl',wc',m.ws++[w'],rp',rl',rc',m.rs++[r']⟩ ⟨ha',by simp;omega,by simp;omega,by simp;omega,?_,?_⟩ (by show k'=_;omega) ?_
 ·show lS w0 ((m.ns++[nv]).map Nv.nd) (m.ws++[w']) (m.rs++[r'])
  rw[List.map_append]
  refine .snoc _ _ _ _ _ _ hb ⟨ins,h12,hins,hrs,?_,hw'.symm,?_⟩
  ·rw[ha,eρ]
   have:decide (m.rs[a]=0)=(m.rs[a]==0):=by rw[Bool.eq_iff_iff,decide_eq_true_iff,beq_iff_eq]
   rw[this];exact hgood
  ·rw[ha,eρ];exact hr'.symm
 ·intro n hn
  rcases List.mem_append.1 hn with hn|hn
  ·exact hns n hn
  ·simp only[List.mem_singleton] at hn;subst hn
   exact⟨nok,n1,n2,n3⟩
 ·have e1:aF (m.ns++[nv])=aF m.ns++nv.cells:=by rw[jX];simp[aF]
  show aK h no h9 [rP r p l c a',blk gb (⟨w0,lo,hi,q',k',d',out,[]⟩:Gv).cells,own 15 q' k' d' (aF (m.ns++[nv])),aZ (m.ns++[nv]),own 1 wp' wl' wc' (az (m.ws++[w'])),own 1 rp' rl' rc' (az (m.rs++[r'])),blk t2 (aP bP (zT bP))] [row p (az L)]
  rw[e1,pU]
  exact S3.pw [0,1,2,6,3,4,5]
theorem Dw {xs:List Int} {i:Nat} (h:i<xs.length):at_ xs (i:Int)=xs[i]:=by unfold at_;rw[Int.toNat_natCast];exact dK h
set_option maxHeartbeats 1000000 in
theorem Nw {g:ae} {m:H3} {dv a:Nat} {back:Bool} (ok:m.ok l w0) (hw0:dw w0 1 3) (hk:m.k<6) (hL:L.length=l) (hl:l<2 ^ 62)
 {K:((Addr×Addr×Addr×Bool×Int×(Option Addr×Nat×Nat)×(Option Addr×Nat×Nat)×Int×Unit))→ae→Prop} {Q:Value→ae→Prop}
 (S:aK h no g (m.fs r gb t2 p l c w0 lo hi out) [row p (az L)]) (ha:a≤m.k)
 (H: ∀(g:ae) (m':H3),m'.ok l w0→m'.k=m.k+1→aK h no g (m'.fs r gb t2 p l c w0 lo hi out) [row p (az L)]→K (⟨t2,0,none⟩,⟨r,0,none⟩,⟨gb,0,none⟩,back,(dv:Int),(m'.wp,m'.wl,m'.wc),(m'.rp,m'.rl,m'.rc),((m.k+2:Nat):Int),()) g):
 mZ Q K ⟨t2,0,none⟩ ⟨r,0,none⟩ ⟨gb,0,none⟩ back (dv:Int) m.wp m.wl m.wc m.rp m.rl m.rc ((m.k+1:Nat):Int) (a:Int) g:=by
 unfold mZ
 have hlen:=H3.len ok
 have ok':=ok
 obtain⟨hma,hnk,hwl,hrl,hb,hns⟩:=ok'
 have haw:a<m.ws.length:=by omega
 have har:a<m.rs.length:=by omega
 refine aC S (fun b30 _ _ S=> ?_)
 dsimp only[List.cons_append,List.nil_append] at S
 have hrow4:=(S.own 4 rfl).row
 obtain⟨aw,eaw⟩:=hrow4.some_of (by rw[aB];omega)
 rw[eaw] at hrow4
 refine aG eaw rfl (by omega) ?_
 simp only[Int.toNat_natCast,Nat.mul_one]
 refine af (hrow4.cell (aN (List.getElem?_eq_getElem haw))) ?_
 refine aC S (fun b34 _ _ S=> ?_)
 dsimp only[List.cons_append,List.nil_append] at S
 replace S:=S.toOwn 7 1 1 1 rfl (Nat.le_refl _)
 replace S:=S.toOwn 8 1 1 1 rfl (Nat.le_refl _)
 dsimp only[List.set,List.take] at S
 refine(cF S 0 0 rfl rfl hL hma hl (m.k+1) (by omega) (by omega)).mono ?_
 rintro _ g2 ⟨b,a2,rfl,hb2,ha2,S⟩
 refine⟨_,rfl,?_⟩
 dsimp only[List.set] at S ⊢
 have hbw:b<m.ws.length:=by omega
 have hbr:b<m.rs.length:=by omega
 refine⟨fun s g=> ∃(a':Nat) (ip wp2:Option Addr) (il ic wl2 wc2:Nat) (ins:List Int),s=(⟨t2,0,none⟩,⟨r,0,none⟩,⟨gb,0,none⟩,back,(dv:Int),(m.wp,m.wl,m.wc),(m.rp,m.rl,m.rc),((m.k+1:Nat):Int),(a:Int),(ip,il,ic),(wp2,wl2,wc2),())∧a'≤l∧
  (ins.length=1∨ins.length=2)∧(∀x∈ins,0≤x∧x<(m.ws.length:Int))∧(∀x∈ins,at_ m.rs x=at_ m.rs (ins.getD 0 0))∧ins.getD 0 0=(a:Int)∧
  aK h no g ([rP r p l c a',blk gb (⟨w0,lo,hi,m.q,m.k,m.d,out,[]⟩:Gv).cells,own 15 m.q m.k m.d (aF m.ns),aZ m.ns,own 1 m.wp m.wl m.wc (az m.ws),own 1 m.rp m.rl m.rc (az m.rs),blk t2 (aP bP (zT bP)),own 1 ip il ic (az ins),own 1 wp2 wl2 wc2 (az (ins.map (at_ m.ws)))]) [row p (az L)],?_,?_⟩
 ·rintro s g ⟨a',ip,wp2,il,ic,wl2,wc2,ins,rfl,ha',h12,hins,hrs,h0,S⟩
  exact Nu (m:={m with a:=a'}) ⟨ha',hnk,hwl,hrl,hb,hns⟩ hw0 hk hL hl S h12 hins hrs h0 H
 ·have one: ∀g a',a'≤l→aK h no g ([rP r p l c a',blk gb (⟨w0,lo,hi,m.q,m.k,m.d,out,[]⟩:Gv).cells,own 15 m.q m.k m.d (aF m.ns),aZ m.ns,own 1 m.wp m.wl m.wc (az m.ws),own 1 m.rp m.rl m.rc (az m.rs),blk t2 (aP bP (zT bP)),own 1 (some ⟨b30,0,none⟩) 1 1 (az [(a:Int)]),own 1 (some ⟨b34,0,none⟩) 1 1 (az [m.ws[a]])]) [row p (az L)]→
   ∃(a':Nat) (ip wp2:Option Addr) (il ic wl2 wc2:Nat) (ins:List Int),(((⟨t2,0,none⟩:Addr),(⟨r,0,none⟩:Addr),(⟨gb,0,none⟩:Addr),back,(dv:Int),(m.wp,m.wl,m.wc),(m.rp,m.rl,m.rc),((m.k+1:Nat):Int),(a:Int),(some (⟨b30,0,none⟩:Addr),1,1),(some (⟨b34,0,none⟩:Addr),1,1),()):Addr×Addr×Addr×Bool×Int×(Option Addr×Nat×Nat)×(Option Addr×Nat×Nat)×Int×Int×(Option Addr×Nat×Nat)×(Option Addr×Nat×Nat)×Unit)=(⟨t2,0,none⟩,⟨r,0,none⟩,⟨gb,0,none⟩,back,(dv:Int),(m.wp,m.wl,m.wc),(m.rp,m.rl,m.rc),((m.k+1:Nat):Int),(a:Int),(ip,il,ic),(wp2,wl2,wc2),())∧a'≤l∧
   (ins.length=1∨ins.length=2)∧(∀x∈ins,0≤x∧x<(m.ws.length:Int))∧(∀x∈ins,at_ m.rs x=at_ m.rs (ins.getD 0 0))∧ins.getD 0 0=(a:Int)∧
   aK h no g ([rP r p l c a',blk gb (⟨w0,lo,hi,m.q,m.k,m.d,out,[]⟩:Gv).cells,own 15 m.q m.k m.d (aF m.ns),aZ m.ns,own 1 m.wp m.wl m.wc (az m.ws),own 1 m.rp m.rl m.rc (az m.rs),blk t2 (aP bP (zT bP)),own 1 ip il ic (az ins),own 1 wp2 wl2 wc2 (az (ins.map (at_ m.ws)))]) [row p (az L)]:=
   fun g a' ha' S=>⟨a',some ⟨b30,0,none⟩,some ⟨b34,0,none⟩,1,1,1,1,[(a:Int)],rfl,ha',.inl rfl,(by intro x hx;simp at hx;subst hx;omega),(by intro x hx;simp at hx;subst hx;rfl),rfl,by
    have:[(a:Int)].map (at_ m.ws)=[m.ws[a]]:=by rw[List.map_cons,List.map_nil,Dw haw]
    rw[this];exact S⟩
  refine(cF S 0 0 rfl rfl hL ha2 hl 3 (by omega) (by omega)).mono ?_
  rintro _ g3 ⟨x3,a3,rfl,hx3,ha3,S⟩
  refine⟨_,rfl,?_⟩
  dsimp only[List.set] at S ⊢
  refine aO (fun _=> ?_) (fun _=>one _ a3 ha3 S)
  have hrow5:=(S.own 5 rfl).row
  obtain⟨ar,ear⟩:=hrow5.some_of (by rw[aB];omega)
  rw[ear] at hrow5
  refine aG ear rfl (by omega) (aG ear rfl (by omega) ?_)
  simp only[Int.toNat_natCast,Nat.mul_one]
  refine af (hrow5.cell (aN (List.getElem?_eq_getElem hbr))) (af (hrow5.cell (aN (List.getElem?_eq_getElem har))) ?_)
  refine aO (fun hab=> ?_) (fun _=>one _ a3 ha3 S)
  have ei: ∀(A:List Int) (x:Int),az A++az [x]=az (A++[x]):=fun A x=>by simp[az]
  refine aC S (fun b81 _ _ S=> ?_)
  dsimp only[List.cons_append,List.nil_append] at S
  refine dI S 7 (ys:=az [(b:Int)]) rfl rfl (by decide) (by decide) (bT.of_at (S.at 9 rfl)) rfl gO fun ip' il' ic' h7 hil' S=> ?_
  dsimp only[List.set] at S
  have hrow4:=(S.own 4 rfl).row
  rw[eaw] at hrow4
  refine aG eaw rfl (by omega) ?_
  refine af (hrow4.cell (aN (List.getElem?_eq_getElem hbw))) ?_
  refine aC S (fun b87 _ _ S=> ?_)
  dsimp only[List.cons_append,List.nil_append] at S
  refine dI S 8 (ys:=az [m.ws[b]]) rfl rfl (by decide) (by decide) (bT.of_at (S.at 10 rfl)) rfl gO fun wp' wl' wc' h8 hwl' S=> ?_
  dsimp only[List.set] at S
  refine⟨a3,ip',wp',il',ic',wl',wc',[(a:Int),(b:Int)],rfl,ha3,.inr rfl,?_,?_,rfl,?_⟩
  ·intro x hx;simp at hx;rcases hx with rfl|rfl<;>omega
  ·intro x hx
   have e0:[(a:Int),(b:Int)].getD 0 0=(a:Int):=rfl
   rw[e0]
   simp at hx
   rcases hx with rfl|rfl
   ·rfl
   ·rw[Dw hbr,Dw har];exact hab
  ·have:[(a:Int),(b:Int)].map (at_ m.ws)=[m.ws[a],m.ws[b]]:=by rw[List.map_cons,List.map_cons,List.map_nil,Dw haw,Dw hbw]
   rw[this]
   exact S.pw [0,1,2,3,4,5,6,7,8]
theorem H4 {g:ae} {m:H3} {back:Bool} (ok:m.ok l w0) (hw0:dw w0 1 3) (hlo:dw lo (-199) 0) (hhi:dw hi 0 199) (hk1:1≤m.k) (hk:m.k≤6) (ho:dw out 1 m.k) (S:aK h no g (m.fs r gb t2 p l c w0 lo hi out) [row p (az L)]):
 aL back (aX bP g ⟨gb,0,none⟩ fun x101=>aq P go #[bz bP x101] g fun v103 h102=>E3 bP fun x104=>v103=bz bP x104∧bt (aP bP x104) h102 ⟨t2,0,none⟩ 0 fun h105=>aX bP h105 ⟨t2,0,none⟩ fun x106=>H2 h (bz bP x106) h105)
  (aX bP g ⟨gb,0,none⟩ fun x107=>bt (aP bP x107) g ⟨t2,0,none⟩ 0 fun h108=>aX bP h108 ⟨t2,0,none⟩ fun x109=>H2 h (bz bP x109) h108):=by
 obtain⟨hma,hnk,hwl,hrl,hb,hns⟩:=ok
 have hgl:((m.ns.map Nv.nd).length:Int)=m.k:=by rw[List.length_map];omega
 have hml:(m.ns.map Nv.nd).length=m.k:=by rw[List.length_map];omega
 generalize hgv:(⟨w0,lo,hi,m.q,m.k,m.d,out,m.ns⟩:Gv)=gv
 have egr:gv.gr=⟨w0,lo,hi,m.ns.map Nv.nd,out⟩:=by rw[←hgv];rfl
 have ew:gv.gr.width=w0:=by rw[egr]
 have el:gv.gr.low=lo:=by rw[egr]
 have eh:gv.gr.high=hi:=by rw[egr]
 have mk: ∀g':Gr,g'.width=w0→g'.low=lo→g'.high=hi→(g'=gv.gr∨g'=gv.gr.turned)→Dz g':=fun g' e1 e2 e3 h=>
  ⟨m.ns.map Nv.nd,m.ws,m.rs,out,by rw[e1];exact hw0,by rw[e2];exact hlo,by rw[e3];exact hhi,by omega,by omega,by rw[e1];exact hb,by rw[hml];exact ho,by rw[e1,e2,e3,←egr];exact h⟩
 refine tz (fun _=> ?_) (fun _=> ?_)
 ·refine aQ S 1 rfl (x:=gv.t) (by rw[←hgv];rfl) ?_
  have P0:=S.into [2,3] [] []
  dsimp only[Sh.pick,List.getElem?_cons_zero,List.getElem?_cons_succ,List.nil_append] at P0
  have P1:aK g (MX [own 15 m.q m.k m.d (aF m.ns),aZ m.ns]) g [own 15 gv.p gv.l gv.c (aF gv.ns),aZ gv.ns] []:=by rw[←hgv];exact P0
  refine(NA P1 (fun n hn=>(hns n (by rw[←hgv] at hn;exact hn)).1) (by rw[←hgv];show m.k≤100;omega) (by rw[←hgv];exact hnk) (fun n hn=>(hns n (by rw[←hgv] at hn;exact hn)).2) ?_ (by rw[←hgv];show 0≤out∧out≤2 ^ 20;omega)).mono ?_
  ·intro n hn x hx
   rw[←hgv] at hn
   have:=hb.inn n.nd (List.mem_map.2 ⟨n,hn,rfl⟩) x hx
   rw[hgl] at this
   omega
  ·rintro _ g2 ⟨g',rfl,gok,ggr,gs,S1⟩
   refine jQ g'.t ⟨rfl,?_⟩
   replace S:=S.back [2,3] S1
   dsimp only[bO,List.set] at S
   refine cG S 6 rfl rfl (bC rfl) fun h3 _ S=> ?_
   refine aQ S 6 rfl (x:=g'.t) rfl ?_
   exact⟨g',rfl,gok,mk _ (by rw[ggr];exact ew) (by rw[ggr];exact el) (by rw[ggr];exact eh) (.inr ggr),gs,S.pick [2,3] []⟩
 ·refine aQ S 1 rfl (x:=gv.t) (by rw[←hgv];rfl) ?_
  refine cG S 6 rfl rfl (bC rfl) fun h3 _ S=> ?_
  dsimp only[List.set] at S
  refine aQ S 6 rfl (x:=gv.t) rfl ?_
  refine⟨gv,rfl,?_,mk _ ew el eh (.inl rfl),?_,?_⟩
  ·rw[←hgv];exact⟨hnk,(S.own 2 rfl).2.1,fun n hn=>(hns n hn).1⟩
  ·rw[←hgv];exact fun n hn=>(hns n hn).2
  ·rw[←hgv];exact S.pick [2,3] []
set_option maxHeartbeats 1000000 in
theorem LF {g:ae} (S:aK h no g [blk t2 (aP bP (zT bP))] [row p (az L)]) (hL:L.length=l) (hl:l<2 ^ 62):oL (H2 h) p l c ⟨t2,0,none⟩ g:=by
 unfold oL
 refine aC S (fun b5 _ _ S=> ?_)
 have S2:aK h no _ [rP b5 p l c 0,blk t2 (aP bP (zT bP))] [row p (az L)]:=S.pw [1,0]
 refine(cF S2 0 0 rfl rfl hL (by omega) hl 3 (by omega) (by omega)).mono ?_
 rintro _ g1 ⟨x1,a1,rfl,hx1,ha1,S⟩
 refine⟨_,rfl,?_⟩
 dsimp only[List.set] at S ⊢
 rw[al (by omega)]
 refine aC S fun gb h1 _ S=> ?_
 refine cG S 2 rfl rfl (bC (l:=bP) (x:=(⟨1+(x1:Int),0,0,none,0,0,0,[]⟩:Gv).t) rfl) fun h2 _ S=> ?_
 refine(cF S 0 0 rfl rfl hL ha1 hl 200 (by omega) (by omega)).mono ?_
 rintro _ g2 ⟨x2,a2,rfl,hx2,ha2,S⟩
 refine⟨_,rfl,?_⟩
 dsimp only[List.set,List.cons_append,List.nil_append] at S ⊢
 rw[al (n:=0-(x2:Int)) (by omega)]
 refine aJ S 2 rfl (k:=1) (Nat.le_of_ble_eq_true rfl) fun h3 _ S=> ?_
 refine(cF S 0 0 rfl rfl hL ha2 hl 200 (by omega) (by omega)).mono ?_
 rintro _ g3 ⟨x3,a3,rfl,hx3,ha3,S⟩
 refine⟨_,rfl,?_⟩
 dsimp only[List.set,List.cons_append,List.nil_append] at S ⊢
 refine aJ S 2 rfl (k:=2) (Nat.le_of_ble_eq_true rfl) fun h4 _ S=> ?_
 refine(cF S 0 0 rfl rfl hL ha3 hl 2 (by omega) (by omega)).mono ?_
 rintro _ g4 ⟨x4,a4,rfl,hx4,ha4,S⟩
 refine⟨_,rfl,?_⟩
 refine(cF (S.pw [0,1,2]) 0 0 rfl rfl hL ha4 hl 6 (by omega) (by omega)).mono ?_
 rintro _ g5 ⟨x5,a5,rfl,hx5,ha5,S⟩
 refine⟨_,rfl,?_⟩
 have S2:aK h no g5 [rP b5 p l c a5,blk t2 (aP bP (zT bP)),blk gb (⟨1+(x1:Int),0-(x2:Int),(x3:Int),none,0,0,0,[]⟩:Gv).cells] [row p (az L)]:=S
 clear S
 have S:=S2
 clear S2
 refine af (n:=1+(x1:Int)) (S.cell 2 rfl rfl) ?_
 refine aC S (fun b23 _ _ S=> ?_)
 refine aC S (fun b25 _ _ S=> ?_)
 dsimp only[List.cons_append,List.nil_append] at S
 replace S:=S.toOwn 3 1 1 1 rfl (Nat.le_refl _)
 replace S:=S.toOwn 4 1 1 1 rfl (Nat.le_refl _)
 replace S:=(S.nil 15).reads0
 dsimp only[List.set,List.take,List.cons_append,List.nil_append] at S
 generalize hw0:1+(x1:Int)=w0 at S
 generalize hlo:0-(x2:Int)=lo at S
 rw[al (n:=1+(x5:Int)) (by omega)]
 have em:1+(x5:Int)=((1+x5:Nat):Int):=by omega
 rw[em]
 generalize hmany:1+x5=dv
 refine aT (fun mm s g=> ∃m:H3,s=(⟨t2,0,none⟩,⟨b5,0,none⟩,⟨gb,0,none⟩,((x4:Int)==1),(dv:Int),(m.wp,m.wl,m.wc),(m.rp,m.rl,m.rc),((m.k+1:Nat):Int),())∧m.ok l w0∧m.k≤dv∧mm=dv-m.k∧aK h no g (m.fs b5 gb t2 p l c w0 lo (x3:Int) 0) [row p (az L)]) dv
  ⟨⟨a5,none,0,0,[],some ⟨b23,0,none⟩,1,1,[w0],some ⟨b25,0,none⟩,1,1,[1]⟩,rfl,⟨ha5,rfl,rfl,rfl,.nil,by intro n hn;cases hn⟩,Nat.zero_le _,rfl,S.pw [0,2,5,6,3,4,1]⟩ ?_
 clear S
 rintro mm s g ⟨m,rfl,ok,hkm,rfl,S⟩
 unfold sR
 dsimp only
 have hlen:=H3.len ok
 refine au (fun hle=> ?_) (fun hgt=> ?_)
 ·refine⟨fun s g=> ∃(a a':Nat),s=(⟨t2,0,none⟩,⟨b5,0,none⟩,⟨gb,0,none⟩,((x4:Int)==1),(dv:Int),(m.wp,m.wl,m.wc),(m.rp,m.rl,m.rc),((m.k+1:Nat):Int),(a:Int),())∧a≤m.k∧a'≤l∧aK h no g (({m with a:=a'}:H3).fs b5 gb t2 p l c w0 lo (x3:Int) 0) [row p (az L)],?_,?_⟩
  ·rintro s g ⟨a,a',rfl,ha,ha',S⟩
   refine Nw (m:={m with a:=a'}) ⟨ha',ok.2⟩ (by omega) (by show m.k<6;omega) hL hl S ha fun g m' ok' hk' S'=>⟨dv-m'.k,?_,m',?_,ok',?_,rfl,S'⟩
   ·have:m'.k=m.k+1:=hk'
    omega
   ·have:m'.k=m.k+1:=hk'
    rw[this]
   ·have:m'.k=m.k+1:=hk'
    omega
  ·refine(cF S 0 0 rfl rfl hL ok.1 hl 3 (by omega) (by omega)).mono ?_
   rintro _ g6 ⟨x6,a6,rfl,hx6,ha6,S⟩
   refine⟨_,rfl,?_⟩
   dsimp only[List.set] at S ⊢
   refine aO (fun _=> ?_) (fun _=> ?_)
   ·refine(cF S 0 0 rfl rfl hL ha6 hl (m.k+1) (by omega) (by omega)).mono ?_
    rintro _ g7 ⟨x7,a7,rfl,hx7,ha7,S⟩
    refine⟨_,rfl,?_⟩
    dsimp only[List.set] at S ⊢
    exact⟨x7,a7,rfl,by omega,ha7,S⟩
   ·refine⟨m.k,a6,?_,Nat.le_refl _,ha6,S⟩
    rw[al (by omega)]
    have:((m.k+1:Nat):Int)-1=(m.k:Int):=by omega
    rw[this]
 ·have hke:m.k=dv:=by omega
  refine aJ S 1 rfl (k:=4) (Nat.le_of_ble_eq_true rfl) fun h6 _ S=> ?_
  have S2:aK h no h6 (m.fs b5 gb t2 p l c w0 lo (x3:Int) (dv:Int)) [row p (az L)]:=S
  clear S
  refine(cF S2 0 0 rfl rfl hL ok.1 hl 5 (by omega) (by omega)).mono ?_
  rintro _ g7 ⟨x7,a7,rfl,hx7,ha7,S⟩
  refine⟨_,rfl,?_⟩
  dsimp only[List.set] at S ⊢
  refine aO (fun _=> ?_) (fun _=> ?_)
  ·refine(cF S 0 0 rfl rfl hL ha7 hl dv (by omega) (by omega)).mono ?_
   rintro _ g8 ⟨x8,a8,rfl,hx8,ha8,S⟩
   refine⟨_,rfl,?_⟩
   dsimp only[List.set] at S ⊢
   rw[al (by omega)]
   refine aJ S 1 rfl (k:=4) (Nat.le_of_ble_eq_true rfl) fun h9 _ S=> ?_
   have S2:aK h no h9 (({m with a:=a8}:H3).fs b5 gb t2 p l c w0 lo (x3:Int) (1+(x8:Int))) [row p (az L)]:=S
   exact H4 (m:={m with a:=a8}) ⟨ha8,ok.2⟩ (by omega) (by omega) (by omega) (by show 1≤m.k;omega) (by show m.k≤6;omega) (by show dw (1+(x8:Int)) 1 m.k;omega) S2
  ·have S2:aK h no _ (({m with a:=a7}:H3).fs b5 gb t2 p l c w0 lo (x3:Int) (dv:Int)) [row p (az L)]:=S
   exact H4 (m:={m with a:=a7}) ⟨ha7,ok.2⟩ (by omega) (by omega) (by omega) (by show 1≤m.k;omega) (by show m.k≤6;omega) (by show dw (dv:Int) 1 m.k;omega) S2
theorem Nx (hx:bT h p (az L)) (hL:L.length=l) (hlc:l≤c) (hl:l<2 ^ 62):aq P mf #[.slice p l c] h (H2 h):=by
 refine AC _ _ _ ?_
 unfold B2
 have S:=aK.start h no
 refine aC S fun b1 h1 hb1 S=> ?_
 dsimp only[List.nil_append] at S
 have hx1:=hx.frame0 S.fra
 have S0:aK h no h1 [blk b1 (aP bP (zT bP))] [row p (az L)]:=by
  have A:=(aK.start h no).read (row p (az L)) hx
  exact A.add S fun _ _ h=>h
 refine⟨fun s g=> ∃(k d:Nat) (M:List Int),s=((p,k,d),⟨b1,0,none⟩,())∧M.length=k∧k<2 ^ 62∧aK h no g [blk b1 (aP bP (zT bP))] [row p (az M)],?_,?_⟩
 ·rintro s g ⟨k,d,M,rfl,hM,hk,S⟩
  exact LF S hM hk
 ·refine au (fun hgt=> ?_) (fun hle=>⟨l,c,L,rfl,hL,hl,S0⟩)
  refine ja (n:=240) rfl (by omega) ?_
  rw[Rx]
  refine⟨240,c-0,L.take 240,rfl,by rw[List.length_take];omega,by decide,?_⟩
  have:=S0.head 0 240
  dsimp only[List.set] at this
  rw[ud] at this
  exact this
end
end Go.Proofs.YtdhpmegbmjoekaaGreatDoor.G
