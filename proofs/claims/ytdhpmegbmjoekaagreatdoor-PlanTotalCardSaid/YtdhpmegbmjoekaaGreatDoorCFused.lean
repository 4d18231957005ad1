/- Contracts: the program's fuse: Fuse. -/
import Derived.Test.YtdhpmegbmjoekaaGreatDoorCRenum
namespace Go.Proofs.YtdhpmegbmjoekaaGreatDoor.G
open Go Go.Sh
set_option linter.unusedVariables false
set_option linter.unusedSimpArgs false
theorem JG {h:ae} {ns:List Nv} (o:(fe (ns.map Nv.inn)).P h) (w:(cA (ul ns)).P h):(aZ ns).P h:=by
 rintro f hf
 obtain⟨n,hn,rfl⟩:=List.mem_map.1 hf
 have hw: ∀f∈[n.weights.own,n.bias.own],f.P h:=fun f hf=>w f (List.mem_flatMap.2 ⟨n,hn,hf⟩)
 rintro f hf
 simp only[List.mem_cons,List.not_mem_nil,or_false] at hf
 rcases hf with rfl|rfl|rfl
 ·exact xY o (List.mem_map_of_mem hn)
 ·exact Sl.own_row (hw _ (by simp))
 ·exact Sl.own_row (hw _ (by simp))
theorem Pl {a b:List Nv} (h:a.Sublist b): ∀f∈ul a,f∈ul b:=fun f hf=>by
 obtain⟨n,hn,hf⟩:=List.mem_flatMap.1 hf
 exact List.mem_flatMap.2 ⟨n,h.subset hn,hf⟩
section
variable {h0 h:ae} {T:Nat→Prop} {R:List bi}
theorem L5 {W:List bi} (S:aK h0 T h W R) (i:Nat) {ss tt:List Sl} (e:W[i]? =some (fe ss)) (hs:tt.Sublist ss):aK h0 T h (W.set i (fe tt)) R:=
 S.turn i e _ (fun⟨h1,h2⟩=>⟨fun s hs'=>h1 s (hs.subset hs'),h2.sublist hs⟩) fun b ⟨s,hs',hb⟩=>⟨s,hs.subset hs',hb⟩
theorem JH {W:List bi} (S:aK h0 T h W R) (i:Nat) {A B:List bi} (e:W[i]? =some (cA A)) (hs: ∀f∈B,f∈A):aK h0 T h (W.set i (cA B)) R:=
 S.turn i e _ (fun H f hf=>H f (hs f hf)) fun b ⟨f,hf,hb⟩=>⟨f,hs f hf,hb⟩
def PF (gr:Gr) (T:Nat→Prop) (h0:ae) (R:List bi) (v:Value) (h':ae):Prop:=
 ∃gv':Gv,v=gv'.v∧gv'.gr=gr∧gv'.ok∧aK h0 T h' [own 15 gv'.p gv'.l gv'.c (aF gv'.ns),fe (gv'.ns.map Nv.inn),cA (ul gv'.ns)] R
theorem L6 {gv:Gv} (hok:gv.ok) (hl:gv.l<2 ^ 20) (hs: ∀n∈gv.ns,n.inn.l<2 ^ 40) {b1 b3 r:Nat} {M:LM} {K1}
 (S:aK h0 T h [blk b1 gv.cells,blk b3 (aP bP (zT bP)),own 15 gv.p gv.l gv.c (aF gv.ns),fe (gv.ns.map Nv.inn),cA (ul gv.ns),um r M] R):
 aW h (.map #[] 0) fun r22 h21=>updB .i64 (some r22) (0:Int) (.int .i64 (0:Int)) h21 fun h23=>av h23 (Addr.add ⟨b1,0,none⟩ 3) fun p24 l24 c24=>
  bB (S:=(Addr×Addr×Option Nat×Option Nat×(Option Addr×Nat×Nat)×(Option Addr×Nat×Nat)×Int×Int×Unit)) (fun K2 s h=>qd (PF (fb gv.gr (gv.gr.nodes,gv.out,M)) T h0 R) K1 K2 s.1 s.2.1 s.2.2.1 s.2.2.2.1 s.2.2.2.2.1.1 s.2.2.2.2.1.2.1 s.2.2.2.2.1.2.2 s.2.2.2.2.2.1.1 s.2.2.2.2.2.1.2.1 s.2.2.2.2.2.1.2.2 s.2.2.2.2.2.2.1 s.2.2.2.2.2.2.2.1 h) (⟨b1,0,none⟩,⟨b3,0,none⟩,some r,(some r22),(none,0,0),(p24,l24,c24),((l24:Nat):Int),(0:Int),()) h23:=by
 have hgl:=hok.1
 refine Gw .i64 S fun r22 g2 _ S=> ?_
 rw[Bi] at S
 dsimp only[List.cons_append,List.nil_append] at S
 refine oU S 6 rfl fun g3 S=> ?_
 rw[oT] at S
 dsimp only[List.set] at S
 simp only[aY,Nat.zero_add]
 refine am (p:=gv.p) (l:=gv.l) (c:=gv.c) (S.cell 0 rfl rfl) ?_
 replace S:=S.nil 15
 dsimp only[List.cons_append,List.nil_append] at S
 obtain⟨nds,ends⟩: ∃nds,gv.ns.map Nv.nd=nds:=⟨_,rfl⟩
 refine aT (fun mm s g=> ∃(i:Nat) (lp:Option Addr) (ll lc:Nat),s=(⟨b1,0,none⟩,⟨b3,0,none⟩,some r,some r22,(lp,ll,lc),(gv.p,gv.l,gv.c),(gv.l:Int),(i:Int),())∧i≤gv.l∧mm=gv.l-i∧ll=(nA gv.ns M i).length∧
  aK h0 T g [blk b1 gv.cells,blk b3 (aP bP (zT bP)),own 15 gv.p gv.l gv.c (aF gv.ns),fe (gv.ns.map Nv.inn),cA (ul gv.ns),um r M,um r22 (cZ nds M i).2,own 15 lp ll lc (aF (nA gv.ns M i))] R) gv.l ⟨0,none,0,0,rfl,by omega,rfl,rfl,S⟩ ?_
 clear S
 rintro mm s g ⟨i,lp,ll,lc,rfl,hi,rfl,hll,S⟩
 have hLl:=O3 gv.ns M i
 have hLn:=H6 gv.ns M i
 rw[ends] at hLn
 unfold qd
 simp only[aY,Nat.zero_add]
 refine au (fun hlt=> ?_) (fun hge=> ?_)
 ·have hig:i<gv.ns.length:=by omega
  obtain⟨n,en⟩: ∃n,gv.ns[i]? =some n:=⟨_,List.getElem?_eq_getElem hig⟩
  have end':nds[i]? =some n.nd:=by rw[←ends,List.getElem?_map,en];rfl
  have hr:=(S.own 2 rfl).row
  obtain⟨a,ea⟩:=hr.some_of (by rw[bY];omega)
  rw[ea] at hr
  refine aG ea rfl (by omega) ?_
  simp only[Int.toNat_natCast]
  refine kD hr en ?_
  refine aC S fun b28 g4 _ S=> ?_
  dsimp only[List.cons_append,List.nil_append] at S
  refine cG S 8 rfl rfl (bC rfl) fun g5 _ S=> ?_
  dsimp only[List.set] at S
  have ei:IntKind.wrap .i64 ((i:Int)+1)=((i+1:Nat):Int):=by rw[al (by omega)];rfl
  rw[ei]
  refine gy (S.w 5 _ rfl) ⟨_,_,rfl,?_⟩
  have ec:(((i+1:Nat):Int))=(i:Int)+1:=rfl
  refine hZ (fun hb=> ?_) (fun hb=> ?_)
  ·have eN:cZ nds M (i+1)=((cZ nds M i).1++[n.nd],tH (cZ nds M i).2 ((i:Int)+1) (((cZ nds M i).1.length+1:Nat):Int)):=by
    conv=>lhs;unfold cZ
    rw[end']
    dsimp only
    rw[if_pos (by rw[←ec];exact hb)]
   have eV:nA gv.ns M (i+1)=nA gv.ns M i++[n]:=by
    conv=>lhs;unfold nA
    rw[en]
    dsimp only
    rw[if_pos (by rw[←ec];exact hb)]
   refine aQ S 8 rfl (x:=n.t) rfl ?_
   refine aC S fun b37 g6 _ S=> ?_
   dsimp only[List.cons_append,List.nil_append] at S
   refine dI S 7 (ys:=n.cells) rfl rfl (by decide) (by omega) (bT.of_at (S.at 9 rfl)) rfl (bC rfl) fun p' l' c' g7 hl' S=> ?_
   dsimp only[List.set] at S
   refine oU S 6 rfl fun g8 S=> ?_
   rw[oT] at S
   dsimp only[List.set] at S
   have S':aK h0 T g8 [blk b1 gv.cells,blk b3 (aP bP (zT bP)),own 15 gv.p gv.l gv.c (aF gv.ns),fe (gv.ns.map Nv.inn),cA (ul gv.ns),um r M,um r22 (cZ nds M (i+1)).2,own 15 p' l' c' (aF (nA gv.ns M (i+1)))] R:=by
    rw[eN,eV,jX,←hLn,←hll,←hl']
    have:aF [n]=n.cells:=by simp[aF]
    rw[this]
    exact S.pw [0,1,2,3,4,5,6,7]
   exact⟨gv.l-(i+1),by omega,i+1,p',l',c',rfl,by omega,rfl,by rw[eV,List.length_append,←hll];exact hl',S'⟩
  ·have eN:cZ nds M (i+1)=cZ nds M i:=by
    conv=>lhs;unfold cZ
    rw[end']
    dsimp only
    rw[if_neg (by rw[←ec,hb];simp)]
   have eV:nA gv.ns M (i+1)=nA gv.ns M i:=by
    conv=>lhs;unfold nA
    rw[en]
    dsimp only
    rw[if_neg (by rw[←ec,hb];simp)]
   refine⟨gv.l-(i+1),by omega,i+1,lp,ll,lc,rfl,by omega,rfl,by rw[eV];exact hll,?_⟩
   rw[eN,eV]
   exact S.pw [0,1,2,3,4,5,6,7]
 ·have hil:i=gv.l:=by omega
  subst hil
  have hsub:(nA gv.ns M gv.l).Sublist gv.ns:=by
   have:=DB gv.ns M gv.l
   rw[←hgl,List.take_length] at this
   rw[←hgl];exact this
  replace S:=L5 S 3 rfl (hsub.map Nv.inn)
  dsimp only[List.set] at S
  replace S:=JH S 4 rfl (Pl hsub)
  dsimp only[List.set] at S
  have hm: ∀n∈nA gv.ns M gv.l,n.ok∧n.inn.l<2 ^ 40:=fun n hn=>⟨hok.2.2 n (hsub.subset hn),hs n (hsub.subset hn)⟩
  refine O8 (X:=cA (ul (nA gv.ns M gv.l))) hll.symm (by omega) (fun n hn=>⟨(hm n hn).1.1.1,(hm n hn).2⟩) (S.pw [0,1,7,3,6,4]) fun g9 S=> ?_
  have hnl:nds.length=gv.l:=by rw[←ends,List.length_map,hgl]
  refine⟨_,rfl,?_,⟨?_,(S.own 2 rfl).2.1,?_⟩,?_⟩
  ·show Gr.mk _ _ _ (((nA gv.ns M gv.l).map (Nv.ren (cZ nds M gv.l).2)).map Nv.nd) _=fb gv.gr (gv.gr.nodes,gv.out,M)
   have e2:gv.gr.nodes=nds:=ends
   unfold fb
   rw[e2,hnl,←ends,←Gz gv.ns M gv.l,List.map_map,List.map_map]
   rfl
  ·show((nA gv.ns M gv.l).map _).length=ll
   rw[List.length_map];exact hll.symm
  ·intro n hn
   obtain⟨m,hm',rfl⟩:=List.mem_map.1 hn
   have:=(hm m hm').1
   exact⟨⟨by show(m.inn.xs.map _).length=_;rw[List.length_map];exact this.1.1,this.1.2⟩,this.2⟩
  ·dsimp only
   rw[O7]
   exact S.pw [2,3,5]
theorem Pm (hS:qJ) {gv:Gv} (hok:gv.ok) (hn:bT h gv.p (aF gv.ns)) (hr:(aZ gv.ns).P h) (hl:gv.l<2 ^ 20) (hs: ∀n∈gv.ns,n.inn.l<2 ^ 40∧n.weights.l<2 ^ 40∧n.bias.l<2 ^ 40) (hT:KT h):
 aq P od #[gv.v] h (PF (cR gv.gr) no h []):=by
 refine BC _ ?_
 unfold EN
 have S:=(((aK.start h no).read (blk 0 (az aS)) hT).read (row gv.p (aF gv.ns)) hn).read (aZ gv.ns) hr
 refine aC (cs:=gv.cells) S fun b1 h1 _ S=> ?_
 dsimp only[List.nil_append,List.cons_append] at S
 refine aC (cs:=aP bP (zT bP)) S fun b3 h2 _ S=> ?_
 dsimp only[List.nil_append,List.cons_append] at S
 refine aQ S 0 rfl (x:=gv.t) rfl ?_
 refine(zt hok (S.row 1 rfl) (S.r 2 _ rfl) hl (fun n hn=>by have:=hs n hn;omega) (S.r 0 _ rfl)).mono ?_
 rintro _ h3 ⟨rfl,F⟩
 replace S:=S.fra0 F
 refine⟨_,rfl,bj (fun he=> ?_) (fun he=> ?_)⟩
 ·refine cG S 1 rfl rfl (by decide) fun h4 _ S=> ?_
  dsimp only[List.set] at S
  refine aQ S 1 rfl (x:=(⟨0,0,0,none,0,0,0,[]⟩:Gv).t) rfl ?_
  refine⟨(⟨0,0,0,none,0,0,0,[]⟩:Gv),rfl,by unfold cR;rw[if_neg he];rfl,⟨rfl,Nat.le_refl _,by intro n hn;cases hn⟩,?_⟩
  have S2:=(((GQ (S.pw [])).nil 15))
  have S3:=(Kq S2).reads0
  exact S3
 ·have e0:gv.gr.look.e=0:=he
  refine aQ S 0 rfl (x:=gv.t) rfl ?_
  refine(Qb hok (S.row 1 rfl) (S.r 2 _ rfl) hl hs).mono ?_
  rintro _ h4 ⟨g1,rfl,egr,ok1,el1,S1⟩
  replace S:=S.add S1 fun _ _ h=>h
  dsimp only[List.cons_append,List.nil_append] at S
  refine jQ g1.t ⟨rfl,?_⟩
  refine cG S 0 rfl rfl (bC rfl) fun h5 _ S=> ?_
  dsimp only[List.set] at S
  refine aQ S 0 rfl (x:=g1.t) rfl ?_
  obtain⟨rk,o1,o2,n1,n12,one,_⟩:=HP e0
  rw[←egr] at rk o1 o2 n1 n12 one e0
  have hgn:g1.gr.nodes.length=g1.l:=by rw[←ok1.1];simp[Gv.gr]
  have hin: ∀n∈g1.ns,n.inn.l<2 ^ 40:=fun n hn=>by
   have h1:=(ok1.2.2 n hn).1.1
   obtain⟨i,en⟩:=List.mem_iff_getElem?.1 hn
   have:=(rk i n.nd (by show(g1.ns.map Nv.nd)[i]? =_;rw[List.getElem?_map,en];rfl)).1
   have e:n.nd.inn=n.inn.xs:=rfl
   rw[e] at this
   omega
  have hl1:g1.l<2 ^ 20:=by omega
  refine(OS hS ok1 (S.own 2 rfl).row (JG (S.w 3 _ rfl) (S.w 4 _ rfl)) hl1 rk (Bh _) ⟨o1,by rw[←hgn];exact o2⟩).mono ?_
  rintro _ h6 ⟨r,rfl,S1⟩
  replace S:=S.add S1 fun _ _ h=>h
  dsimp only[List.cons_append,List.nil_append] at S
  refine⟨_,rfl,?_⟩
  have I0:=uj e0
  have Fz:=Dh (g1.gr.nodes.length+1) (g1.gr.nodes,g1.gr.out,kj g1.gr.nodes g1.gr.out) I0 (Nat.lt_succ_of_le (Ko _ _))
  have egf:cR gv.gr=fb g1.gr (cY (g1.gr.nodes.length+1) (g1.gr.nodes,g1.gr.out,kj g1.gr.nodes g1.gr.out)):=by
   rw[←egr];unfold cR;rw[if_pos e0]
  rw[egf]
  generalize cY (g1.gr.nodes.length+1) (g1.gr.nodes,g1.gr.out,kj g1.gr.nodes g1.gr.out)=F at Fz
  refine aT (fun mm s g=> ∃(ns:List Nv) (out:Int) (M:LM),s=(⟨b1,0,none⟩,⟨b3,0,none⟩,some r,())∧mm=keys g1.l M∧fZ (ns.map Nv.nd) out M (posG g1.gr.nodes)∧Dg (ns.map Nv.nd,out,M) F∧({g1 with ns:=ns,out:=out}:Gv).ok∧(∀n∈ns,n.inn.l<2 ^ 40)∧
   aK h no g [blk b1 ({g1 with ns:=ns,out:=out}:Gv).cells,blk b3 (aP bP (zT bP)),own 15 g1.p g1.l g1.c (aF ns),fe (ns.map Nv.inn),cA (ul ns),um r M] [blk 0 (az aS),row gv.p (aF gv.ns),aZ gv.ns])
   (keys g1.l (kj g1.gr.nodes g1.gr.out)) ⟨g1.ns,g1.out,_,rfl,rfl,I0,Fz,ok1,hin,S⟩ ?_
  clear S S1 Fz I0
  rintro mm s g ⟨ns,out,M,rfl,rfl,I,Fz,okn,hin,S⟩
  unfold wJ
  dsimp only
  have S1:=S.into [0,2,3,5] [] []
  refine(P8 (gv:={g1 with ns:=ns,out:=out}) okn hl1 hin I.hasUser S1).mono ?_
  rintro _ g2 ⟨ns',out',M',rfl,est,okn',einl,ewb,S2⟩
  replace S:=S.back [0,2,3,5] S2
  dsimp only[bO,List.set,List.cons_append,List.nil_append] at S
  rw[←ewb] at S
  refine⟨_,rfl,?_⟩
  have hnl:(ns.map Nv.nd).length=g1.l:=by rw[List.length_map];exact okn.1
  have hin': ∀n∈ns',n.inn.l<2 ^ 40:=fun n hn=>by
   have:n.inn.l∈ns'.map fun n=>n.inn.l:=List.mem_map_of_mem hn
   rw[einl] at this
   obtain⟨m,hm,e⟩:=List.mem_map.1 this
   rw[←e];exact hin m hm
  refine hZ (fun hb=> ?_) (fun hb=> ?_)
  ·obtain⟨t,et⟩:=Option.isSome_iff_exists.1 hb
   obtain⟨i,w,na,nu,a',s,_⟩:=mG I et
   rw[et] at est
   have est:(ns'.map Nv.nd,out',M')=t:=est
   cases Fz with
   |done hd=>
    have hd:gW (ns.map Nv.nd) out M=none:=hd
    have:(some t:Option Bc)=none:=by rw[←et];exact hd
    cases this
   | @more _ t' _ he hF=>
     have he:gW (ns.map Nv.nd) out M=some t':=he
     have ett:t'=t:=by
      have:(some t':Option Bc)=some t:=by rw[←he];exact et
      exact Option.some.inj this
     subst ett
     have inv:=s.inv I
     have key:=s.keys I
     rw[hnl] at key
     rw[←est] at inv key hF
     exact⟨keys g1.l M',key,ns',out',M',rfl,rfl,inv,hF,okn',hin',S⟩
  ·have hN:gW (ns.map Nv.nd) out M=none:=by
    cases h:gW (ns.map Nv.nd) out M with
    |none=>rfl
    |some x=>
     have hb:(gW (ns.map Nv.nd) out M).isSome=false:=hb
     rw[h] at hb;cases hb
   have est:(ns'.map Nv.nd,out',M')=(gW (ns.map Nv.nd) out M).getD (ns.map Nv.nd,out,M):=est
   rw[hN] at est
   have est:(ns'.map Nv.nd,out',M')=(ns.map Nv.nd,out,M):=est
   have eF:F=(ns'.map Nv.nd,out',M'):=by
    cases Fz with
    |done hd=>exact est.symm
    |more he hF=>
     have he:gW (ns.map Nv.nd) out M=some _:=he
     rw[hN] at he;cases he
   rw[eF]
   refine L6 (gv:={g1 with ns:=ns',out:=out'}) okn' hl1 hin' (GQ S)
end
end Go.Proofs.YtdhpmegbmjoekaaGreatDoor.G
