/- Contracts: the program's fuse: Fuse. -/
import Derived.Test.YtdhpmegbmjoekaaGreatDoorCRenum
namespace Go.Proofs.YtdhpmegbmjoekaaGreatDoor.G
open Go Go.Sh
set_option linter.unusedVariables false
set_option linter.unusedSimpArgs false
theorem nrowsO {h:Heap} {ns:List Nv} (o:(owns (ns.map Nv.inn)).P h) (w:(reads (wbs ns)).P h):(nrows ns).P h:=by
 rintro f hf
 obtain⟨n,hn,rfl⟩:=List.mem_map.1 hf
 have hw: ∀f∈[n.weights.own,n.bias.own],f.P h:=fun f hf=>w f (List.mem_flatMap.2 ⟨n,hn,hf⟩)
 rintro f hf
 simp only[List.mem_cons,List.not_mem_nil,or_false] at hf
 rcases hf with rfl|rfl|rfl
 ·exact owns_row o (List.mem_map_of_mem hn)
 ·exact Sl.own_row (hw _ (by simp))
 ·exact Sl.own_row (hw _ (by simp))
theorem wbs_sub {a b:List Nv} (h:a.Sublist b): ∀f∈wbs a,f∈wbs b:=fun f hf=>by
 obtain⟨n,hn,hf⟩:=List.mem_flatMap.1 hf
 exact List.mem_flatMap.2 ⟨n,h.subset hn,hf⟩
section
variable {h0 h:Heap} {T:Nat→Prop} {R:List Fact}
theorem ownsSub_S {W:List Fact} (S:Sep h0 T h W R) (i:Nat) {ss tt:List Sl} (e:W[i]? =some (owns ss)) (hs:tt.Sublist ss):Sep h0 T h (W.set i (owns tt)) R:=
 S.turn i e _ (fun⟨h1,h2⟩=>⟨fun s hs'=>h1 s (hs.subset hs'),h2.sublist hs⟩) fun b ⟨s,hs',hb⟩=>⟨s,hs.subset hs',hb⟩
theorem readsSub_S {W:List Fact} (S:Sep h0 T h W R) (i:Nat) {A B:List Fact} (e:W[i]? =some (reads A)) (hs: ∀f∈B,f∈A):Sep h0 T h (W.set i (reads B)) R:=
 S.turn i e _ (fun H f hf=>H f (hs f hf)) fun b ⟨f,hf,hb⟩=>⟨f,hs f hf,hb⟩
def FuseQ (gr:Gr) (T:Nat→Prop) (h0:Heap) (R:List Fact) (v:Value) (h':Heap):Prop:=
 ∃gv':Gv,v=gv'.v∧gv'.gr=gr∧gv'.ok∧Sep h0 T h' [own 15 gv'.p gv'.l gv'.c (nflat gv'.ns),owns (gv'.ns.map Nv.inn),reads (wbs gv'.ns)] R
theorem fuseEnd_S {gv:Gv} (hok:gv.ok) (hl:gv.l<2 ^ 20) (hs: ∀n∈gv.ns,n.inn.l<2 ^ 40) {b1 b3 r:Nat} {M:LM} {K1}
 (S:Sep h0 T h [blk b1 gv.cells,blk b3 (mkS' grSh (zT grSh)),own 15 gv.p gv.l gv.c (nflat gv.ns),owns (gv.ns.map Nv.inn),reads (wbs gv.ns),mpi r M] R):
 newI h (.map #[] 0) fun r22 h21=>updB .i64 (some r22) (0:Int) (.int .i64 (0:Int)) h21 fun h23=>ldSlice h23 (Addr.add ⟨b1,0,none⟩ 3) fun p24 l24 c24=>
  LoopS (S:=(Addr×Addr×Option Nat×Option Nat×(Option Addr×Nat×Nat)×(Option Addr×Nat×Nat)×Int×Int×Unit)) (fun K2 s h=>fuse_Fuse_l9 (FuseQ (leftG gv.gr (gv.gr.nodes,gv.out,M)) T h0 R) K1 K2 s.1 s.2.1 s.2.2.1 s.2.2.2.1 s.2.2.2.2.1.1 s.2.2.2.2.1.2.1 s.2.2.2.2.1.2.2 s.2.2.2.2.2.1.1 s.2.2.2.2.2.1.2.1 s.2.2.2.2.2.1.2.2 s.2.2.2.2.2.2.1 s.2.2.2.2.2.2.2.1 h) (⟨b1,0,none⟩,⟨b3,0,none⟩,some r,(some r22),(none,0,0),(p24,l24,c24),((l24:Nat):Int),(0:Int),()) h23:=by
 have hgl:=hok.1
 refine newM_S .i64 S fun r22 g2 _ S=> ?_
 rw[lM_none] at S
 dsimp only[List.cons_append,List.nil_append] at S
 refine updB_S S 6 rfl fun g3 S=> ?_
 rw[upL_lM] at S
 dsimp only[List.set] at S
 simp only[add_mk,Nat.zero_add]
 refine ldSlice_i (p:=gv.p) (l:=gv.l) (c:=gv.c) (S.cell 0 rfl rfl) ?_
 replace S:=S.nil 15
 dsimp only[List.cons_append,List.nil_append] at S
 obtain⟨nds,ends⟩: ∃nds,gv.ns.map Nv.nd=nds:=⟨_,rfl⟩
 refine LoopS_i (fun mm s g=> ∃(i:Nat) (lp:Option Addr) (ll lc:Nat),s=(⟨b1,0,none⟩,⟨b3,0,none⟩,some r,some r22,(lp,ll,lc),(gv.p,gv.l,gv.c),(gv.l:Int),(i:Int),())∧i≤gv.l∧mm=gv.l-i∧ll=(numV gv.ns M i).length∧
  Sep h0 T g [blk b1 gv.cells,blk b3 (mkS' grSh (zT grSh)),own 15 gv.p gv.l gv.c (nflat gv.ns),owns (gv.ns.map Nv.inn),reads (wbs gv.ns),mpi r M,mpi r22 (numT nds M i).2,own 15 lp ll lc (nflat (numV gv.ns M i))] R) gv.l ⟨0,none,0,0,rfl,by omega,rfl,rfl,S⟩ ?_
 clear S
 rintro mm s g ⟨i,lp,ll,lc,rfl,hi,rfl,hll,S⟩
 have hLl:=numV_le gv.ns M i
 have hLn:=numV_length gv.ns M i
 rw[ends] at hLn
 unfold fuse_Fuse_l9
 simp only[add_mk,Nat.zero_add]
 refine ifB_dec (fun hlt=> ?_) (fun hge=> ?_)
 ·have hig:i<gv.ns.length:=by omega
  obtain⟨n,en⟩: ∃n,gv.ns[i]? =some n:=⟨_,List.getElem?_eq_getElem hig⟩
  have end':nds[i]? =some n.nd:=by rw[←ends,List.getElem?_map,en];rfl
  have hr:=(S.own 2 rfl).row
  obtain⟨a,ea⟩:=hr.some_of (by rw[nflat_length];omega)
  rw[ea] at hr
  refine idxI_i ea rfl (by omega) ?_
  simp only[Int.toNat_natCast]
  refine ldNode hr en ?_
  refine newI_S S fun b28 g4 _ S=> ?_
  dsimp only[List.cons_append,List.nil_append] at S
  refine stL_S S 8 rfl rfl (mkS_one rfl) fun g5 _ S=> ?_
  dsimp only[List.set] at S
  have ei:IntKind.wrap .i64 ((i:Int)+1)=((i+1:Nat):Int):=by rw[wrap64_in (by omega)];rfl
  rw[ei]
  refine lookI_of (S.w 5 _ rfl) ⟨_,_,rfl,?_⟩
  have ec:(((i+1:Nat):Int))=(i:Int)+1:=rfl
  refine ifB_known (fun hb=> ?_) (fun hb=> ?_)
  ·have eN:numT nds M (i+1)=((numT nds M i).1++[n.nd],upM (numT nds M i).2 ((i:Int)+1) (((numT nds M i).1.length+1:Nat):Int)):=by
    conv=>lhs;unfold numT
    rw[end']
    dsimp only
    rw[if_pos (by rw[←ec];exact hb)]
   have eV:numV gv.ns M (i+1)=numV gv.ns M i++[n]:=by
    conv=>lhs;unfold numV
    rw[en]
    dsimp only
    rw[if_pos (by rw[←ec];exact hb)]
   refine ldAg_S S 8 rfl (x:=n.t) rfl ?_
   refine newI_S S fun b37 g6 _ S=> ?_
   dsimp only[List.cons_append,List.nil_append] at S
   refine appI_S S 7 (ys:=n.cells) rfl rfl (by decide) (by omega) (Row.of_at (S.at 9 rfl)) rfl (mkS_one rfl) fun p' l' c' g7 hl' S=> ?_
   dsimp only[List.set] at S
   refine updB_S S 6 rfl fun g8 S=> ?_
   rw[upL_lM] at S
   dsimp only[List.set] at S
   have S':Sep h0 T g8 [blk b1 gv.cells,blk b3 (mkS' grSh (zT grSh)),own 15 gv.p gv.l gv.c (nflat gv.ns),owns (gv.ns.map Nv.inn),reads (wbs gv.ns),mpi r M,mpi r22 (numT nds M (i+1)).2,own 15 p' l' c' (nflat (numV gv.ns M (i+1)))] R:=by
    rw[eN,eV,nflat_append,←hLn,←hll,←hl']
    have:nflat [n]=n.cells:=by simp[nflat]
    rw[this]
    exact S.pw [0,1,2,3,4,5,6,7]
   exact⟨gv.l-(i+1),by omega,i+1,p',l',c',rfl,by omega,rfl,by rw[eV,List.length_append,←hll];exact hl',S'⟩
  ·have eN:numT nds M (i+1)=numT nds M i:=by
    conv=>lhs;unfold numT
    rw[end']
    dsimp only
    rw[if_neg (by rw[←ec,hb];simp)]
   have eV:numV gv.ns M (i+1)=numV gv.ns M i:=by
    conv=>lhs;unfold numV
    rw[en]
    dsimp only
    rw[if_neg (by rw[←ec,hb];simp)]
   refine⟨gv.l-(i+1),by omega,i+1,lp,ll,lc,rfl,by omega,rfl,by rw[eV];exact hll,?_⟩
   rw[eN,eV]
   exact S.pw [0,1,2,3,4,5,6,7]
 ·have hil:i=gv.l:=by omega
  subst hil
  have hsub:(numV gv.ns M gv.l).Sublist gv.ns:=by
   have:=numV_sub gv.ns M gv.l
   rw[←hgl,List.take_length] at this
   rw[←hgl];exact this
  replace S:=ownsSub_S S 3 rfl (hsub.map Nv.inn)
  dsimp only[List.set] at S
  replace S:=readsSub_S S 4 rfl (wbs_sub hsub)
  dsimp only[List.set] at S
  have hm: ∀n∈numV gv.ns M gv.l,n.ok∧n.inn.l<2 ^ 40:=fun n hn=>⟨hok.2.2 n (hsub.subset hn),hs n (hsub.subset hn)⟩
  refine renum_S (X:=reads (wbs (numV gv.ns M gv.l))) hll.symm (by omega) (fun n hn=>⟨(hm n hn).1.1.1,(hm n hn).2⟩) (S.pw [0,1,7,3,6,4]) fun g9 S=> ?_
  have hnl:nds.length=gv.l:=by rw[←ends,List.length_map,hgl]
  refine⟨_,rfl,?_,⟨?_,(S.own 2 rfl).2.1,?_⟩,?_⟩
  ·show Gr.mk _ _ _ (((numV gv.ns M gv.l).map (Nv.ren (numT nds M gv.l).2)).map Nv.nd) _=leftG gv.gr (gv.gr.nodes,gv.out,M)
   have e2:gv.gr.nodes=nds:=ends
   unfold leftG
   rw[e2,hnl,←ends,←numV_nd gv.ns M gv.l,List.map_map,List.map_map]
   rfl
  ·show((numV gv.ns M gv.l).map _).length=ll
   rw[List.length_map];exact hll.symm
  ·intro n hn
   obtain⟨m,hm',rfl⟩:=List.mem_map.1 hn
   have:=(hm m hm').1
   exact⟨⟨by show(m.inn.xs.map _).length=_;rw[List.length_map];exact this.1.1,this.1.2⟩,this.2⟩
  ·dsimp only
   rw[ren_wbs]
   exact S.pw [2,3,5]
theorem Fuse_ok (hS:SortedSpec) {gv:Gv} (hok:gv.ok) (hn:Row h gv.p (nflat gv.ns)) (hr:(nrows gv.ns).P h) (hl:gv.l<2 ^ 20) (hs: ∀n∈gv.ns,n.inn.l<2 ^ 40∧n.weights.l<2 ^ 40∧n.bias.l<2 ^ 40) (hT:KT h):
 callP P n_fuse_Fuse #[gv.v] h (FuseQ (fuseG gv.gr) no h []):=by
 refine call_fuse_Fuse _ ?_
 unfold fuse_Fuse
 have S:=(((Sep.start h no).read (blk 0 (ints kindTab)) hT).read (row gv.p (nflat gv.ns)) hn).read (nrows gv.ns) hr
 refine newI_S (cs:=gv.cells) S fun b1 h1 _ S=> ?_
 dsimp only[List.nil_append,List.cons_append] at S
 refine newI_S (cs:=mkS' grSh (zT grSh)) S fun b3 h2 _ S=> ?_
 dsimp only[List.nil_append,List.cons_append] at S
 refine ldAg_S S 0 rfl (x:=gv.t) rfl ?_
 refine(GCheck_ok hok (S.row 1 rfl) (S.r 2 _ rfl) hl (fun n hn=>by have:=hs n hn;omega) (S.r 0 _ rfl)).mono ?_
 rintro _ h3 ⟨rfl,F⟩
 replace S:=S.fra0 F
 refine⟨_,rfl,ifB_bne (fun he=> ?_) (fun he=> ?_)⟩
 ·refine stL_S S 1 rfl rfl (by decide) fun h4 _ S=> ?_
  dsimp only[List.set] at S
  refine ldAg_S S 1 rfl (x:=(⟨0,0,0,none,0,0,0,[]⟩:Gv).t) rfl ?_
  refine⟨(⟨0,0,0,none,0,0,0,[]⟩:Gv),rfl,by unfold fuseG;rw[if_neg he];rfl,⟨rfl,Nat.le_refl _,by intro n hn;cases hn⟩,?_⟩
  have S2:=(((noR (S.pw [])).nil 15))
  have S3:=(owns0_S S2).reads0
  exact S3
 ·have e0:gv.gr.look.e=0:=he
  refine ldAg_S S 0 rfl (x:=gv.t) rfl ?_
  refine(own_ok hok (S.row 1 rfl) (S.r 2 _ rfl) hl hs).mono ?_
  rintro _ h4 ⟨g1,rfl,egr,ok1,el1,S1⟩
  replace S:=S.add S1 fun _ _ h=>h
  dsimp only[List.cons_append,List.nil_append] at S
  refine exS_i g1.t ⟨rfl,?_⟩
  refine stL_S S 0 rfl rfl (mkS_one rfl) fun h5 _ S=> ?_
  dsimp only[List.set] at S
  refine ldAg_S S 0 rfl (x:=g1.t) rfl ?_
  obtain⟨rk,o1,o2,n1,n12,one,_⟩:=look_inv e0
  rw[←egr] at rk o1 o2 n1 n12 one e0
  have hgn:g1.gr.nodes.length=g1.l:=by rw[←ok1.1];simp[Gv.gr]
  have hin: ∀n∈g1.ns,n.inn.l<2 ^ 40:=fun n hn=>by
   have h1:=(ok1.2.2 n hn).1.1
   obtain⟨i,en⟩:=List.mem_iff_getElem?.1 hn
   have:=(rk i n.nd (by show(g1.ns.map Nv.nd)[i]? =_;rw[List.getElem?_map,en];rfl)).1
   have e:n.nd.inn=n.inn.xs:=rfl
   rw[e] at this
   omega
  have hl1:g1.l<2 ^ 20:=by omega
  refine(live_ok hS ok1 (S.own 2 rfl).row (nrowsO (S.w 3 _ rfl) (S.w 4 _ rfl)) hl1 rk (posG_le _) ⟨o1,by rw[←hgn];exact o2⟩).mono ?_
  rintro _ h6 ⟨r,rfl,S1⟩
  replace S:=S.add S1 fun _ _ h=>h
  dsimp only[List.cons_append,List.nil_append] at S
  refine⟨_,rfl,?_⟩
  have I0:=look_finv e0
  have Fz:=fused_it (g1.gr.nodes.length+1) (g1.gr.nodes,g1.gr.out,liveM g1.gr.nodes g1.gr.out) I0 (Nat.lt_succ_of_le (keys_le _ _))
  have egf:fuseG gv.gr=leftG g1.gr (fuseIt (g1.gr.nodes.length+1) (g1.gr.nodes,g1.gr.out,liveM g1.gr.nodes g1.gr.out)):=by
   rw[←egr];unfold fuseG;rw[if_pos e0]
  rw[egf]
  generalize fuseIt (g1.gr.nodes.length+1) (g1.gr.nodes,g1.gr.out,liveM g1.gr.nodes g1.gr.out)=F at Fz
  refine LoopS_i (fun mm s g=> ∃(ns:List Nv) (out:Int) (M:LM),s=(⟨b1,0,none⟩,⟨b3,0,none⟩,some r,())∧mm=keys g1.l M∧FInv (ns.map Nv.nd) out M (posG g1.gr.nodes)∧Fused (ns.map Nv.nd,out,M) F∧({g1 with ns:=ns,out:=out}:Gv).ok∧(∀n∈ns,n.inn.l<2 ^ 40)∧
   Sep h no g [blk b1 ({g1 with ns:=ns,out:=out}:Gv).cells,blk b3 (mkS' grSh (zT grSh)),own 15 g1.p g1.l g1.c (nflat ns),owns (ns.map Nv.inn),reads (wbs ns),mpi r M] [blk 0 (ints kindTab),row gv.p (nflat gv.ns),nrows gv.ns])
   (keys g1.l (liveM g1.gr.nodes g1.gr.out)) ⟨g1.ns,g1.out,_,rfl,rfl,I0,Fz,ok1,hin,S⟩ ?_
  clear S S1 Fz I0
  rintro mm s g ⟨ns,out,M,rfl,rfl,I,Fz,okn,hin,S⟩
  unfold fuse_Fuse_l5
  dsimp only
  have S1:=S.into [0,2,3,5] [] []
  refine(step_S (gv:={g1 with ns:=ns,out:=out}) okn hl1 hin I.hasUser S1).mono ?_
  rintro _ g2 ⟨ns',out',M',rfl,est,okn',einl,ewb,S2⟩
  replace S:=S.back [0,2,3,5] S2
  dsimp only[merge,List.set,List.cons_append,List.nil_append] at S
  rw[←ewb] at S
  refine⟨_,rfl,?_⟩
  have hnl:(ns.map Nv.nd).length=g1.l:=by rw[List.length_map];exact okn.1
  have hin': ∀n∈ns',n.inn.l<2 ^ 40:=fun n hn=>by
   have:n.inn.l∈ns'.map fun n=>n.inn.l:=List.mem_map_of_mem hn
   rw[einl] at this
   obtain⟨m,hm,e⟩:=List.mem_map.1 this
   rw[←e];exact hin m hm
  refine ifB_known (fun hb=> ?_) (fun hb=> ?_)
  ·obtain⟨t,et⟩:=Option.isSome_iff_exists.1 hb
   obtain⟨i,w,na,nu,a',s,_⟩:=stepP_stp I et
   rw[et] at est
   have est:(ns'.map Nv.nd,out',M')=t:=est
   cases Fz with
   |done hd=>
    have hd:stepP (ns.map Nv.nd) out M=none:=hd
    have:(some t:Option FSt)=none:=by rw[←et];exact hd
    cases this
   | @more _ t' _ he hF=>
     have he:stepP (ns.map Nv.nd) out M=some t':=he
     have ett:t'=t:=by
      have:(some t':Option FSt)=some t:=by rw[←he];exact et
      exact Option.some.inj this
     subst ett
     have inv:=s.inv I
     have key:=s.keys I
     rw[hnl] at key
     rw[←est] at inv key hF
     exact⟨keys g1.l M',key,ns',out',M',rfl,rfl,inv,hF,okn',hin',S⟩
  ·have hN:stepP (ns.map Nv.nd) out M=none:=by
    cases h:stepP (ns.map Nv.nd) out M with
    |none=>rfl
    |some x=>
     have hb:(stepP (ns.map Nv.nd) out M).isSome=false:=hb
     rw[h] at hb;cases hb
   have est:(ns'.map Nv.nd,out',M')=(stepP (ns.map Nv.nd) out M).getD (ns.map Nv.nd,out,M):=est
   rw[hN] at est
   have est:(ns'.map Nv.nd,out',M')=(ns.map Nv.nd,out,M):=est
   have eF:F=(ns'.map Nv.nd,out',M'):=by
    cases Fz with
    |done hd=>exact est.symm
    |more he hF=>
     have he:stepP (ns.map Nv.nd) out M=some _:=he
     rw[hN] at he;cases he
   rw[eF]
   refine fuseEnd_S (gv:={g1 with ns:=ns',out:=out'}) okn' hl1 hin' (noR S)
end
end Go.Proofs.YtdhpmegbmjoekaaGreatDoor.G
