/- Frames of frames (earshotref18): rows of streams; at; how a row grows. -/
import Derived.Test.YtbgplllcjhgdhaaGreatDoorCKeep5
namespace Go.Proofs.YtbgplllcjhgdhaaGreatDoor.G
open Go Go.Sh
set_option linter.unusedVariables false
set_option linter.unusedSimpArgs false
structure Fm where
 p:Option Addr
 l:Nat
 c:Nat
 ss:List Sl
abbrev Fm.v (f:Fm):Value:= .slice f.p f.l f.c
def Fm.fr (f:Fm):List (List Int):=fsOf f.ss
def Fm.fact (f:Fm):Fact:=reads [row f.p (slv f.ss),srows f.ss]
def Fm.ok (f:Fm):Prop:=f.ss.length=f.l∧f.l≤f.c∧ ∀s∈f.ss,s.ok∧s.l<2 ^ 40
theorem Fm.frs {h:Heap} {f:Fm} (ok:f.ok) (hf:f.fact.P h):Frs h f.p f.l f.ss:=⟨hf (row f.p (slv f.ss)) (by simp),hf (srows f.ss) (by simp),ok.1,ok.2.2⟩
theorem Fm.len {f:Fm} (ok:f.ok):f.fr.length=f.l:=by unfold Fm.fr;rw[fsOf_length];exact ok.1
def fmv (fs:List Fm):List Value:=fs.map Fm.v
theorem fmv_length (fs:List Fm):(fmv fs).length=fs.length:=by simp[fmv]
theorem fmv_get {fs:List Fm} {i:Nat} {f:Fm} (h:fs[i]? =some f):(fmv fs)[i]? =some f.v:=by simp[fmv,h]
def FmQ (X:List (List Int)) (h:Heap) (v:Value) (h':Heap):Prop:= ∃f:Fm,v=f.v∧f.ok∧f.fr=X∧Sep h no h' [f.fact] []
def Cov (A:List Fact) (f:Fact):Prop:=(∀h,(reads A).P h→f.P h)∧ ∀b,f.foot b→(reads A).foot b
theorem Cov.mem {A:List Fact} {f:Fact} (h:f∈A):Cov A f:=⟨fun _ H=>H f h,fun b hb=>⟨f,h,hb⟩⟩
theorem Cov.left {A B:List Fact} {f:Fact} (h:Cov A f):Cov (A++B) f:=⟨fun g H=>h.1 g fun x hx=>H x (List.mem_append_left _ hx),fun b hb=>by obtain⟨x,hx,hb⟩:=h.2 b hb;exact⟨x,List.mem_append_left _ hx,hb⟩⟩
theorem Cov.nest {A B:List Fact} {f:Fact} (h:Cov A f):Cov (B++[reads A]) f:=⟨fun g H=>h.1 g (H (reads A) (by simp)),fun b hb=>⟨reads A,by simp,h.2 b hb⟩⟩
theorem Cov.last {B:List Fact} {f:Fact}:Cov (B++[f]) f:=Cov.mem (by simp)
theorem FmQ.of {h g:Heap} {q:Option Addr} {m d:Nat} {ss:List Sl} {Z:List Fact} (S:Sep h no g [own 1 q m d (slv ss),reads Z] []) (ok: ∀s∈ss,(s.ok∧s.l<2 ^ 40)∧Cov Z s.row):FmQ (fsOf ss) h (.slice q m d) g:=by
 have o:=S.own 0 rfl
 have hl:ss.length=m:=by have:=o.1;rw[slv_length] at this;omega
 refine⟨⟨q,m,d,ss⟩,rfl,⟨hl,o.2.1,fun s hs=>(ok s hs).1⟩,rfl,?_⟩
 have S2:=S.join [] [0,1]
 dsimp only[Sh.pick,List.nil_append,List.getElem?_cons_zero,List.getElem?_cons_succ] at S2
 refine S2.turn 0 rfl _ (fun H f hf=> ?_) fun b hb=> ?_
 ·have h1:(own 1 q m d (slv ss)).P g:=H _ (by simp)
  have h2:(reads Z).P g:=H _ (by simp)
  simp only[List.mem_cons,List.not_mem_nil,or_false] at hf
  rcases hf with rfl|rfl
  ·exact Own.row h1
  ·intro f hf
   obtain⟨s,hs,rfl⟩:=List.mem_map.1 hf
   exact(ok s hs).2.1 g h2
 ·obtain⟨f,hf,hb⟩:=hb
  simp only[List.mem_cons,List.not_mem_nil,or_false] at hf
  rcases hf with rfl|rfl
  ·obtain⟨_,a,ha,hb⟩:=hb
   exact⟨own 1 q m d (slv ss),by simp,a,ha,hb⟩
  ·obtain⟨f,hf,hb⟩:=hb
   obtain⟨s,hs,rfl⟩:=List.mem_map.1 hf
   exact⟨reads Z,by simp,(ok s hs).2.2 b hb⟩
theorem set_app {α:Type} {W:List α} {i:Nat} {f x:α} (h:W[i]? =some f) (y:α):(W++[x]).set i y=W.set i y++[x]:=List.set_append_left _ _ (List.getElem?_eq_some_iff.1 h).1
theorem push_S {h0 h:Heap} {T:Nat→Prop} {W R:List Fact} (S:Sep h0 T h W R) (i:Nat) {e:TypeId} {by_:Nat} {q:Option Addr} {m d:Nat} {xs:List Value} {x:Option Addr} {y z:Nat} {K:Option Addr→Nat→Nat→Heap→Prop}
 (w:W[i]? =some (own 1 q m d xs)) (hby:by_≠0) (hb:(2*(m+1)+1024)*by_≤2 ^ 48)
 (H: ∀b q' d' h',Sep h0 T h' (W.set i (own 1 q' (m+1) d' (xs++[.slice x y z]))++[blk b [.slice x y z]]) R→K q' (m+1) d' h'):
 newI h (.cells #[.slice x y z] e (0,0)) fun b h2=>appI e 1 by_ (.slice none 0 0) q m d (some ⟨b,0,none⟩) 1 h2 K:=by
 refine newI_S (cs:=[.slice x y z]) S fun b h2 _ S=> ?_
 have hi:=(List.getElem?_eq_some_iff.1 w).1
 have w2:(W++[blk b [.slice x y z]])[i]? =some (own 1 q m d xs):=by rw[List.getElem?_append_left hi];exact w
 have wb:(W++[blk b [.slice x y z]])[W.length]? =some (blk b [.slice x y z]):=by rw[List.getElem?_concat_length]
 refine appI_S S i (ys:=[.slice x y z]) w2 rfl hby hb (Row.of_at (S.at W.length wb)) rfl (fun y hy=>by simp only[List.mem_singleton] at hy;subst hy;rfl) fun q' l' c' h' hl S=> ?_
 subst hl
 rw[set_app w] at S
 exact H b q' c' h' S
def atF (fs:List (List Int)) (t:Int) (w:Nat):List Int:=if t<0∨t≥(fs.length:Int) then List.replicate w 0 else fs.getD t.toNat []
section
variable {h:Heap}
theorem zero_new {h0 h:Heap} {T:Nat→Prop} {W R:List Fact} {b w:Nat} (S:Sep h0 T h (W++[blk b (List.replicate w [Value.int .i64 0]).flatten]) R):Sep h0 T h (W++[(⟨some ⟨b,0,none⟩,w,w,List.replicate w 0⟩:Sl).row]) R:=by
 have ez:(List.replicate w [Value.int .i64 0]).flatten=ints (List.replicate w 0):=by rw[repl_one];simp[ints]
 have e:(W++[blk b (List.replicate w [Value.int .i64 0]).flatten])[W.length]? =some (blk b (List.replicate w [Value.int .i64 0]).flatten):=by rw[List.getElem?_concat_length]
 have S2:=S.turn W.length e ((⟨some ⟨b,0,none⟩,w,w,List.replicate w 0⟩:Sl).row) (fun hat=>by
  have:=Row.of_at hat
  rw[ez] at this;exact this) (fun j hj=>by obtain⟨_,a,ha,rfl⟩:=hj;cases ha;rfl)
 rw[List.set_append_right _ _ (Nat.le_refl _),Nat.sub_self] at S2
 exact S2
theorem at18_ok {p:Option Addr} {l c:Nat} {ss:List Sl} (F:Frs h p l ss) (hl:l<2 ^ 40) (t:Int) {w:Nat} (hw:w<2 ^ 20):
 callP P n_ref18_at #[.slice p l c,.int .i64 t,.int .i64 (w:Int)] h fun v h'=> ∃s:Sl,v=s.v∧s.ok∧s.l<2 ^ 40∧s.xs=atF (fsOf ss) t w∧ ∃A:List Fact,Sep h no h' [reads A] []∧(s∈ss∨Cov A s.row):=by
 refine call_ref18_at _ _ _ _ _ ?_
 unfold ref18_at
 have hfl:(fsOf ss).length=l:=by rw[fsOf_length];exact F.len
 have S:=Sep.start h no
 have zero: ∀{b:Nat} {g:Heap},(t<0∨t≥(l:Int))→Sep h no g [blk b (List.replicate w [Value.int .i64 0]).flatten] []→ ∃s:Sl,Value.slice (some ⟨b,0,none⟩) (w:Int).toNat (w:Int).toNat=s.v∧s.ok∧s.l<2 ^ 40∧s.xs=atF (fsOf ss) t w∧ ∃A:List Fact,Sep h no g [reads A] []∧(s∈ss∨Cov A s.row):=by
  intro b g hc S
  have S2:=(zero_new (W:=[]) S).join [] [0]
  dsimp only[Sh.pick,List.nil_append,List.getElem?_cons_zero] at S2
  refine⟨⟨some ⟨b,0,none⟩,w,w,List.replicate w 0⟩,by simp only[Int.toNat_natCast],⟨by simp,Nat.le_refl _⟩,by show w<2 ^ 40;omega,?_,_,S2,.inr (Cov.mem (by simp))⟩
  unfold atF
  rw[if_pos (by rw[hfl];exact hc)]
 refine ifB_dec (fun h1=> ?_) (fun h1=> ?_)
 ·refine mkI_S S w rfl rfl rfl (by decide) (by omega) (by omega) fun b g _ S=> ?_
  exact zero (.inl h1) S
 refine ifB_dec (fun h2=> ?_) (fun h2=> ?_)
 ·refine mkI_S S w rfl rfl rfl (by decide) (by omega) (by omega) fun b g _ S=> ?_
  exact zero (.inr h2) S
 ·obtain⟨k,rfl⟩: ∃k:Nat,t=(k:Int):=⟨t.toNat,by omega⟩
  have hkl:k<l:=by omega
  obtain⟨s,es⟩: ∃s,ss[k]? =some s:=⟨_,List.getElem?_eq_getElem (by have:=F.len;omega)⟩
  have hmem:=List.mem_of_getElem? es
  have pr:=F.row
  obtain⟨a,ea⟩:=pr.some_of (by rw[slv_length,F.len];omega)
  rw[ea] at pr
  refine idxI_i ea rfl hkl ?_
  simp only[Int.toNat_natCast,Nat.mul_one]
  refine ldSlice_i (p:=s.p) (l:=s.l) (c:=s.c) (pr.cell (slv_get es)) ?_
  refine⟨s,rfl,(F.ok s hmem).1,(F.ok s hmem).2,?_,[],S.reads0,.inl hmem⟩
  unfold atF
  rw[if_neg (by omega),Int.toNat_natCast,List.getD_eq_getElem?_getD,fsOf_get es];rfl
end
end Go.Proofs.YtbgplllcjhgdhaaGreatDoor.G
