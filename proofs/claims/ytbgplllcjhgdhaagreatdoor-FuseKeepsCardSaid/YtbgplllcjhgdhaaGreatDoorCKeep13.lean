/- What is fused tells the same frames: the law of one step; how many frames there are. -/
import Derived.Test.YtbgplllcjhgdhaaGreatDoorCKeep12
import Derived.Test.YtbgplllcjhgdhaaGreatDoorCKeep9
namespace Go.Proofs.YtbgplllcjhgdhaaGreatDoor.G
open Go Go.Sh
set_option linter.unusedVariables false
set_option linter.unusedSimpArgs false
theorem andI02 {x:Int} (h:x=0):andI .i64 x 1=0∧andI .i64 x 2=0:=by subst h;exact⟨a01,a02⟩
theorem take_cases {a u x:Nd} (h:tkN a u=some x):(u.kind=10∧a.post=0∧x={a with post:=1,mult:=u.mult,shift:=u.shift})∨(u.kind=9∧andI .i64 a.post 2=0∧x={a with post:=orI .i64 a.post 2,low:=u.low,high:=u.high}):=by
 unfold tkN at h
 split at h
 ·rename_i hc;cases h;exact .inl ⟨hc.1,hc.2,rfl⟩
 ·split at h
  ·rename_i hc;cases h;exact .inr ⟨hc.1,hc.2,rfl⟩
  ·cases h
theorem take_rest {a u x:Nd} (h:tkN a u=some x):x.kind=a.kind∧x.inn=a.inn∧x.width=a.width∧x.size=a.size∧x.step=a.step∧x.gap=a.gap∧x.left=a.left∧x.right=a.right∧x.weights=a.weights∧x.bias=a.bias:=by
 rcases take_cases h with ⟨_,_,rfl⟩|⟨_,_,rfl⟩<;>exact⟨rfl,rfl,rfl,rfl,rfl,rfl,rfl,rfl,rfl,rfl⟩
theorem count_same {a x:Nd} (h1:x.kind=a.kind) (h2:x.size=a.size) (h3:x.step=a.step) (h4:x.gap=a.gap) (h5:x.left=a.left) (h6:x.right=a.right):(∀cs,countN x cs=countN a cs)∧(∀cs,readyN x cs=readyN a cs)∧(∀i,firstN x i=firstN a i)∧gapN x=gapN a:=by
 have e1:x.span=a.span:=by unfold Nd.span;rw[h1,h2,h4]
 have e2:x.leftN=a.leftN:=by unfold Nd.leftN;rw[h1,h2,h5]
 have e3:x.rightN=a.rightN:=by unfold Nd.rightN;rw[h1,h6]
 have e4: ∀t,endsN x t=endsN a t:=fun t=>by unfold endsN;rw[e1,e2,h1,h3]
 refine⟨fun cs=> ?_,fun cs=> ?_,fun i=> ?_,?_⟩
 ·unfold countN;rw[h1,e3,e4]
 ·unfold readyN;rw[h1,e4]
 ·unfold firstN;rw[h1,h3,e2]
 ·unfold gapN;rw[h1,h4]
theorem pick_same {a x:Nd} (h1:x.kind=a.kind) (h2:x.size=a.size) (h3:x.step=a.step) (h4:x.gap=a.gap) (h5:x.left=a.left) (h6:x.right=a.right) (fs:List (List (List Int))) (w i:Nat):pickF x fs w i=pickF a fs w i:=by
 obtain⟨_,_,e1,e2⟩:=count_same h1 h2 h3 h4 h5 h6
 unfold pickF
 rw[h1,h2,e1,e2]
theorem plain_kind {u:Nd} (hu:u.kind=10∨u.kind=9): ¬wins u.kind∧ ¬many u.kind∧u.kind≠5∧ ¬wei u.kind∧u.kind≠8∧u.kind≠11:=by
 refine⟨?_,?_,by omega,?_,by omega,by omega⟩
 ·rintro((h|h|h|h)|h)<;>omega
 ·rintro(h|h)<;>omega
 ·rintro(h|h|h)<;>omega
theorem plain_ready {u:Nd} (hu:u.kind=10∨u.kind=9) (x:Int):readyN u [x]=x∧countN u [x]=x:=by
 obtain⟨h1,_,h5,_⟩:=plain_kind hu
 unfold readyN countN
 rw[if_neg (fun h=>h1 h.1),if_neg h5,if_neg (fun h=>h1 h.1),if_neg (fun h=>h5 h.1),leastL_one]
 exact⟨rfl,rfl⟩
theorem wj_same {a x:Nd} (h1:x.kind=a.kind) (h2:x.weights=a.weights) (h3:x.bias=a.bias) (fs:List (List Int)) (m w c:Nat): ∀j,wj x fs m w c j=wj a fs m w c j
 |0=>by show x.bias.getD c 0=a.bias.getD c 0;rw[h3]
 |j+1=>by
  have hk: ∀(y:Int) (k:Nat),wk x fs m w c j y k=wk a fs m w c j y k:=fun y k=>by
   induction k with
   |zero=>rfl
   |succ k ih=>
    unfold wk
    rw[ih,h1,h2]
  show wk x fs m w c j (wj x fs m w c j) w=wk a fs m w c j (wj a fs m w c j) w
  rw[wj_same h1 h2 h3 fs m w c j,hk]
theorem post01 {a:Nd} {ws:List Int} (h:a.chk ws=0) (h2:andI .i64 a.post 2=0):a.post=0∨a.post=1:=by
 have c5:=(chk_ok h).2.2.2.2.1
 have:a.post=0∨a.post=1∨a.post=2∨a.post=3:=by omega
 rcases this with h|h|h|h
 ·exact .inl h
 ·exact .inr h
 ·exfalso;rw[h,a22] at h2;exact absurd h2 (by decide)
 ·exfalso;rw[h,a32] at h2;exact absurd h2 (by decide)
theorem post_word {a:Nd} (h2:andI .i64 a.post 2=0) (y:Int):wordR (postI a y):=by
 have e:postI a y=if andI .i64 a.post 1=1 then scaleI (sat32 y) a.mult a.shift else sat32 y:=by
  unfold postI
  dsimp only
  have n2: ¬andI .i64 a.post 2=2:=by rw[h2];decide
  rw[if_neg n2]
 rw[e]
 unfold wordR
 split
 ·have:=scaleI_range (sat32 y) a.mult a.shift;omega
 ·have:=sat32_range y;omega
theorem post_take {a u x:Nd} {ws:List Int} (ht:tkN a u=some x) (hc:a.chk ws=0) (y:Int):postI x y=eachI u [postI a y]:=by
 have g0:[postI a y].getD 0 0=postI a y:=rfl
 rcases take_cases ht with ⟨hk,hp,rfl⟩|⟨hk,hp,rfl⟩
 ·have ee:eachI u [postI a y]=scaleI (postI a y) u.mult u.shift:=by
   unfold eachI
   rw[if_neg (by omega),if_neg (by omega),if_neg (by omega),if_neg (by omega),if_neg (by omega),if_neg (by omega),if_pos hk];rfl
  have e1:postI a y=sat32 y:=by
   unfold postI
   dsimp only
   have n1: ¬andI .i64 a.post 1=1:=by rw[(andI02 hp).1];decide
   have n2: ¬andI .i64 a.post 2=2:=by rw[(andI02 hp).2];decide
   rw[if_neg n2,if_neg n1]
  rw[ee,e1]
  unfold postI
  dsimp only
  have n2: ¬andI .i64 1 2=2:=by decide+kernel
  rw[if_neg n2,if_pos a11]
 ·have ee:eachI u [postI a y]=clampI (postI a y) u.low u.high:=by
   unfold eachI
   rw[if_neg (by omega),if_neg (by omega),if_neg (by omega),if_neg (by omega),if_neg (by omega),if_pos hk];rfl
  have n2: ¬andI .i64 a.post 2=2:=by rw[hp];decide
  have e1:postI a y=if andI .i64 a.post 1=1 then scaleI (sat32 y) a.mult a.shift else sat32 y:=by
   unfold postI
   dsimp only
   rw[if_neg n2]
  rw[ee,e1]
  unfold postI
  dsimp only
  rcases post01 hc hp with h|h
  ·rw[h,o02,if_pos a22]
   have m1: ¬andI .i64 2 1=1:=by decide+kernel
   have m2: ¬andI .i64 0 1=1:=by rw[a01];decide
   rw[if_neg m1,if_neg m2]
  ·rw[h,o12,if_pos a32,if_pos a31,if_pos a11]
theorem chk_back {a u x:Nd} {ws vs:List Int} (ht:tkN a u=some x) (hw:wei a.kind) (ha:a.chk ws=0) (hx:x.chk vs=0):a.chk vs=0:=by
 obtain⟨r1,r2,r3,r4,r5,r6,r7,r8,r9,r10⟩:=take_rest ht
 obtain⟨c1,c2,c3,c4,c5,c6,c7,c8,c9,c10,c11,c12⟩:=chk_ok ha
 obtain⟨d1,d2,d3,d4,d5,d6,d7,d8,d9,d10,d11,d12⟩:=chk_ok hx
 rw[r2] at d3
 rw[r1] at d6 d7 d11 d12
 refine chk_mk d3 d1 c4 d6 d7 c5 c8 c9 ?_ d11 d12
 have es:x.span=a.span:=by unfold Nd.span;rw[r1,r4,r6]
 have ew: ∀w,x.wcount w=a.wcount w:=fun w=>by unfold Nd.wcount;rw[r1,r3,r4]
 obtain⟨s1,s2,s3,s4,s5⟩:=c10
 obtain⟨t1,t2,t3,t4,t5⟩:=d10
 refine⟨s1,s2,s3,fun h=> ?_,s5⟩
 have:=t4 (by rw[r1];exact h)
 rw[r9,r10,r1,r3,ew] at this
 exact this
theorem may_take {a u x:Nd} {ws:List Int} (ht:tkN a u=some x) (hw:wei a.kind) (ha:a.chk ws=0) (hu:u.chk [a.wid ws]=0) (l:List (List Int)):mayF x l↔mayF a l:=by
 obtain⟨r1,r2,r3,r4,r5,r6,r7,r8,r9,r10⟩:=take_rest ht
 have ew:widthsF x l=widthsF a l:=by unfold widthsF;rw[r1]
 have ec:mayC x l.length↔mayC a l.length:=by unfold mayC;rw[r1,r2,r4]
 unfold mayF
 rw[ew,ec,r1]
 constructor
 ·rintro⟨h1,h2,h3,h4,h5⟩;exact⟨h1,h2,h3,h4,chk_back ht hw ha h5⟩
 ·rintro⟨h1,h2,h3,h4,h5⟩;exact⟨h1,h2,h3,h4,take_chk ht hw h5 hu⟩
theorem wei_wid {a:Nd} {ws:List Int} (hw:wei a.kind) (ha:a.chk ws=0):a.wid ws=(a.bias.length:Int):=by
 have hb:=((chk_ok ha).2.2.2.2.2.2.2.2.2.1.2.2.2.1 hw).2.1
 unfold Nd.wid
 rw[if_neg (fun h=>h ha)]
 rcases hw with h|h|h
 ·rw[if_pos (.inl h),hb,if_neg (by omega)]
 ·rw[if_neg (by rintro(h2|h2)<;>omega),if_neg (by omega),if_pos (by omega),hb,if_pos h]
 ·rw[if_pos (.inr h),hb,if_neg (by omega)]
theorem frame_take {a u x:Nd} {ws:List Int} (ht:tkN a u=some x) (hw:wei a.kind) (ha:a.chk ws=0) (hu:u.chk [a.wid ws]=0) (l:List (List Int)):frameF x l=frameF u [frameF a l]:=by
 have huk:u.kind=10∨u.kind=9:=(tkN_rows ht).2.2.2.2
 obtain⟨k1,k2,k3,k4,k5,k6⟩:=plain_kind huk
 obtain⟨r1,r2,r3,r4,r5,r6,r7,r8,r9,r10⟩:=take_rest ht
 have hmay:=may_take ht hw ha hu l
 have ewd: ∀f:List Int,widthsF u [f]=[(f.length:Int)]:=fun f=>by unfold widthsF;rw[if_neg k2];rfl
 by_cases hm:mayF a l
 ·have e1:frameF x l=weighedF x l:=by unfold frameF;rw[if_pos (hmay.2 hm),if_pos (by rw[r1];exact hw)]
  have e2:frameF a l=weighedF a l:=by unfold frameF;rw[if_pos hm,if_pos hw]
  rw[e1,e2]
  have ha2:andI .i64 a.post 2=0:=by
   rcases take_cases ht with ⟨_,hp,_⟩|⟨_,hp,_⟩
   ·exact(andI02 hp).2
   ·exact hp
  have lw:(weighedF a l).length=a.bias.length:=by unfold weighedF;rw[List.length_map,List.length_range]
  have hmu:mayF u [weighedF a l]:=by
   refine⟨⟨fun h=>absurd h k1,fun h=>absurd h k3,fun h=>absurd h k2,fun _ _ _=>rfl⟩,fun f hf y hy=> ?_,fun _ f hf=> ?_,by simp,?_⟩
   ·simp only[List.mem_singleton] at hf;subst hf
    unfold weighedF at hy
    obtain⟨c,_,rfl⟩:=List.mem_map.1 hy
    exact post_word ha2 _
   ·simp only[List.mem_singleton] at hf;subst hf;rfl
   ·rw[ewd,lw,←wei_wid hw ha];exact hu
  have e3:frameF u [weighedF a l]=eachF u [weighedF a l]:=by unfold frameF;rw[if_pos hmu,if_neg k4,if_neg k5,if_neg k6]
  rw[e3]
  unfold eachF
  show weighedF x l=(List.range (weighedF a l).length).map fun k=>eachI u [(weighedF a l).getD k 0]
  rw[lw]
  have ex:weighedF x l=(List.range a.bias.length).map fun c=>postI x (wj x l l.length (l.getD 0 []).length c l.length):=by unfold weighedF;rw[r10]
  rw[ex]
  refine List.map_congr_left fun c hc=> ?_
  rw[List.mem_range] at hc
  have eg:(weighedF a l).getD c 0=postI a (wj a l l.length (l.getD 0 []).length c l.length):=by
   unfold weighedF
   rw[List.getD_eq_getElem?_getD,List.getElem?_map,List.getElem?_range hc];rfl
  rw[eg,wj_same r1 r9 r10]
  exact post_take ht ha _
 ·have e1:frameF x l=[]:=by unfold frameF;rw[if_neg (fun h=>hm (hmay.1 h))]
  have e2:frameF a l=[]:=by unfold frameF;rw[if_neg hm]
  rw[e1,e2]
  unfold frameF
  rw[if_neg]
  intro h
  have hc:=h.2.2.2.2
  rw[ewd] at hc
  have:=(chk_ok hc).1 0 (by simp)
  omega
theorem law_ready:Law (α:=Int) fun n vs w=>readyN n vs:=by
 refine⟨fun n l vs w hl=> ?_,fun a u x ws vs w ht hw ha hu=> ?_⟩
 ·exact(count_same (x:={n with inn:=l}) (a:=n) rfl rfl rfl rfl rfl rfl).2.1 vs
 ·obtain⟨r1,r2,r3,r4,r5,r6,r7,r8,r9,r10⟩:=take_rest ht
  rw[(count_same r1 r4 r5 r6 r7 r8).2.1,(plain_ready (tkN_rows ht).2.2.2.2 _).1]
theorem frame_inn (n:Nd) {l:List Int} (h:l.length=n.inn.length) (fs:List (List Int)):frameF {n with inn:=l} fs=frameF n fs:=by
 have e1: ∀ws,({n with inn:=l}:Nd).chk ws=n.chk ws:=fun ws=>chk_inn h ws
 have e2:mayF {n with inn:=l} fs↔mayF n fs:=by
  unfold mayF
  rw[e1]
  have e3:mayC {n with inn:=l} fs.length↔mayC n fs.length:=by
   unfold mayC
   dsimp only
   rw[h]
  rw[e3]
  exact Iff.rfl
 have e4:weighedF {n with inn:=l} fs=weighedF n fs:=by
  unfold weighedF
  refine List.map_congr_left fun c _=> ?_
  rw[wj_same (x:={n with inn:=l}) (a:=n) rfl rfl rfl];rfl
 unfold frameF
 by_cases hm:mayF n fs
 ·rw[if_pos hm,if_pos (e2.2 hm),e4];rfl
 ·rw[if_neg hm,if_neg (fun h=>hm (e2.1 h))]
theorem law_frames:Law (α:=List (List Int)) fun n vs w=>nodeF n vs w.toNat:=by
 refine⟨fun n l vs w hl=> ?_,fun a u x ws vs w ht hw ha hu=> ?_⟩
 ·unfold nodeF
  rw[(count_same (x:={n with inn:=l}) (a:=n) rfl rfl rfl rfl rfl rfl).1]
  refine List.map_congr_left fun i _=> ?_
  rw[frame_inn n hl,pick_same (x:={n with inn:=l}) (a:=n) rfl rfl rfl rfl rfl rfl]
 ·obtain⟨r1,r2,r3,r4,r5,r6,r7,r8,r9,r10⟩:=take_rest ht
  have huk:=(tkN_rows ht).2.2.2.2
  obtain⟨k1,k2,k3,k4,k5,k6⟩:=plain_kind huk
  have el:countN u (lensF [nodeF a vs w.toNat])=((countN a (lensF vs)).toNat:Int):=by
   show countN u [((nodeF a vs w.toNat).length:Int)]=_
   rw[(plain_ready huk _).2,nodeF_length]
  have e2:nodeF u [nodeF a vs w.toNat] (a.wid ws).toNat=(List.range (countN a (lensF vs)).toNat).map fun i=>frameF u (pickF u [nodeF a vs w.toNat] (a.wid ws).toNat i):=by
   unfold nodeF
   unfold nodeF at el
   rw[el,Int.toNat_natCast]
  rw[e2]
  have ep: ∀i,i<(countN a (lensF vs)).toNat→pickF u [nodeF a vs w.toNat] (a.wid ws).toNat i=[frameF a (pickF a vs w.toNat i)]:=fun i hi=>by
   have eu: ∀X:List (List Int),pickF u [X] (a.wid ws).toNat i=[X.getD i []]:=fun X=>by unfold pickF;rw[if_neg k1,if_neg k3];rfl
   rw[eu]
   unfold nodeF
   rw[List.getD_eq_getElem?_getD,List.getElem?_map,List.getElem?_range hi];rfl
  have ex:nodeF x vs w.toNat=(List.range (countN a (lensF vs)).toNat).map fun i=>frameF x (pickF x vs w.toNat i):=by unfold nodeF;rw[(count_same r1 r4 r5 r6 r7 r8).1]
  rw[ex]
  refine List.map_congr_left fun i hi=> ?_
  rw[List.mem_range] at hi
  rw[ep i hi,pick_same r1 r4 r5 r6 r7 r8,frame_take ht hw ha hu]
theorem strm_len {g:Gr} {W R W':Int→Int} {pos:Int→Nat} (r:Right g W R pos) {V:Int→List (List Int)} (hV:Strm g.nodes W' V) {C:Int→Int} (hC0:C 0=((V 0).length:Int)) (hC: ∀(i:Nat) (n:Nd),g.nodes[i]? =some n→C ((i:Int)+1)=readyN n (n.inn.map C)):
 ∀(p:Nat) (x:Int),posG g.nodes x=p→0≤x→x≤(g.nodes.length:Int)→(V x).length≤(V 0).length+64*p∧0≤C x∧C x≤((V x).length:Int):=by
 intro p
 induction p using Nat.strongRecOn with
 |ind p ih=>
  intro x hp h0 h1
  by_cases hx:x=0
  ·subst hx
   rw[hC0];omega
  ·obtain⟨i,rfl⟩: ∃i:Nat,x=(i:Int)+1:=⟨(x-1).toNat,by omega⟩
   obtain⟨n,en⟩: ∃n,g.nodes[i]? =some n:=⟨_,List.getElem?_eq_getElem (by omega)⟩
   have hc:=r.chk i n en
   have hlen:1≤n.inn.length:=by have:=(chk_ok hc).2.1;rw[List.length_map] at this;exact this
   have each: ∀j∈n.inn,(V j).length≤(V 0).length+64*(p-1)∧0≤C j∧C j≤((V j).length:Int)∧1≤p:=fun j hj=>by
    have hjr:=(first_ok r.first).2.2.2.2.2 n (List.mem_of_getElem? en) j hj
    have hpj:=posG_rank r.ordered en hj
    have:=ih (posG g.nodes j) (by omega) j rfl hjr.1 hjr.2
    omega
   have hp1:1≤p:=by
    obtain⟨j,hj⟩:=List.exists_mem_of_length_pos (l:=n.inn) (by omega)
    exact(each j hj).2.2.2
   have el:lensF (n.inn.map V)=n.inn.map fun j=>((V j).length:Int):=by unfold lensF;rw[List.map_map];rfl
   have cr:=count_range hc (cs:=lensF (n.inn.map V)) (B:=(((V 0).length+64*(p-1):Nat):Int)) (by omega) (fun c hcm=>by
    rw[el] at hcm
    obtain⟨j,hj,rfl⟩:=List.mem_map.1 hcm
    have:=(each j hj).1
    omega)
   have cr2:=count_range hc (cs:=n.inn.map C) (B:=(((V 0).length+64*(p-1):Nat):Int)) (by omega) (fun c hcm=>by
    obtain⟨j,hj,rfl⟩:=List.mem_map.1 hcm
    have:=each j hj
    omega)
   have eV:(V ((i:Int)+1)).length=(countN n (lensF (n.inn.map V))).toNat:=by rw[hV i n en,nodeF_length]
   have rc:=ready_count hc (js:=n.inn) (C:=C) (D:=fun j=>((V j).length:Int)) hlen (fun j hj=>⟨(each j hj).2.1,(each j hj).2.2.1⟩)
   rw[←el] at rc
   rw[hC i n en,eV]
   omega
end Go.Proofs.YtbgplllcjhgdhaaGreatDoor.G
