/- PlanTotal: of any bytes there is an error, or a right plan, and never both: the law over heaps. -/
import Derived.Test.YtdhpmegbmjoekaaGreatDoorCPTot
namespace Go.Proofs.YtdhpmegbmjoekaaGreatDoor.G
open Go Go.Sh
set_option linter.unusedVariables false
set_option linter.unusedSimpArgs false
theorem Me {g:Gr} (h:g.short):(fi++g.enc).length<2 ^ 58:=by
 have h1:=nN g.nodes h.2
 have h2:=h.1
 have hml:fi.length=4:=rfl
 unfold Gr.enc
 simp only[List.length_append,bI,cn,List.length_cons,List.length_nil,hml]
 omega
section
variable {h:ae} {p:Option Addr} {l c:Nat} {L:List Int}
theorem Mf {g:ae} {rs:List UInt8} {b1:Nat} {q0 q1 q2 q3 q4:Int} (hr:rs.length≤60) (S:aK h no g [blk b1 [.int .i64 q0,.int .i64 q1,.int .i64 q2,.int .i64 q3,.int .i64 q4]] [row p (az L),blk 0 (az aS)]) (hL:L.length=l) (hlc:l≤c) (hl:l<2 ^ 62):
 jA (fun v h'=>v= .bool true∧cu no h h') (str rs) p l c ⟨b1,0,none⟩ true g:=by
 unfold jA
 have em:(ByteArray.mk #[69,65,82,49])=str fi:=rfl
 have hml:fi.length=4:=rfl
 refine ig (by decide) (by decide) ?_
 refine af (n:=q4) (S.cell 0 rfl rfl) ?_
 refine(LV (S.row 0 rfl) hL hlc hl q4).mono ?_
 rintro _ g1 ⟨gr,mg,rfl,F⟩
 replace S:=S.fra0 F
 refine⟨_,rfl,?_⟩
 obtain⟨W0,R0,pos0,rt0⟩:=mg.right
 have hlen:=Me rt0.fits.2
 obtain⟨s,es⟩: ∃s,fi++gr.enc=s:=⟨_,rfl⟩
 rw[es] at hlen ⊢
 refine ig (by decide) (by decide) (af (n:=q0) (S.cell 0 rfl rfl) ?_)
 refine ig (by decide) (by decide) (af (n:=q1) (S.cell 0 rfl rfl) ?_)
 refine(zy (s:=s) (by omega) q0 q1).mono ?_
 rintro _ g2 ⟨u,rfl,hu,F⟩
 replace S:=S.fra0 F
 refine⟨_,rfl,cq rfl ?_⟩
 rw[em]
 refine kK (by rw[cE,cE,hml];omega) ?_
 rw[jF]
 refine(pZ (by rw[List.length_append,hml];omega) (S.r 1 _ rfl)).mono ?_
 rintro _ g3 ⟨rfl,F⟩
 replace S:=S.fra0 F
 refine⟨_,rfl,cq rfl ?_⟩
 refine(pZ (s:=s) (by omega) (S.r 1 _ rfl)).mono ?_
 rintro _ g4 ⟨rfl,F⟩
 replace S:=S.fra0 F
 refine⟨_,rfl,cq rfl ?_⟩
 refine(pZ (s:=u) (by omega) (S.r 1 _ rfl)).mono ?_
 rintro _ g5 ⟨rfl,F⟩
 replace S:=S.fra0 F
 refine⟨_,rfl,cq rfl ?_⟩
 refine ig (by decide) (by decide) (af (n:=q2) (S.cell 0 rfl rfl) ?_)
 refine ig (by decide) (by decide) (af (n:=q3) (S.cell 0 rfl rfl) ?_)
 refine(zy (s:=u) (by omega) q2 q3).mono ?_
 rintro _ g6 ⟨u2,rfl,hu2,F⟩
 replace S:=S.fra0 F
 refine⟨_,rfl,?_⟩
 refine(pZ (s:=u2) (by omega) (S.r 1 _ rfl)).mono ?_
 rintro _ g7 ⟨rfl,F⟩
 replace S:=S.fra0 F
 exact⟨_,rfl,rfl,S.fra⟩
theorem FM (hT:KT h) (raw:ByteArray) (hx:bT h p (az L)) (hL:L.length=l) (hlc:l≤c) (hl:l<2 ^ 62) (q0 q1 q2 q3 q4:Int):
 aq P kc #[.string raw,.slice p l c,.agg #[.int .i64 q0,.int .i64 q1,.int .i64 q2,.int .i64 q3,.int .i64 q4]] h fun v h'=>v= .bool true∧cu no h h':=by
 obtain⟨rs,rfl⟩:=P2 raw
 refine sV _ _ _ _ (q0,q1,q2,q3,q4,()) ?_
 unfold rD
 have S:=((aK.start h no).read (row p (az L)) hx).read (blk 0 (az aS)) hT
 refine aC (cs:=[.int .i64 q0,.int .i64 q1,.int .i64 q2,.int .i64 q3,.int .i64 q4]) S fun b1 h2 _ S=> ?_
 dsimp only[List.cons_append,List.nil_append] at S
 refine(JO (S.r 1 _ rfl)).mono ?_
 rintro _ h3 ⟨rfl,F⟩
 replace S:=S.fra0 F
 refine⟨_,rfl,?_⟩
 refine⟨fun s g=> ∃us:List UInt8,s=(str us,(p,l,c),⟨b1,0,none⟩,true,())∧us.length≤60∧aK h no g [blk b1 [.int .i64 q0,.int .i64 q1,.int .i64 q2,.int .i64 q3,.int .i64 q4]] [row p (az L),blk 0 (az aS)],?_,?_⟩
 ·rintro s g ⟨us,rfl,hu,S⟩
  exact Mf hu S hL hlc hl
 ·rw[cE]
  refine au (fun hgt=> ?_) (fun hle=>⟨rs,rfl,by omega,S⟩)
  refine ja (n:=60) rfl (by omega) ?_
  rw[jP]
  exact⟨_,rfl,by rw[List.length_take];omega,S⟩
end
end Go.Proofs.YtdhpmegbmjoekaaGreatDoor.G
