/- Printed by shp.py out of the program's own print: for each Go function a typed formula over heaps, and the proof that a call does just that. -/
import Derived.Test.YtdhpmegbmjoekaaGreatDoorGenA
set_option linter.unusedVariables false
set_option maxRecDepth 100000
namespace Go.Proofs.YtdhpmegbmjoekaaGreatDoor.G
open Go Go.Sh
def sv (Q:VH) (K1:YH Q4) (t2 t3:Addr) (t16_p:OA) (t16_n t16_c:Nat) (t17 t18:Int) (h11:ae):Prop:=
 aL (decide (t18<t17)) (
 bl t16_p t18 t16_n fun a12=>
 ah .i64 h11 (a12.add (t18.toNat*1)) fun n13=>
 tn h11 t2 fun m14=>
 lG .i64 (.int .i64 0) m14 n13 h11 fun v16 b17=>
 ∃n18:Int,v16=(.int .i64 n18)∧
 updB .i64 m14 n13 (.int .i64 (IntKind.wrap .i64 (n18+1))) h11 fun h19=>
 aL (decide (n13>0)) (
 tn h19 t2 fun m20=>
 lG .i64 (.int .i64 0) m20 n13 h19 fun v22 b23=>
 ∃n24:Int,v22=(.int .i64 n24)∧
 aL (n24==1) (
 Mr h19 t3 fun v25=>
 fw P v25 [(.int .i64 n13)] h19 fun v26 h27=>
 v26=(.tuple #[])∧
 K1 (t2,t3,(t16_p,t16_n,t16_c),t17,(IntKind.wrap .i64 (t18+1)),()) h27) (
 K1 (t2,t3,(t16_p,t16_n,t16_c),t17,(IntKind.wrap .i64 (t18+1)),()) h19)) (
 K1 (t2,t3,(t16_p,t16_n,t16_c),t17,(IntKind.wrap .i64 (t18+1)),()) h19)) (
 Q (.tuple #[]) h11)
def zA (y0:Int) (free0 free1 free2:Addr) (h:ae) (Q:VH):Prop:=
 av h (free0.add 3) fun p1 l1 c1=>
 bl p1 (IntKind.wrap .i64 (y0-1)) l1 fun a2=>
 av h (Addr.add (a2.add ((IntKind.wrap .i64 (y0-1)).toNat*15)) 1) fun p3 l3 c3=>
 aq P dX #[(.slice p3 l3 c3)] h fun v5 h4=>
 ∃v6:Value,v5=v6∧
 bM P gi #[v6] h4 fun p8 l8 c8 h7=>
 bM P dM #[(.slice p8 l8 c8)] h7 fun p10 l10 c10 h9=>
 bB (S:=Q4) (fun K1 s h=>sv Q K1 s.1 s.2.1 s.2.2.1.1 s.2.2.1.2.1 s.2.2.1.2.2 s.2.2.2.1 s.2.2.2.2.1 h) (free1,free2,(p10,l10,c10),(l10:Int),(0:Int),()) h9
noncomputable def Ag:cz:=tb (ak .done []) (ak [] [(1,[(2,.sc (.adr)),(3,.sc (.adr)),(16,SL),(17,I6),(18,I6)])]) (ak none [])
theorem yu (y0:Int) (free0 free1 free2:Addr) {h:ae} {Q:VH} (H:zA y0 free0 free1 free2 h Q):aq P dN #[(.int .i64 y0),(.pointer (some free0)),(.pointer (some free1)),(.pointer (some free2))] h Q:=
 @aA P dN Tryz.f127 Ag [(.int .i64 y0),(.pointer (some free0)),(.pointer (some free1)),(.pointer (some free2))] h Q aR Tryz.func127 Tryz.call127 (by kernel_rfl) (Eq.mpr (by kernel_rfl) H)
def EK (y0:TS A2) (h:ae) (Q:VH):Prop:=
 aW h (.cells (aP A2 y0).toArray 32 (0,0)) fun b1 h2=>
 aW h2 (.map #[] 0) fun r4 h3=>
 aW h3 (.cells #[(.map none)] 125 (0,0)) fun b5 h6=>
 bu h6 ⟨b5,0,none⟩ (.map (some r4)) fun h7=>
 aW h7 (.cells #[.nilFunc] 90 (0,0)) fun b8 h9=>
 bu h9 ⟨b8,0,none⟩ (.func (.func dN) #[] #[(.pointer (some ⟨b1,0,none⟩)),(.pointer (some ⟨b5,0,none⟩)),(.pointer (some ⟨b8,0,none⟩))]) fun h10=>
 tn h10 ⟨b5,0,none⟩ fun m11=>
 ah .i64 h10 ⟨b1,4,none⟩ fun n12=>
 updB .i64 m11 n12 (.int .i64 0) h10 fun h13=>
 Mr h13 ⟨b8,0,none⟩ fun v14=>
 ah .i64 h13 ⟨b1,4,none⟩ fun n15=>
 fw P v14 [(.int .i64 n15)] h13 fun v16 h17=>
 v16=(.tuple #[])∧
 tn h17 ⟨b5,0,none⟩ fun m18=>
 Q (.map m18) h17
noncomputable def D0:cz:=tb (ak .done []) (ak [] []) (ak none [])
theorem Bz (y0:TS A2) {h:ae} {Q:VH} (H:EK y0 h Q):aq P oa #[(bz A2 y0)] h Q:=
 @aA P oa Tryz.f78 D0 [(bz A2 y0)] h Q aR Tryz.func78 Tryz.call78 (by kernel_rfl) (Eq.mpr (by kernel_rfl) H)
def jK (Q:VH) (K1:(S3×Int×Int×Int×Unit)→ae→Prop) (y0p:OA) (y0n y0c:Nat) (y1 t7 t8:Int) (h1:ae):Prop:=
 aL (decide (t8<t7)) (
 bl y0p t8 y0n fun a2=>
 ah .i64 h1 (a2.add (t8.toNat*1)) fun n3=>
 aL (y1==n3) (
 Q (.int .i64 t8) h1) (
 K1 ((y0p,y0n,y0c),y1,t7,(IntKind.wrap .i64 (t8+1)),()) h1)) (
 Q (.int .i64 (-1:Int)) h1)
def lf (y0p:OA) (y0n y0c:Nat) (y1:Int) (h:ae) (Q:VH):Prop:=
 bB (S:=(S3×Int×Int×Int×Unit)) (fun K1 s h=>jK Q K1 s.1.1 s.1.2.1 s.1.2.2 s.2.1 s.2.2.1 s.2.2.2.1 h) ((y0p,y0n,y0c),y1,(y0n:Int),(0:Int),()) h
noncomputable def oH:cz:=tb (ak .done []) (ak [] [(2,[(0,SL),(1,I6),(7,I6),(8,I6)])]) (ak none [])
theorem nG (y0p:OA) (y0n y0c:Nat) (y1:Int) {h:ae} {Q:VH} (H:lf y0p y0n y0c y1 h Q):aq P eT #[(.slice y0p y0n y0c),(.int .i64 y1)] h Q:=
 @aA P eT Tryz.f189 oH [(.slice y0p y0n y0c),(.int .i64 y1)] h Q aR Tryz.func189 Tryz.call189 (by kernel_rfl) (Eq.mpr (by kernel_rfl) H)
def jL (y0p:OA) (y0n y0c:Nat) (y1:Int) (h:ae) (Q:VH):Prop:=
 aI P .i64 eT #[(.slice y0p y0n y0c),(.int .i64 y1)] h fun n2 h1=>
 Q (.bool (decide (n2≥0))) h1
noncomputable def lU:cz:=tb (ak .done []) (ak [] []) (ak none [])
theorem lL (y0p:OA) (y0n y0c:Nat) (y1:Int) {h:ae} {Q:VH} (H:jL y0p y0n y0c y1 h Q):aq P dC #[(.slice y0p y0n y0c),(.int .i64 y1)] h Q:=
 @aA P dC Tryz.f131 lU [(.slice y0p y0n y0c),(.int .i64 y1)] h Q aR Tryz.func131 Tryz.call131 (by kernel_rfl) (Eq.mpr (by kernel_rfl) H)
def EL (y0 y1:Option Addr) (h:ae) (Q:VH):Prop:=
 cH y1 fun a1=>
 ah .i64 h a1 fun n2=>
 aL (n2==10) (
 cH y0 fun a3=>
 ah .i64 h (a3.add 14) fun n4=>
 aL (n4==0) (
 cH y1 fun a5=>
 cH y1 fun a6=>
 ah .i64 h (a5.add 10) fun n7=>
 ah .i64 h (a6.add 11) fun n8=>
 cH y0 fun a9=>
 bu h (a9.add 14) (.int .i64 1) fun h10=>
 cH y0 fun a11=>
 bu h10 (a11.add 10) (.int .i64 n7) fun h12=>
 cH y0 fun a13=>
 bu h12 (a13.add 11) (.int .i64 n8) fun h14=>
 Q (.bool true) h14) (
 cH y1 fun a15=>
 ah .i64 h a15 fun n16=>
 aL (n16==9) (
 cH y0 fun a17=>
 ah .i64 h (a17.add 14) fun n18=>
 aL ((cS .i64 n18 2)==0) (
 cH y0 fun a19=>
 cH y1 fun a20=>
 cH y1 fun a21=>
 ah .i64 h (a19.add 14) fun n22=>
 ah .i64 h (a20.add 12) fun n23=>
 ah .i64 h (a21.add 13) fun n24=>
 cH y0 fun a25=>
 bu h (a25.add 14) (.int .i64 (DW .i64 n22 2)) fun h26=>
 cH y0 fun a27=>
 bu h26 (a27.add 12) (.int .i64 n23) fun h28=>
 cH y0 fun a29=>
 bu h28 (a29.add 13) (.int .i64 n24) fun h30=>
 Q (.bool true) h30) (
 Q (.bool false) h)) (
 Q (.bool false) h))) (
 cH y1 fun a31=>
 ah .i64 h a31 fun n32=>
 aL (n32==9) (
 cH y0 fun a33=>
 ah .i64 h (a33.add 14) fun n34=>
 aL ((cS .i64 n34 2)==0) (
 cH y0 fun a35=>
 cH y1 fun a36=>
 cH y1 fun a37=>
 ah .i64 h (a35.add 14) fun n38=>
 ah .i64 h (a36.add 12) fun n39=>
 ah .i64 h (a37.add 13) fun n40=>
 cH y0 fun a41=>
 bu h (a41.add 14) (.int .i64 (DW .i64 n38 2)) fun h42=>
 cH y0 fun a43=>
 bu h42 (a43.add 12) (.int .i64 n39) fun h44=>
 cH y0 fun a45=>
 bu h44 (a45.add 13) (.int .i64 n40) fun h46=>
 Q (.bool true) h46) (
 Q (.bool false) h)) (
 Q (.bool false) h))
noncomputable def D1:cz:=tb (ak .done [(3,(bD [0,1,2,3,4,5,7,8,9,6,10,11,12] (.alt 13 (bD [14,15] (.alt 16 (bD [17,18] (.alt 19 .done .stop)) .stop)) .stop))),(5,(bD [0,1,2,3,4,5,8,9,10,12,13,14,6,7,11,15,16,17] (.alt 18 (bD [19,20] (.alt 21 (bD [22,23] (.alt 24 .done .stop)) .stop)) .stop)))]) (ak [] []) (ak none [])
theorem BA (y0 y1:Option Addr) {h:ae} {Q:VH} (H:EL y0 y1 h Q):aq P ob #[(.pointer y0),(.pointer y1)] h Q:=
 @aA P ob Tryz.f132 D1 [(.pointer y0),(.pointer y1)] h Q aR Tryz.func132 Tryz.call132 (by kernel_rfl) (Eq.mpr (by kernel_rfl) H)
def uT (Q:VH) (K1:(Option Addr×Option Nat×Int×Int×Unit)→ae→Prop) (K2:YH Q5) (K3:(Option Addr×Option Nat×Int×Int×Int×Int×Unit)→ae→Prop) (K4:YH RL) (y0:Option Addr) (y1:Option Nat) (y5 y9 y14 t116 t117:Int) (t127_p:OA) (t127_n t127_c:Nat) (t128 t129:Int) (h42:ae):Prop:=
 aL (decide (t129<t128)) (
 bl t127_p t129 t127_n fun a43=>
 ah .i64 h42 (a43.add (t129.toNat*1)) fun n44=>
 aL (n44==y9) (
 aL ((IntKind.wrap .i64 (y14+1)) !=y9) (
 cH y0 fun a45=>
 av h42 (a45.add 3) fun p46 l46 c46=>
 bl p46 y14 l46 fun a47=>
 av h42 (Addr.add (a47.add (y14.toNat*15)) 1) fun p48 l48 c48=>
 bl p48 t129 l48 fun a49=>
 bu h42 (a49.add (t129.toNat*1)) (.int .i64 (IntKind.wrap .i64 (y5+1))) fun h50=>
 K4 (y0,y1,y5,y9,y14,t116,t117,(t127_p,t127_n,t127_c),t128,(IntKind.wrap .i64 (t129+1)),()) h50) (
 K4 (y0,y1,y5,y9,y14,t116,t117,(t127_p,t127_n,t127_c),t128,(IntKind.wrap .i64 (t129+1)),()) h42)) (
 K4 (y0,y1,y5,y9,y14,t116,t117,(t127_p,t127_n,t127_c),t128,(IntKind.wrap .i64 (t129+1)),()) h42)) (
 K3 (y0,y1,y5,y9,t116,(IntKind.wrap .i64 (t117+1)),()) h42)
def oI (Q:VH) (K1:(Option Addr×Option Nat×Int×Int×Unit)→ae→Prop) (K2:YH Q5) (K3:(Option Addr×Option Nat×Int×Int×Int×Int×Unit)→ae→Prop) (y0:Option Addr) (y1:Option Nat) (y5 y9 t116 t117:Int) (h37:ae):Prop:=
 aL (decide (t117<t116)) (
 cH y0 fun a38=>
 av h37 (a38.add 3) fun p39 l39 c39=>
 bl p39 t117 l39 fun a40=>
 av h37 (Addr.add (a40.add (t117.toNat*15)) 1) fun p41 l41 c41=>
 bB (S:=RL) (fun K4 s h=>uT Q K1 K2 K3 K4 s.1 s.2.1 s.2.2.1 s.2.2.2.1 s.2.2.2.2.1 s.2.2.2.2.2.1 s.2.2.2.2.2.2.1 s.2.2.2.2.2.2.2.1.1 s.2.2.2.2.2.2.2.1.2.1 s.2.2.2.2.2.2.2.1.2.2 s.2.2.2.2.2.2.2.2.1 s.2.2.2.2.2.2.2.2.2.1 h) (y0,y1,y5,y9,t117,t116,t117,(p41,l41,c41),(l41:Int),(0:Int),()) h37) (
 cH y0 fun a51=>
 ah .i64 h37 (a51.add 4) fun n52=>
 aL (n52==y9) (
 cH y0 fun a53=>
 bu h37 (a53.add 4) (.int .i64 (IntKind.wrap .i64 (y5+1))) fun h54=>
 lG .i64 (.int .i64 0) y1 y9 h54 fun v56 b57=>
 ∃n58:Int,v56=(.int .i64 n58)∧
 updB .i64 y1 (IntKind.wrap .i64 (y5+1)) (.int .i64 n58) h54 fun h59=>
 MG .i64 y1 y9 h59 fun h60=>
 Q (.bool true) h60) (
 lG .i64 (.int .i64 0) y1 y9 h37 fun v62 b63=>
 ∃n64:Int,v62=(.int .i64 n64)∧
 updB .i64 y1 (IntKind.wrap .i64 (y5+1)) (.int .i64 n64) h37 fun h65=>
 MG .i64 y1 y9 h65 fun h66=>
 Q (.bool true) h66))
def wG (Q:VH) (K1:(Option Addr×Option Nat×Int×Int×Unit)→ae→Prop) (K2:YH Q5) (y0:Option Addr) (y1:Option Nat) (y5:Int) (y6:Addr) (y9 t21 t22:Int) (t77_p:OA) (t77_n t77_c:Nat) (t78 t79:Int) (h16:ae):Prop:=
 aL (decide (t79<t78)) (
 bl t77_p t79 t77_n fun a17=>
 aX A1 h16 (a17.add (t79.toNat*15)) fun x18=>
 aW h16 (.cells (aP A1 (zT A1)).toArray 62 (0,0)) fun b19 h20=>
 bt (aP A1 x18) h20 ⟨b19,0,none⟩ 0 fun h21=>
 lG .i64 (.int .i64 0) y1 (IntKind.wrap .i64 (t79+1)) h21 fun v23 b24=>
 ∃n25:Int,∃b26:Bool,(Value.tuple #[v23,.bool b24])=(.tuple #[(.int .i64 n25),(.bool b26)])∧
 aL b26 (
 av h21 ⟨b19,1,none⟩ fun p27 l27 c27=>
 aE P dC #[(.slice p27 l27 c27),(.int .i64 (IntKind.wrap .i64 (y5+1)))] h21 fun b29 h28=>
 aL b29 (
 K2 (y0,y1,y5,y6,(IntKind.wrap .i64 (t79+1)),t21,t22,(t77_p,t77_n,t77_c),t78,(IntKind.wrap .i64 (t79+1)),()) h28) (
 K2 (y0,y1,y5,y6,y9,t21,t22,(t77_p,t77_n,t77_c),t78,(IntKind.wrap .i64 (t79+1)),()) h28)) (
 K2 (y0,y1,y5,y6,y9,t21,t22,(t77_p,t77_n,t77_c),t78,(IntKind.wrap .i64 (t79+1)),()) h21)) (
 cH y0 fun a30=>
 av h16 (a30.add 3) fun p31 l31 c31=>
 bl p31 (IntKind.wrap .i64 (y9-1)) l31 fun a32=>
 aE P ob #[(.pointer (some y6)),(.pointer (some (a32.add ((IntKind.wrap .i64 (y9-1)).toNat*15))))] h16 fun b34 h33=>
 aL (!b34) (
 K1 (y0,y1,t21,(IntKind.wrap .i64 (t22+1)),()) h33) (
 cH y0 fun a35=>
 av h33 (a35.add 3) fun p36 l36 c36=>
 bB (S:=(Option Addr×Option Nat×Int×Int×Int×Int×Unit)) (fun K3 s h=>oI Q K1 K2 K3 s.1 s.2.1 s.2.2.1 s.2.2.2.1 s.2.2.2.2.1 s.2.2.2.2.2.1 h) (y0,y1,y5,y9,(l36:Int),(0:Int),()) h33))
def wH (Q:VH) (K1:(Option Addr×Option Nat×Int×Int×Unit)→ae→Prop) (y0:Option Addr) (y1:Option Nat) (y5:Int) (y6:Addr) (t21 t22:Int) (h13:ae):Prop:=
 cH y0 fun a14=>
 av h13 (a14.add 3) fun p15 l15 c15=>
 bB (S:=Q5) (fun K2 s h=>wG Q K1 K2 s.1 s.2.1 s.2.2.1 s.2.2.2.1 s.2.2.2.2.1 s.2.2.2.2.2.1 s.2.2.2.2.2.2.1 s.2.2.2.2.2.2.2.1.1 s.2.2.2.2.2.2.2.1.2.1 s.2.2.2.2.2.2.2.1.2.2 s.2.2.2.2.2.2.2.2.1 s.2.2.2.2.2.2.2.2.2.1 h) (y0,y1,y5,y6,(0:Int),t21,t22,(p15,l15,c15),(l15:Int),(0:Int),()) h13
def wI (Q:VH) (K1:(Option Addr×Option Nat×Int×Int×Unit)→ae→Prop) (y0:Option Addr) (y1:Option Nat) (t21 t22:Int) (h3:ae):Prop:=
 aL (decide (t22<t21)) (
 cH y0 fun a4=>
 av h3 (a4.add 3) fun p5 l5 c5=>
 bl p5 t22 l5 fun a6=>
 lG .i64 (.int .i64 0) y1 (IntKind.wrap .i64 (t22+1)) h3 fun v8 b9=>
 ∃n10:Int,∃b11:Bool,(Value.tuple #[v8,.bool b9])=(.tuple #[(.int .i64 n10),(.bool b11)])∧
 ∃J12:(Option Addr×Option Nat×Int×Addr×Int×Int×Unit)→ae→Prop,(∀s h,J12 s h→wH Q K1 s.1 s.2.1 s.2.2.1 s.2.2.2.1 s.2.2.2.2.1 s.2.2.2.2.2.1 h)∧
 aL (!b11) (
 K1 (y0,y1,t21,(IntKind.wrap .i64 (t22+1)),()) h3) (
 aL (n10 !=1) (
 K1 (y0,y1,t21,(IntKind.wrap .i64 (t22+1)),()) h3) (
 cH y0 fun a67=>
 ah .i64 h3 (a67.add 4) fun n68=>
 aL ((IntKind.wrap .i64 (t22+1))==n68) (
 K1 (y0,y1,t21,(IntKind.wrap .i64 (t22+1)),()) h3) (
 cH (some (a6.add (t22.toNat*15))) fun a69=>
 ah .i64 h3 a69 fun n70=>
 aL (n70 !=1) (
 cH (some (a6.add (t22.toNat*15))) fun a71=>
 ah .i64 h3 a71 fun n72=>
 aL (n72 !=2) (
 cH (some (a6.add (t22.toNat*15))) fun a73=>
 ah .i64 h3 a73 fun n74=>
 aL (n74 !=6) (
 K1 (y0,y1,t21,(IntKind.wrap .i64 (t22+1)),()) h3) (
 J12 (y0,y1,t22,Addr.add a6 (t22.toNat*15),t21,t22,()) h3)) (
 J12 (y0,y1,t22,Addr.add a6 (t22.toNat*15),t21,t22,()) h3)) (
 J12 (y0,y1,t22,Addr.add a6 (t22.toNat*15),t21,t22,()) h3))))) (
 Q (.bool false) h3)
def EM (y0:Option Addr) (y1:Option Nat) (h:ae) (Q:VH):Prop:=
 cH y0 fun a1=>
 av h (a1.add 3) fun p2 l2 c2=>
 bB (S:=(Option Addr×Option Nat×Int×Int×Unit)) (fun K1 s h=>wI Q K1 s.1 s.2.1 s.2.2.1 s.2.2.2.1 h) (y0,y1,(l2:Int),(0:Int),()) h
noncomputable def D2:cz:=tb (ak .done []) (ak [] [(2,[(0,.sc (.ptr)),(1,.sc (.map)),(21,I6),(22,I6)]),(9,[(0,.sc (.ptr)),(1,.sc (.map)),(5,I6),(6,.sc (.adr)),(9,I6),(21,I6),(22,I6),(77,SL),(78,I6),(79,I6)]),(17,[(0,.sc (.ptr)),(1,.sc (.map)),(5,I6),(9,I6),(116,I6),(117,I6)]),(20,[(0,.sc (.ptr)),(1,.sc (.map)),(5,I6),(9,I6),(14,I6),(116,I6),(117,I6),(127,SL),(128,I6),(129,I6)])]) (ak none [(7,some [(0,.sc (.ptr)),(1,.sc (.map)),(5,I6),(6,.sc (.adr)),(21,I6),(22,I6)])])
theorem BB (y0:Option Addr) (y1:Option Nat) {h:ae} {Q:VH} (H:EM y0 y1 h Q):aq P oc #[(.pointer y0),(.map y1)] h Q:=
 @aA P oc Tryz.f79 D2 [(.pointer y0),(.map y1)] h Q aR Tryz.func79 Tryz.call79 (by kernel_rfl) (Eq.mpr (by kernel_rfl) H)
def uU (Q:VH) (K1:(Addr×Addr×Option Nat×Unit)→ae→Prop) (K2:YH Q6) (K3:YH Rl) (K4:YH RM) (y1 t2:Addr) (y4:Option Nat) (y5p:OA) (y5n y5c:Nat) (y11:Addr) (t52_p:OA) (t52_n t52_c:Nat) (t53 t54:Int) (t59_p:OA) (t59_n t59_c:Nat) (t60 t61:Int) (h49:ae):Prop:=
 aL (decide (t61<t60)) (
 bl t59_p t61 t59_n fun a50=>
 ah .i64 h49 (a50.add (t61.toNat*1)) fun n51=>
 av h49 (y11.add 1) fun p52 l52 c52=>
 lG .i64 (.int .i64 0) y4 n51 h49 fun v54 b55=>
 ∃n56:Int,v54=(.int .i64 n56)∧
 bl p52 t61 l52 fun a57=>
 bu h49 (a57.add (t61.toNat*1)) (.int .i64 n56) fun h58=>
 K4 (y1,t2,y4,(y5p,y5n,y5c),y11,(t52_p,t52_n,t52_c),t53,t54,(t59_p,t59_n,t59_c),t60,(IntKind.wrap .i64 (t61+1)),()) h58) (
 K3 (y1,t2,y4,(y5p,y5n,y5c),(t52_p,t52_n,t52_c),t53,(IntKind.wrap .i64 (t54+1)),()) h49)
def oJ (Q:VH) (K1:(Addr×Addr×Option Nat×Unit)→ae→Prop) (K2:YH Q6) (K3:YH Rl) (y1 t2:Addr) (y4:Option Nat) (y5p:OA) (y5n y5c:Nat) (t52_p:OA) (t52_n t52_c:Nat) (t53 t54:Int) (h42:ae):Prop:=
 aL (decide (t54<t53)) (
 bl t52_p t54 t52_n fun a43=>
 aX A1 h42 (a43.add (t54.toNat*15)) fun x44=>
 aW h42 (.cells (aP A1 (zT A1)).toArray 62 (0,0)) fun b45 h46=>
 bt (aP A1 x44) h46 ⟨b45,0,none⟩ 0 fun h47=>
 av h47 ⟨b45,1,none⟩ fun p48 l48 c48=>
 bB (S:=RM) (fun K4 s h=>uU Q K1 K2 K3 K4 s.1 s.2.1 s.2.2.1 s.2.2.2.1.1 s.2.2.2.1.2.1 s.2.2.2.1.2.2 s.2.2.2.2.1 s.2.2.2.2.2.1.1 s.2.2.2.2.2.1.2.1 s.2.2.2.2.2.1.2.2 s.2.2.2.2.2.2.1 s.2.2.2.2.2.2.2.1 s.2.2.2.2.2.2.2.2.1.1 s.2.2.2.2.2.2.2.2.1.2.1 s.2.2.2.2.2.2.2.2.1.2.2 s.2.2.2.2.2.2.2.2.2.1 s.2.2.2.2.2.2.2.2.2.2.1 h) (y1,t2,y4,(y5p,y5n,y5c),⟨b45,0,none⟩,(t52_p,t52_n,t52_c),t53,t54,(p48,l48,c48),(l48:Int),(0:Int),()) h47) (
 ah .i64 h42 (y1.add 4) fun n59=>
 lG .i64 (.int .i64 0) y4 n59 h42 fun v61 b62=>
 ∃n63:Int,v61=(.int .i64 n63)∧
 bu h42 (y1.add 3) (.slice y5p y5n y5c) fun h64=>
 bu h64 (y1.add 4) (.int .i64 n63) fun h65=>
 aX A2 h65 y1 fun x66=>
 bt (aP A2 x66) h65 t2 0 fun h67=>
 aX A2 h67 t2 fun x68=>
 Q (bz A2 x68) h67)
def qd (Q:VH) (K1:(Addr×Addr×Option Nat×Unit)→ae→Prop) (K2:YH Q6) (y1 t2:Addr) (y3 y4:Option Nat) (y5p:OA) (y5n y5c:Nat) (t27_p:OA) (t27_n t27_c:Nat) (t28 t29:Int) (h25:ae):Prop:=
 aL (decide (t29<t28)) (
 bl t27_p t29 t27_n fun a26=>
 aX A1 h25 (a26.add (t29.toNat*15)) fun x27=>
 aW h25 (.cells (aP A1 (zT A1)).toArray 62 (0,0)) fun b28 h29=>
 bt (aP A1 x27) h29 ⟨b28,0,none⟩ 0 fun h30=>
 lG .i64 (.int .i64 0) y3 (IntKind.wrap .i64 (t29+1)) h30 fun v32 b33=>
 ∃n34:Int,∃b35:Bool,(Value.tuple #[v32,.bool b33])=(.tuple #[(.int .i64 n34),(.bool b35)])∧
 aL b35 (
 aX A1 h30 ⟨b28,0,none⟩ fun x36=>
 aW h30 (.cells (aP A1 x36).toArray 62 (0,0)) fun b37 h38=>
 jm 62 15 168 (bz A1 (zT A1)) y5p y5n y5c (some ⟨b37,0,none⟩) 1 h38 fun p39 l39 c39 h40=>
 updB .i64 y4 (IntKind.wrap .i64 (t29+1)) (.int .i64 (l39:Int)) h40 fun h41=>
 K2 (y1,t2,y3,y4,(p39,l39,c39),(t27_p,t27_n,t27_c),t28,(IntKind.wrap .i64 (t29+1)),()) h41) (
 K2 (y1,t2,y3,y4,(y5p,y5n,y5c),(t27_p,t27_n,t27_c),t28,(IntKind.wrap .i64 (t29+1)),()) h30)) (
 bB (S:=Rl) (fun K3 s h=>oJ Q K1 K2 K3 s.1 s.2.1 s.2.2.1 s.2.2.2.1.1 s.2.2.2.1.2.1 s.2.2.2.1.2.2 s.2.2.2.2.1.1 s.2.2.2.2.1.2.1 s.2.2.2.2.1.2.2 s.2.2.2.2.2.1 s.2.2.2.2.2.2.1 h) (y1,t2,y4,(y5p,y5n,y5c),(y5p,y5n,y5c),(y5n:Int),(0:Int),()) h25)
def wJ (Q:VH) (K1:(Addr×Addr×Option Nat×Unit)→ae→Prop) (y1 t2:Addr) (y3:Option Nat) (h18:ae):Prop:=
 aE P oc #[(.pointer (some y1)),(.map y3)] h18 fun b20 h19=>
 aL b20 (
 K1 (y1,t2,y3,()) h19) (
 aW h19 (.map #[] 0) fun r22 h21=>
 updB .i64 (some r22) 0 (.int .i64 0) h21 fun h23=>
 av h23 (y1.add 3) fun p24 l24 c24=>
 bB (S:=Q6) (fun K2 s h=>qd Q K1 K2 s.1 s.2.1 s.2.2.1 s.2.2.2.1 s.2.2.2.2.1.1 s.2.2.2.2.1.2.1 s.2.2.2.2.1.2.2 s.2.2.2.2.2.1.1 s.2.2.2.2.2.1.2.1 s.2.2.2.2.2.1.2.2 s.2.2.2.2.2.2.1 s.2.2.2.2.2.2.2.1 h) (y1,t2,y3,(some r22),(none,0,0),(p24,l24,c24),(l24:Int),(0:Int),()) h23)
def EN (y0:TS A2) (h:ae) (Q:VH):Prop:=
 aW h (.cells (aP A2 y0).toArray 32 (0,0)) fun b1 h2=>
 aW h2 (.cells (aP A2 (zT A2)).toArray 32 (0,0)) fun b3 h4=>
 aX A2 h4 ⟨b1,0,none⟩ fun x5=>
 aI P .i64 jd #[(bz A2 x5)] h4 fun n7 h6=>
 aL (n7 !=0) (
 bt [(.int .i64 0),(.int .i64 0),(.int .i64 0),(.slice none 0 0),(.int .i64 0)] h6 ⟨b3,0,none⟩ 0 fun h8=>
 aX A2 h8 ⟨b3,0,none⟩ fun x9=>
 Q (bz A2 x9) h8) (
 aX A2 h6 ⟨b1,0,none⟩ fun x10=>
 aq P qo #[(bz A2 x10)] h6 fun v12 h11=>
 E3 A2 fun x13=>v12=(bz A2 x13)∧
 bt (aP A2 x13) h11 ⟨b1,0,none⟩ 0 fun h14=>
 aX A2 h14 ⟨b1,0,none⟩ fun x15=>
 Oo P oa #[(bz A2 x15)] h14 fun m17 h16=>
 bB (S:=(Addr×Addr×Option Nat×Unit)) (fun K1 s h=>wJ Q K1 s.1 s.2.1 s.2.2.1 h) (⟨b1,0,none⟩,⟨b3,0,none⟩,m17,()) h16)
noncomputable def D3:cz:=tb (ak .done []) (ak [] [(5,[(1,.sc (.adr)),(2,.sc (.adr)),(3,.sc (.map))]),(9,[(1,.sc (.adr)),(2,.sc (.adr)),(3,.sc (.map)),(4,.sc (.map)),(5,SL),(27,SL),(28,I6),(29,I6)]),(17,[(1,.sc (.adr)),(2,.sc (.adr)),(4,.sc (.map)),(5,SL),(52,SL),(53,I6),(54,I6)]),(20,[(1,.sc (.adr)),(2,.sc (.adr)),(4,.sc (.map)),(5,SL),(11,.sc (.adr)),(52,SL),(53,I6),(54,I6),(59,SL),(60,I6),(61,I6)])]) (ak none [])
theorem BC (y0:TS A2) {h:ae} {Q:VH} (H:EN y0 h Q):aq P od #[(bz A2 y0)] h Q:=
 @aA P od Tryz.f33 D3 [(bz A2 y0)] h Q aR Tryz.func33 Tryz.call33 (by kernel_rfl) (Eq.mpr (by kernel_rfl) H)
def zB (y0:TS A2) (h:ae) (Q:VH):Prop:=
 aW h (.cells (aP A2 y0).toArray 32 (0,0)) fun b1 h2=>
 aX A2 h2 ⟨b1,0,none⟩ fun x3=>
 aq P fI #[(bz A2 x3)] h2 fun v5 h4=>
 ∃p6:Option Addr,∃l6:Nat,∃c6:Nat,∃p7:Option Addr,∃l7:Nat,∃c7:Nat,∃p8:Option Addr,∃l8:Nat,∃c8:Nat,∃n9:Int,v5=(.tuple #[(.agg #[(.slice p6 l6 c6),(.slice p7 l7 c7),(.slice p8 l8 c8)]),(.int .i64 n9)])∧
 aW h4 (.cells #[(.slice none 0 0),(.slice none 0 0),(.slice none 0 0)] 139 (0,0)) fun b10 h11=>
 bu h11 ⟨b10,0,none⟩ (.slice p6 l6 c6) fun h12=>
 bu h12 ⟨b10,1,none⟩ (.slice p7 l7 c7) fun h13=>
 bu h13 ⟨b10,2,none⟩ (.slice p8 l8 c8) fun h14=>
 av h14 ⟨b10,2,none⟩ fun p15 l15 c15=>
 Q (.slice p15 l15 c15) h14
noncomputable def Ah:cz:=tb (ak .done []) (ak [] []) (ak none [])
theorem yv (y0:TS A2) {h:ae} {Q:VH} (H:zB y0 h Q):aq P je #[(bz A2 y0)] h Q:=
 @aA P je Tryz.f80 Ah [(bz A2 y0)] h Q aR Tryz.func80 Tryz.call80 (by kernel_rfl) (Eq.mpr (by kernel_rfl) H)
def sw (Q:VH) (K1:YH RN) (y0:Value) (t1:Addr) (t6_p:OA) (t6_n t6_c:Nat) (t7 t8:Int) (h4:ae):Prop:=
 aL (decide (t8<t7)) (
 bl t6_p t8 t6_n fun a5=>
 ah .i64 h4 (a5.add (t8.toNat*1)) fun n6=>
 av h4 (t1.add 3) fun p7 l7 c7=>
 bl p7 (IntKind.wrap .i64 (n6-1)) l7 fun a8=>
 aX A1 h4 (a8.add ((IntKind.wrap .i64 (n6-1)).toNat*15)) fun x9=>
 fw P y0 [(.int .i64 n6),(bz A1 x9)] h4 fun v10 h11=>
 ∃b12:Bool,v10=(.bool b12)∧
 aL (!b12) (
 Q (.tuple #[]) h11) (
 K1 (y0,t1,(t6_p,t6_n,t6_c),t7,(IntKind.wrap .i64 (t8+1)),()) h11)) (
 Q (.tuple #[]) h4)
def zC (y0:Value) (free0:Addr) (h:ae) (Q:VH):Prop:=
 aX A2 h free0 fun x1=>
 bM P hC #[(bz A2 x1)] h fun p3 l3 c3 h2=>
 bB (S:=RN) (fun K1 s h=>sw Q K1 s.1 s.2.1 s.2.2.1.1 s.2.2.1.2.1 s.2.2.1.2.2 s.2.2.2.1 s.2.2.2.2.1 h) (y0,free0,(p3,l3,c3),(l3:Int),(0:Int),()) h2
noncomputable def Ai:cz:=tb (ak .done []) (ak [] [(1,[(0,.sc (.any)),(1,.sc (.adr)),(6,SL),(7,I6),(8,I6)])]) (ak none [])
theorem yw (y0:Value) (free0:Addr) {h:ae} {Q:VH} (H:zC y0 free0 h Q):aq P hG #[y0,(.pointer (some free0))] h Q:=
 @aA P hG Tryz.f135 Ai [y0,(.pointer (some free0))] h Q aR Tryz.func135 Tryz.call135 (by kernel_rfl) (Eq.mpr (by kernel_rfl) H)
def EO (y0:TS A2) (h:ae) (Q:VH):Prop:=
 aW h (.cells (aP A2 y0).toArray 32 (0,0)) fun b1 h2=>
 Q (.func (.func hG) #[] #[(.pointer (some ⟨b1,0,none⟩))]) h2
noncomputable def D4:cz:=tb (ak .done []) (ak [] []) (ak none [])
theorem BD (y0:TS A2) {h:ae} {Q:VH} (H:EO y0 h Q):aq P jM #[(bz A2 y0)] h Q:=
 @aA P jM Tryz.f82 D4 [(bz A2 y0)] h Q aR Tryz.func82 Tryz.call82 (by kernel_rfl) (Eq.mpr (by kernel_rfl) H)
def uV (Q:VH) (K1:YH Y5) (y0p:OA) (y0n y0c:Nat) (y5p:OA) (y5n y5c:Nat) (t11_p:OA) (t11_n t11_c:Nat) (t12 t13:Int) (h3:ae):Prop:=
 aL (decide (t13<t12)) (
 bl t11_p t13 t11_n fun a4=>
 ah .i64 h3 (a4.add (t13.toNat*1)) fun n5=>
 bl y0p n5 y0n fun a6=>
 ah .i64 h3 (a6.add (n5.toNat*1)) fun n7=>
 bl y5p t13 y5n fun a8=>
 bu h3 (a8.add (t13.toNat*1)) (.int .i64 n7) fun h9=>
 K1 ((y0p,y0n,y0c),(y5p,y5n,y5c),(t11_p,t11_n,t11_c),t12,(IntKind.wrap .i64 (t13+1)),()) h9) (
 Q (.slice y5p y5n y5c) h3)
def BE (y0p:OA) (y0n y0c:Nat) (y1p:OA) (y1n y1c:Nat) (h:ae) (Q:VH):Prop:=
 zW 3 1 8 (.int .i64 0) (y1n:Int) (y1n:Int) h fun b1 h2=>
 bB (S:=Y5) (fun K1 s h=>uV Q K1 s.1.1 s.1.2.1 s.1.2.2 s.2.1.1 s.2.1.2.1 s.2.1.2.2 s.2.2.1.1 s.2.2.1.2.1 s.2.2.1.2.2 s.2.2.2.1 s.2.2.2.2.1 h) ((y0p,y0n,y0c),(some ⟨b1,0,none⟩,(y1n:Int).toNat,(y1n:Int).toNat),(y1p,y1n,y1c),(y1n:Int),(0:Int),()) h2
noncomputable def BF:cz:=tb (ak .done []) (ak [] [(3,[(0,SL),(5,SL),(11,SL),(12,I6),(13,I6)])]) (ak none [])
theorem Aj (y0p:OA) (y0n y0c:Nat) (y1p:OA) (y1n y1c:Nat) {h:ae} {Q:VH} (H:BE y0p y0n y0c y1p y1n y1c h Q):aq P iO #[(.slice y0p y0n y0c),(.slice y1p y1n y1c)] h Q:=
 @aA P iO Tryz.f84 BF [(.slice y0p y0n y0c),(.slice y1p y1n y1c)] h Q aR Tryz.func84 Tryz.call84 (by kernel_rfl) (Eq.mpr (by kernel_rfl) H)
def kr (Q:VH) (K1:(S3×Int×Int×Unit)→ae→Prop) (y0p:OA) (y0n y0c:Nat) (y3 y4:Int) (h5:ae):Prop:=
 aL (decide (y4<(y0n:Int))) (
 bl y0p y4 y0n fun a6=>
 ah .i64 h5 (a6.add (y4.toNat*1)) fun n7=>
 K1 ((y0p,y0n,y0c),(if n7<y3 then n7 else y3),(IntKind.wrap .i64 (y4+1)),()) h5) (
 Q (.int .i64 y3) h5)
def ks (Q:VH) (y0p:OA) (y0n y0c:Nat) (h2:ae):Prop:=
 bl y0p 0 y0n fun a3=>
 ah .i64 h2 (a3.add ((0:Int).toNat*1)) fun n4=>
 bB (S:=(S3×Int×Int×Unit)) (fun K1 s h=>kr Q K1 s.1.1 s.1.2.1 s.1.2.2 s.2.1 s.2.2.1 h) ((y0p,y0n,y0c),n4,(1:Int),()) h2
def mO (y0p:OA) (y0n y0c:Nat) (h:ae) (Q:VH):Prop:=
 ∃J1:(S3×Unit)→ae→Prop,(∀s h,J1 s h→ks Q s.1.1 s.1.2.1 s.1.2.2 h)∧
 aL (decide ((y0n:Int)<1)) (
 False) (
 J1 ((y0p,y0n,y0c),()) h)
noncomputable def qe:cz:=tb (ak .done []) (ak [] [(5,[(0,SL),(3,I6),(4,I6)])]) (ak none [(3,some [(0,SL)])])
theorem o0 (y0p:OA) (y0n y0c:Nat) {h:ae} {Q:VH} (H:mO y0p y0n y0c h Q):aq P fL #[(.slice y0p y0n y0c)] h Q:=
 @aA P fL Tryz.f133 qe [(.slice y0p y0n y0c)] h Q aR Tryz.func133 Tryz.call133 (by kernel_rfl) (Eq.mpr (by kernel_rfl) H)
def kv (Q:VH) (K1:(S3×Int×Int×Unit)→ae→Prop) (y0p:OA) (y0n y0c:Nat) (y3 y4:Int) (h5:ae):Prop:=
 aL (decide (y4<(y0n:Int))) (
 bl y0p y4 y0n fun a6=>
 ah .i64 h5 (a6.add (y4.toNat*1)) fun n7=>
 K1 ((y0p,y0n,y0c),(if n7>y3 then n7 else y3),(IntKind.wrap .i64 (y4+1)),()) h5) (
 Q (.int .i64 y3) h5)
def kw (Q:VH) (y0p:OA) (y0n y0c:Nat) (h2:ae):Prop:=
 bl y0p 0 y0n fun a3=>
 ah .i64 h2 (a3.add ((0:Int).toNat*1)) fun n4=>
 bB (S:=(S3×Int×Int×Unit)) (fun K1 s h=>kv Q K1 s.1.1 s.1.2.1 s.1.2.2 s.2.1 s.2.2.1 h) ((y0p,y0n,y0c),n4,(1:Int),()) h2
def mP (y0p:OA) (y0n y0c:Nat) (h:ae) (Q:VH):Prop:=
 ∃J1:(S3×Unit)→ae→Prop,(∀s h,J1 s h→kw Q s.1.1 s.1.2.1 s.1.2.2 h)∧
 aL (decide ((y0n:Int)<1)) (
 False) (
 J1 ((y0p,y0n,y0c),()) h)
noncomputable def qf:cz:=tb (ak .done []) (ak [] [(5,[(0,SL),(3,I6),(4,I6)])]) (ak none [(3,some [(0,SL)])])
theorem pb (y0p:OA) (y0n y0c:Nat) {h:ae} {Q:VH} (H:mP y0p y0n y0c h Q):aq P dT #[(.slice y0p y0n y0c)] h Q:=
 @aA P dT Tryz.f83 qf [(.slice y0p y0n y0c)] h Q aR Tryz.func83 Tryz.call83 (by kernel_rfl) (Eq.mpr (by kernel_rfl) H)
def mQ (Q:VH) (g_1 low_2 high_3 rates_4:Addr) (h19:ae):Prop:=
 aX A2 h19 g_1 fun x20=>
 aq P jM #[(bz A2 x20)] h19 fun v22 h21=>
 ∃v23:Value,v22=v23∧
 vY P v23 [.sc (.int .i64),.ag A1] (fun rdy24 busy24 l24 y24 R24 h25=>
 aW h25 (.cells (aP A1 (zT A1)).toArray 62 (0,0)) fun b26 h27=>
 bt (aP A1 y24.2.1) h27 ⟨b26,0,none⟩ 0 fun h28=>
 h28[l24]? =some rdy24∧
 av (Array.setIfInBounds h28 l24 busy24) rates_4 fun p29 l29 c29=>
 bl p29 y24.1 l29 fun a30=>
 ah .i64 (Array.setIfInBounds h28 l24 busy24) (a30.add (y24.1.toNat*1)) fun n31=>
 aL (n31==0) (
 R24 (Array.setIfInBounds h28 l24 busy24)) (
 av (Array.setIfInBounds h28 l24 busy24) rates_4 fun p32 l32 c32=>
 av (Array.setIfInBounds h28 l24 busy24) ⟨b26,1,none⟩ fun p33 l33 c33=>
 bl p33 0 l33 fun a34=>
 ah .i64 (Array.setIfInBounds h28 l24 busy24) (a34.add ((0:Int).toNat*1)) fun n35=>
 bl p32 n35 l32 fun a36=>
 ah .i64 (Array.setIfInBounds h28 l24 busy24) (a36.add (n35.toNat*1)) fun n37=>
 aX A1 (Array.setIfInBounds h28 l24 busy24) ⟨b26,0,none⟩ fun x38=>
 aq P ln #[(bz A1 x38)] (Array.setIfInBounds h28 l24 busy24) fun v40 h39=>
 ∃n41:Int,∃n42:Int,v40=(.tuple #[(.int .i64 n41),(.int .i64 n42)])∧
 av h39 low_2 fun p43 l43 c43=>
 av h39 low_2 fun p44 l44 c44=>
 av h39 ⟨b26,1,none⟩ fun p45 l45 c45=>
 bM P iO #[(.slice p44 l44 c44),(.slice p45 l45 c45)] h39 fun p47 l47 c47 h46=>
 aD h46 low_2=some (.slice p43 l43 c43)∧
 aI P .i64 fL #[(.slice p47 l47 c47)] h46 fun n49 h48=>
 aD h48 low_2=some (.slice p44 l44 c44)∧
 aD h48 low_2=some (.slice p43 l43 c43)∧
 bl p43 y24.1 l43 fun a50=>
 bu h48 (a50.add (y24.1.toNat*1)) (.int .i64 (IntKind.wrap .i64 (n49-(IntKind.wrap .i64 (n37*n41))))) fun h51=>
 av h51 high_3 fun p52 l52 c52=>
 av h51 high_3 fun p53 l53 c53=>
 av h51 ⟨b26,1,none⟩ fun p54 l54 c54=>
 aX A1 h51 ⟨b26,0,none⟩ fun x55=>
 bM P iO #[(.slice p53 l53 c53),(.slice p54 l54 c54)] h51 fun p57 l57 c57 h56=>
 gC (df 0 ⟨b26,0,none⟩ (aP A1 x55) 0) h56 (
 aD h56 high_3=some (.slice p52 l52 c52)∧
 aI P .i64 dT #[(.slice p57 l57 c57)] h56 fun n59 h58=>
 gC (df 0 ⟨b26,0,none⟩ (aP A1 x55) 0) h58 (
 aD h58 ⟨b26,1,none⟩=some (.slice p54 l54 c54)∧
 aD h58 high_3=some (.slice p53 l53 c53)∧
 aD h58 high_3=some (.slice p52 l52 c52)∧
 aI P .i64 gA #[(bz A1 x55)] h58 fun n61 h60=>
 aD h60 ⟨b26,1,none⟩=some (.slice p54 l54 c54)∧
 aD h60 high_3=some (.slice p53 l53 c53)∧
 aD h60 high_3=some (.slice p52 l52 c52)∧
 bl p52 y24.1 l52 fun a62=>
 bu h60 (a62.add (y24.1.toNat*1)) (.int .i64 (IntKind.wrap .i64 (n59+(IntKind.wrap .i64 (n37*(IntKind.wrap .i64 ((IntKind.wrap .i64 (n61-1))-n41))))))) fun h63=>
 R24 h63)))) h21 fun D64 h65=>
 av h65 low_2 fun p66 l66 c66=>
 av h65 high_3 fun p67 l67 c67=>
 bu h65 low_2 (.slice p66 l66 c66) fun h68=>
 aD h68 high_3=some (.slice p67 l67 c67)∧
 bu h68 high_3 (.slice p67 l67 c67) fun h69=>
 h69[D64]? =some (Obj.deferred (some []))∧
 av (Array.setIfInBounds h69 D64 (Obj.deferred none)) low_2 fun p70 l70 c70=>
 av (Array.setIfInBounds h69 D64 (Obj.deferred none)) high_3 fun p71 l71 c71=>
 Q (.tuple #[(.slice p70 l70 c70),(.slice p71 l71 c71)]) (Array.setIfInBounds h69 D64 (Obj.deferred none))
def zD (g_0:TS A2) (h:ae) (Q:VH):Prop:=
 aW h (.cells (aP A2 g_0).toArray 32 (0,0)) fun b1 h2=>
 aW h2 (.cells #[(.slice none 0 0)] 22 (0,0)) fun b3 h4=>
 aW h4 (.cells #[(.slice none 0 0)] 22 (0,0)) fun b5 h6=>
 aX A2 h6 ⟨b1,0,none⟩ fun x7=>
 bM P je #[(bz A2 x7)] h6 fun p9 l9 c9 h8=>
 aW h8 (.cells #[(.slice none 0 0)] 22 (0,0)) fun b10 h11=>
 bu h11 ⟨b10,0,none⟩ (.slice p9 l9 c9) fun h12=>
 av h12 ⟨b10,0,none⟩ fun p13 l13 c13=>
 aL ((p13).isNone) (
 bu h12 ⟨b3,0,none⟩ (.slice none 0 0) fun h14=>
 bu h14 ⟨b5,0,none⟩ (.slice none 0 0) fun h15=>
 av h15 ⟨b3,0,none⟩ fun p16 l16 c16=>
 av h15 ⟨b5,0,none⟩ fun p17 l17 c17=>
 Q (.tuple #[(.slice p16 l16 c16),(.slice p17 l17 c17)]) h15) (
 ∃J18:(Addr×Addr×Addr×Addr×Unit)→ae→Prop,(∀s h,J18 s h→mQ Q s.1 s.2.1 s.2.2.1 s.2.2.2.1 h)∧
 av h12 ⟨b10,0,none⟩ fun p72 l72 c72=>
 av h12 ⟨b10,0,none⟩ fun p73 l73 c73=>
 (
 zW 3 1 8 (.int .i64 0) (l72:Int) (l72:Int) h12 fun b74 h75=>
 aD h75 ⟨b10,0,none⟩=some (.slice p73 l73 c73)∧
 aD h75 ⟨b10,0,none⟩=some (.slice p72 l72 c72)∧
 (
 zW 3 1 8 (.int .i64 0) (l73:Int) (l73:Int) h75 fun b76 h77=>
 aD h77 ⟨b10,0,none⟩=some (.slice p73 l73 c73)∧
 aD h77 ⟨b10,0,none⟩=some (.slice p72 l72 c72)∧
 bu h77 ⟨b3,0,none⟩ (.slice (some ⟨b74,0,none⟩) ((l72:Int).toNat) ((l72:Int).toNat)) fun h78=>
 aD h78 ⟨b10,0,none⟩=some (.slice p73 l73 c73)∧
 bu h78 ⟨b5,0,none⟩ (.slice (some ⟨b76,0,none⟩) ((l73:Int).toNat) ((l73:Int).toNat)) fun h79=>
 J18 (⟨b1,0,none⟩,⟨b3,0,none⟩,⟨b5,0,none⟩,⟨b10,0,none⟩,()) h79)∧(
 bu h75 ⟨b3,0,none⟩ (.slice (some ⟨b74,0,none⟩) ((l72:Int).toNat) ((l72:Int).toNat)) fun h80=>
 aD h80 ⟨b10,0,none⟩=some (.slice p73 l73 c73)∧
 zW 3 1 8 (.int .i64 0) (l73:Int) (l73:Int) h80 fun b81 h82=>
 aD h82 ⟨b10,0,none⟩=some (.slice p73 l73 c73)∧
 aD h82 ⟨b10,0,none⟩=some (.slice p72 l72 c72)∧
 bu h82 ⟨b5,0,none⟩ (.slice (some ⟨b81,0,none⟩) ((l73:Int).toNat) ((l73:Int).toNat)) fun h83=>
 J18 (⟨b1,0,none⟩,⟨b3,0,none⟩,⟨b5,0,none⟩,⟨b10,0,none⟩,()) h83))∧(
 zW 3 1 8 (.int .i64 0) (l73:Int) (l73:Int) h12 fun b84 h85=>
 aD h85 ⟨b10,0,none⟩=some (.slice p73 l73 c73)∧
 aD h85 ⟨b10,0,none⟩=some (.slice p72 l72 c72)∧
 zW 3 1 8 (.int .i64 0) (l72:Int) (l72:Int) h85 fun b86 h87=>
 aD h87 ⟨b10,0,none⟩=some (.slice p73 l73 c73)∧
 aD h87 ⟨b10,0,none⟩=some (.slice p72 l72 c72)∧
 bu h87 ⟨b3,0,none⟩ (.slice (some ⟨b86,0,none⟩) ((l72:Int).toNat) ((l72:Int).toNat)) fun h88=>
 aD h88 ⟨b10,0,none⟩=some (.slice p73 l73 c73)∧
 bu h88 ⟨b5,0,none⟩ (.slice (some ⟨b84,0,none⟩) ((l73:Int).toNat) ((l73:Int).toNat)) fun h89=>
 J18 (⟨b1,0,none⟩,⟨b3,0,none⟩,⟨b5,0,none⟩,⟨b10,0,none⟩,()) h89))
noncomputable def Ak:cz:={sch:=ak .done [(4,(.early 0 (bD [1] (.early 3 (bD [4] (.alt 2 (.alt 5 (.alt 6 (.alt 7 .done .stop) .stop) (.alt 6 (.alt 5 (.alt 7 .done .stop) .stop) .stop)) (.alt 5 (.alt 2 (.alt 6 (.alt 7 .done .stop) .stop) .stop) .stop))))))),(9,(bD [1,0,2,3,4,5,6,7] .done)),(11,(bD [1,3,7,8,9] (.early 0 (.early 2 (.alt 4 (.alt 5 (.alt 6 (bD [10,11] (.alt 12 .done .stop)) .stop) .stop) .stop))))),(12,(bD [1,3,7,11] (.early 0 (.early 2 (.early 4 (.early 8 (.alt 5 (.alt 6 (.alt 9 (bD [10,12,13,14,15] (.alt 16 .done .stop)) .stop) .stop) .stop))))))),(13,(bD [0] (.early 1 (.alt 2 (.alt 3 .done .stop) .stop))))],lp:=ak [] [],jn:=ak none [(5,some [(1,.sc (.adr)),(2,.sc (.adr)),(3,.sc (.adr)),(4,.sc (.adr))])],rf:=ak [] [(8,[I6,.ag A1])]}
theorem yx (g_0:TS A2) {h:ae} {Q:VH} (H:zD g_0 h Q):aq P kO #[(bz A2 g_0)] h Q:=
 @aA P kO Tryz.f81 Ak [(bz A2 g_0)] h Q aR Tryz.func81 Tryz.call81 (by kernel_rfl) (Eq.mpr (by kernel_rfl) H)
def BG (y0:TS A1) (y1 y2:Int) (h:ae) (Q:VH):Prop:=
 aW h (.cells (aP A1 y0).toArray 62 (0,0)) fun b1 h2=>
 ah .i64 h2 ⟨b1,0,none⟩ fun n3=>
 aL (n3==7) (
 aL (y1==0) (
 Q (.int .i64 1) h2) (
 Ob y1 fun _=>
 Q (.int .i64 (IntKind.wrap .i64 ((IntKind.wrap .i64 (Int.tdiv (IntKind.wrap .i64 ((IntKind.wrap .i64 (y2+y1))-1)) y1))+1))) h2)) (
 aL (n3==8) (
 aL (y1==0) (
 Q (.int .i64 1) h2) (
 Ob y1 fun _=>
 Q (.int .i64 (IntKind.wrap .i64 ((IntKind.wrap .i64 (Int.tdiv (IntKind.wrap .i64 ((IntKind.wrap .i64 (y2+y1))-1)) y1))+1))) h2)) (
 aX A1 h2 ⟨b1,0,none⟩ fun x4=>
 aI P .i64 gA #[(bz A1 x4)] h2 fun n6 h5=>
 Q (.int .i64 n6) h5))
noncomputable def BH:cz:=tb (ak .done []) (ak [] []) (ak none [])
theorem Al (y0:TS A1) (y1 y2:Int) {h:ae} {Q:VH} (H:BG y0 y1 y2 h Q):aq P lZ #[(bz A1 y0),(.int .i64 y1),(.int .i64 y2)] h Q:=
 @aA P lZ Tryz.f85 BH [(bz A1 y0),(.int .i64 y1),(.int .i64 y2)] h Q aR Tryz.func85 Tryz.call85 (by kernel_rfl) (Eq.mpr (by kernel_rfl) H)
def qU (Q:VH) (K1:(Addr×Addr×Addr×Addr×Int×Int×Unit)→ae→Prop) (R32:ae→Prop) (K2:YH RO) (rates_3 high_5 out_6:Addr) (i_8:Int) (n_9:Addr) (top_10:Int) (t42_p:OA) (t42_n t42_c:Nat) (t43 t44:Int) (h44:ae):Prop:=
 aL (decide (t44<t43)) (
 bl t42_p t44 t42_n fun a45=>
 ah .i64 h44 (a45.add (t44.toNat*1)) fun n46=>
 aX A1 h44 n_9 fun x47=>
 av h44 out_6 fun p48 l48 c48=>
 av h44 out_6 fun p49 l49 c49=>
 bl p49 n46 l49 fun a50=>
 ah .i64 h44 (a50.add (n46.toNat*1)) fun n51=>
 av h44 rates_3 fun p52 l52 c52=>
 bl p52 i_8 l52 fun a53=>
 ah .i64 h44 (a53.add (i_8.toNat*1)) fun n54=>
 av h44 high_5 fun p55 l55 c55=>
 bl p55 n46 l55 fun a56=>
 ah .i64 h44 (a56.add (n46.toNat*1)) fun n57=>
 aI P .i64 lZ #[(bz A1 x47),(.int .i64 n54),(.int .i64 (IntKind.wrap .i64 (top_10-n57)))] h44 fun n59 h58=>
 aD h58 rates_3=some (.slice p52 l52 c52)∧
 aD h58 (a50.add (n46.toNat*1))=some (.int .i64 n51)∧
 aD h58 out_6=some (.slice p49 l49 c49)∧
 aD h58 out_6=some (.slice p48 l48 c48)∧
 bl p48 n46 l48 fun a60=>
 bu h58 (a60.add (n46.toNat*1)) (.int .i64 (if n59>n51 then n59 else n51)) fun h61=>
 K2 (rates_3,high_5,out_6,i_8,n_9,top_10,(t42_p,t42_n,t42_c),t43,(IntKind.wrap .i64 (t44+1)),()) h61) (
 R32 h44)
def jY (Q:VH) (K1:(Addr×Addr×Addr×Addr×Int×Int×Unit)→ae→Prop) (g_1 rates_3 high_5 out_6:Addr) (t24 t25:Int) (h24:ae):Prop:=
 aL (decide (t25<t24)) (
 av h24 out_6 fun p25 l25 c25=>
 bl p25 t25 l25 fun a26=>
 bu h24 (a26.add (t25.toNat*1)) (.int .i64 1) fun h27=>
 K1 (g_1,rates_3,high_5,out_6,t24,(IntKind.wrap .i64 (t25+1)),()) h27) (
 aX A2 h24 g_1 fun x28=>
 aq P jM #[(bz A2 x28)] h24 fun v30 h29=>
 ∃v31:Value,v30=v31∧
 vY P v31 [.sc (.int .i64),.ag A1] (fun rdy32 busy32 l32 y32 R32 h33=>
 aW h33 (.cells (aP A1 (zT A1)).toArray 62 (0,0)) fun b34 h35=>
 bt (aP A1 y32.2.1) h35 ⟨b34,0,none⟩ 0 fun h36=>
 h36[l32]? =some rdy32∧
 av (Array.setIfInBounds h36 l32 busy32) high_5 fun p37 l37 c37=>
 av (Array.setIfInBounds h36 l32 busy32) ⟨b34,1,none⟩ fun p38 l38 c38=>
 bM P iO #[(.slice p37 l37 c37),(.slice p38 l38 c38)] (Array.setIfInBounds h36 l32 busy32) fun p40 l40 c40 h39=>
 aI P .i64 dT #[(.slice p40 l40 c40)] h39 fun n42 h41=>
 av h41 ⟨b34,1,none⟩ fun p43 l43 c43=>
 bB (S:=RO) (fun K2 s h=>qU Q K1 R32 K2 s.1 s.2.1 s.2.2.1 s.2.2.2.1 s.2.2.2.2.1 s.2.2.2.2.2.1 s.2.2.2.2.2.2.1.1 s.2.2.2.2.2.2.1.2.1 s.2.2.2.2.2.2.1.2.2 s.2.2.2.2.2.2.2.1 s.2.2.2.2.2.2.2.2.1 h) (rates_3,high_5,out_6,y32.1,⟨b34,0,none⟩,n42,(p43,l43,c43),(l43:Int),(0:Int),()) h41) h29 fun D62 h63=>
 av h63 out_6 fun p64 l64 c64=>
 h63[D62]? =some (Obj.deferred (some []))∧
 Q (.slice p64 l64 c64) (Array.setIfInBounds h63 D62 (Obj.deferred none)))
def zE (g_0:TS A2) (h:ae) (Q:VH):Prop:=
 aW h (.cells (aP A2 g_0).toArray 32 (0,0)) fun b1 h2=>
 aX A2 h2 ⟨b1,0,none⟩ fun x3=>
 bM P je #[(bz A2 x3)] h2 fun p5 l5 c5 h4=>
 aW h4 (.cells #[(.slice none 0 0)] 22 (0,0)) fun b6 h7=>
 bu h7 ⟨b6,0,none⟩ (.slice p5 l5 c5) fun h8=>
 aX A2 h8 ⟨b1,0,none⟩ fun x9=>
 aq P kO #[(bz A2 x9)] h8 fun v11 h10=>
 ∃p12:Option Addr,∃l12:Nat,∃c12:Nat,∃p13:Option Addr,∃l13:Nat,∃c13:Nat,v11=(.tuple #[(.slice p12 l12 c12),(.slice p13 l13 c13)])∧
 aW h10 (.cells #[(.slice none 0 0)] 22 (0,0)) fun b14 h15=>
 bu h15 ⟨b14,0,none⟩ (.slice p13 l13 c13) fun h16=>
 av h16 ⟨b6,0,none⟩ fun p17 l17 c17=>
 zW 3 1 8 (.int .i64 0) (l17:Int) (l17:Int) h16 fun b18 h19=>
 aW h19 (.cells #[(.slice none 0 0)] 22 (0,0)) fun b20 h21=>
 bu h21 ⟨b20,0,none⟩ (.slice (some ⟨b18,0,none⟩) ((l17:Int).toNat) ((l17:Int).toNat)) fun h22=>
 av h22 ⟨b20,0,none⟩ fun p23 l23 c23=>
 bB (S:=(Addr×Addr×Addr×Addr×Int×Int×Unit)) (fun K1 s h=>jY Q K1 s.1 s.2.1 s.2.2.1 s.2.2.2.1 s.2.2.2.2.1 s.2.2.2.2.2.1 h) (⟨b1,0,none⟩,⟨b6,0,none⟩,⟨b14,0,none⟩,⟨b20,0,none⟩,(l23:Int),(0:Int),()) h22
noncomputable def Am:cz:={sch:=ak .done [(16,(bD [1,3,8,11,13,6] (.early 0 (.early 2 (bD [4] (.early 5 (.early 7 (bD [9,10] (.alt 12 (bD [14] (.alt 15 (bD [16] (.alt 17 (bD [18,19] (.alt 20 .done .stop)) .stop)) .stop)) .stop)))))))))],lp:=ak [] [(5,[(1,.sc (.adr)),(3,.sc (.adr)),(5,.sc (.adr)),(6,.sc (.adr)),(24,I6),(25,I6)]),(14,[(3,.sc (.adr)),(5,.sc (.adr)),(6,.sc (.adr)),(8,I6),(9,.sc (.adr)),(10,I6),(42,SL),(43,I6),(44,I6)])],jn:=ak none [],rf:=ak [] [(12,[I6,.ag A1])]}
theorem yy (g_0:TS A2) {h:ae} {Q:VH} (H:zE g_0 h Q):aq P hO #[(bz A2 g_0)] h Q:=
 @aA P hO Tryz.f34 Am [(bz A2 g_0)] h Q aR Tryz.func34 Tryz.call34 (by kernel_rfl) (Eq.mpr (by kernel_rfl) H)
def pc (Q:VH) (K1:YH Rm) (K2:YH RP) (y7p:OA) (y7n y7c:Nat) (y8:Int) (t20_p:OA) (t20_n t20_c:Nat) (t21 t22:Int) (h4:ae):Prop:=
 aL (decide (t22<t21)) (
 bl t20_p t22 t20_n fun a5=>
 ah .i64 h4 (a5.add (t22.toNat*1)) fun n6=>
 aL (decide (n6>(IntKind.wrap .i64 ((4096:Int)-y8)))) (
 Q (.tuple #[(.slice none 0 0),(.int .i64 0),(.int .i64 17)]) h4) (
 aW h4 (.cells #[(.int .i64 y8)] 3 (0,0)) fun b7 h8=>
 jm 3 1 8 (.int .i64 0) y7p y7n y7c (some ⟨b7,0,none⟩) 1 h8 fun p9 l9 c9 h10=>
 K2 ((p9,l9,c9),(IntKind.wrap .i64 ((IntKind.wrap .i64 (Int.tdiv (IntKind.wrap .i64 ((IntKind.wrap .i64 ((IntKind.wrap .i64 (y8+n6))+4))-1)) 4))*4)),(t20_p,t20_n,t20_c),t21,(IntKind.wrap .i64 (t22+1)),()) h10)) (
 Q (.tuple #[(.slice y7p y7n y7c),(.int .i64 y8),(.int .i64 0)]) h4)
def qV (Q:VH) (K1:YH Rm) (y0p:OA) (y0n y0c:Nat) (t11_p:OA) (t11_n t11_c:Nat) (t12 t13:Int) (h1:ae):Prop:=
 aL (decide (t13<t12)) (
 bl t11_p t13 t11_n fun a2=>
 ah .i64 h1 (a2.add (t13.toNat*1)) fun n3=>
 aL (decide (n3<0)) (
 Q (.tuple #[(.slice none 0 0),(.int .i64 0),(.int .i64 1)]) h1) (
 K1 ((y0p,y0n,y0c),(t11_p,t11_n,t11_c),t12,(IntKind.wrap .i64 (t13+1)),()) h1)) (
 bB (S:=RP) (fun K2 s h=>pc Q K1 K2 s.1.1 s.1.2.1 s.1.2.2 s.2.1 s.2.2.1.1 s.2.2.1.2.1 s.2.2.1.2.2 s.2.2.2.1 s.2.2.2.2.1 h) ((none,0,0),(0:Int),(y0p,y0n,y0c),(y0n:Int),(0:Int),()) h1)
def wK (y0p:OA) (y0n y0c:Nat) (h:ae) (Q:VH):Prop:=
 bB (S:=Rm) (fun K1 s h=>qV Q K1 s.1.1 s.1.2.1 s.1.2.2 s.2.1.1 s.2.1.2.1 s.2.1.2.2 s.2.2.1 s.2.2.2.1 h) ((y0p,y0n,y0c),(y0p,y0n,y0c),(y0n:Int),(0:Int),()) h
noncomputable def yz:cz:=tb (ak .done []) (ak [] [(2,[(0,SL),(11,SL),(12,I6),(13,I6)]),(10,[(7,SL),(8,I6),(20,SL),(21,I6),(22,I6)])]) (ak none [])
theorem wL (y0p:OA) (y0n y0c:Nat) {h:ae} {Q:VH} (H:wK y0p y0n y0c h Q):aq P j6 #[(.slice y0p y0n y0c)] h Q:=
 @aA P j6 Tryz.f36 yz [(.slice y0p y0n y0c)] h Q aR Tryz.func36 Tryz.call36 (by kernel_rfl) (Eq.mpr (by kernel_rfl) H)
def zF (y0:TS A1) (y1:Int) (h:ae) (Q:VH):Prop:=
 aW h (.cells (aP A1 y0).toArray 62 (0,0)) fun b1 h2=>
 ah .i64 h2 ⟨b1,0,none⟩ fun n3=>
 aL (n3==1) (
 aX A1 h2 ⟨b1,0,none⟩ fun x4=>
 aW h2 (.cells #[(.int .i64 y1)] 3 (0,0)) fun b5 h6=>
 aI P .i64 eQ #[(bz A1 x4),(.slice (some ⟨b5,0,none⟩) 1 1)] h6 fun n8 h7=>
 aL (n8==0) (
 av h7 ⟨b1,8,none⟩ fun p9 l9 c9=>
 Q (.int .i64 (l9:Int)) h7) (
 Q (.int .i64 0) h7)) (
 aL (n3==2) (
 aX A1 h2 ⟨b1,0,none⟩ fun x10=>
 aW h2 (.cells #[(.int .i64 y1)] 3 (0,0)) fun b11 h12=>
 aI P .i64 eQ #[(bz A1 x10),(.slice (some ⟨b11,0,none⟩) 1 1)] h12 fun n14 h13=>
 aL (n14==0) (
 av h13 ⟨b1,8,none⟩ fun p15 l15 c15=>
 Q (.int .i64 (l15:Int)) h13) (
 Q (.int .i64 0) h13)) (
 aL (n3==6) (
 aX A1 h2 ⟨b1,0,none⟩ fun x16=>
 aW h2 (.cells #[(.int .i64 y1)] 3 (0,0)) fun b17 h18=>
 aI P .i64 eQ #[(bz A1 x16),(.slice (some ⟨b17,0,none⟩) 1 1)] h18 fun n20 h19=>
 aL (n20==0) (
 av h19 ⟨b1,8,none⟩ fun p21 l21 c21=>
 Q (.int .i64 (l21:Int)) h19) (
 Q (.int .i64 0) h19)) (
 Q (.int .i64 0) h2)))
noncomputable def An:cz:=tb (ak .done []) (ak [] []) (ak none [])
theorem yA (y0:TS A1) (y1:Int) {h:ae} {Q:VH} (H:zF y0 y1 h Q):aq P kP #[(bz A1 y0),(.int .i64 y1)] h Q:=
 @aA P kP Tryz.f87 An [(bz A1 y0),(.int .i64 y1)] h Q aR Tryz.func87 Tryz.call87 (by kernel_rfl) (Eq.mpr (by kernel_rfl) H)
def BI (g_0:TS A2) (h:ae) (Q:VH):Prop:=
 aW h (.cells (aP A2 g_0).toArray 32 (0,0)) fun b1 h2=>
 aX A2 h2 ⟨b1,0,none⟩ fun x3=>
 bM P dS #[(bz A2 x3)] h2 fun p5 l5 c5 h4=>
 aW h4 (.cells #[(.slice none 0 0)] 22 (0,0)) fun b6 h7=>
 bu h7 ⟨b6,0,none⟩ (.slice p5 l5 c5) fun h8=>
 aW h8 (.cells #[(.int .i64 0)] 3 (0,0)) fun b9 h10=>
 bu h10 ⟨b9,0,none⟩ (.int .i64 0) fun h11=>
 aX A2 h11 ⟨b1,0,none⟩ fun x12=>
 aq P jM #[(bz A2 x12)] h11 fun v14 h13=>
 ∃v15:Value,v14=v15∧
 vY P v15 [.sc (.int .i64),.ag A1] (fun rdy16 busy16 l16 y16 R16 h17=>
 aW h17 (.cells (aP A1 (zT A1)).toArray 62 (0,0)) fun b18 h19=>
 bt (aP A1 y16.2.1) h19 ⟨b18,0,none⟩ 0 fun h20=>
 h20[l16]? =some rdy16∧
 aX A1 (Array.setIfInBounds h20 l16 busy16) ⟨b18,0,none⟩ fun x21=>
 ah .i64 (Array.setIfInBounds h20 l16 busy16) ⟨b9,0,none⟩ fun n22=>
 av (Array.setIfInBounds h20 l16 busy16) ⟨b6,0,none⟩ fun p23 l23 c23=>
 av (Array.setIfInBounds h20 l16 busy16) ⟨b18,1,none⟩ fun p24 l24 c24=>
 bl p24 0 l24 fun a25=>
 ah .i64 (Array.setIfInBounds h20 l16 busy16) (a25.add ((0:Int).toNat*1)) fun n26=>
 bl p23 n26 l23 fun a27=>
 ah .i64 (Array.setIfInBounds h20 l16 busy16) (a27.add (n26.toNat*1)) fun n28=>
 aI P .i64 kP #[(bz A1 x21),(.int .i64 n28)] (Array.setIfInBounds h20 l16 busy16) fun n30 h29=>
 aD h29 ⟨b6,0,none⟩=some (.slice p23 l23 c23)∧
 aD h29 ⟨b9,0,none⟩=some (.int .i64 n22)∧
 bu h29 ⟨b9,0,none⟩ (.int .i64 (IntKind.wrap .i64 (n22+n30))) fun h31=>
 R16 h31) h13 fun D32 h33=>
 ah .i64 h33 ⟨b9,0,none⟩ fun n34=>
 h33[D32]? =some (Obj.deferred (some []))∧
 Q (.int .i64 n34) (Array.setIfInBounds h33 D32 (Obj.deferred none))
noncomputable def BJ:cz:={sch:=ak .done [(5,(bD [3,1] (.early 0 (.early 2 (.alt 4 (bD [5] (.alt 6 (bD [7,8] (.alt 9 (bD [10] (.alt 11 .done .stop)) .stop)) .stop)) .stop)))))],lp:=ak [] [],jn:=ak none [],rf:=ak [] [(5,[I6,.ag A1])]}
theorem Ao (g_0:TS A2) {h:ae} {Q:VH} (H:BI g_0 h Q):aq P j7 #[(bz A2 g_0)] h Q:=
 @aA P j7 Tryz.f38 BJ [(bz A2 g_0)] h Q aR Tryz.func38 Tryz.call38 (by kernel_rfl) (Eq.mpr (by kernel_rfl) H)
def lg (Q:VH) (K1:YH RQ) (y0:Option Addr) (y1 y2:Int) (t10_p:OA) (t10_n t10_c:Nat) (t11 t12:Int) (h1:ae):Prop:=
 aL (decide (t12<t11)) (
 bl t10_p t12 t10_n fun a2=>
 ah .i64 h1 (a2.add (t12.toNat*1)) fun n3=>
 cH y0 fun a4=>
 qx h1 (a4.add 2) fun b5=>
 aL b5 (
 cH y0 fun a6=>
 bu h1 (a6.add 2) (.bool true) fun h7=>
 K1 (y0,y1,y2,(t10_p,t10_n,t10_c),t11,(IntKind.wrap .i64 (t12+1)),()) h7) (
 aL (decide (n3<y1)) (
 cH y0 fun a8=>
 bu h1 (a8.add 2) (.bool true) fun h9=>
 K1 (y0,y1,y2,(t10_p,t10_n,t10_c),t11,(IntKind.wrap .i64 (t12+1)),()) h9) (
 cH y0 fun a10=>
 bu h1 (a10.add 2) (.bool (decide (n3>y2))) fun h11=>
 K1 (y0,y1,y2,(t10_p,t10_n,t10_c),t11,(IntKind.wrap .i64 (t12+1)),()) h11))) (
 Q (.tuple #[]) h1)
def nO (y0:Option Addr) (y1 y2:Int) (y3p:OA) (y3n y3c:Nat) (h:ae) (Q:VH):Prop:=
 bB (S:=RQ) (fun K1 s h=>lg Q K1 s.1 s.2.1 s.2.2.1 s.2.2.2.1.1 s.2.2.2.1.2.1 s.2.2.2.1.2.2 s.2.2.2.2.1 s.2.2.2.2.2.1 h) (y0,y1,y2,(y3p,y3n,y3c),(y3n:Int),(0:Int),()) h
noncomputable def rS:cz:=tb (ak .done []) (ak [] [(1,[(0,.sc (.ptr)),(1,I6),(2,I6),(10,SL),(11,I6),(12,I6)])]) (ak none [])
theorem qg (y0:Option Addr) (y1 y2:Int) (y3p:OA) (y3n y3c:Nat) {h:ae} {Q:VH} (H:nO y0 y1 y2 y3p y3n y3c h Q):aq P cN #[(.pointer y0),(.int .i64 y1),(.int .i64 y2),(.slice y3p y3n y3c)] h Q:=
 @aA P cN Tryz.f197 rS [(.pointer y0),(.int .i64 y1),(.int .i64 y2),(.slice y3p y3n y3c)] h Q aR Tryz.func197 Tryz.call197 (by kernel_rfl) (Eq.mpr (by kernel_rfl) H)
def mR (Q:VH) (K1:(Option Addr×Int×Int×Int×Int×Unit)→ae→Prop) (y0:Option Addr) (y1 y2 t8 t9:Int) (h1:ae):Prop:=
 aL (decide (t9<t8)) (
 cH y0 fun a2=>
 av h1 (a2.add 1) fun p3 l3 c3=>
 aW h1 (.cells #[(.int .u8 (IntKind.wrap .u8 y1))] 5 (0,0)) fun b4 h5=>
 jm 5 1 1 (.int .u8 0) p3 l3 c3 (some ⟨b4,0,none⟩) 1 h5 fun p6 l6 c6 h7=>
 cH y0 fun a8=>
 bu h7 (a8.add 1) (.slice p6 l6 c6) fun h9=>
 K1 (y0,(gz y1 8),y2,t8,(IntKind.wrap .i64 (t9+1)),()) h9) (
 cH y0 fun a10=>
 bc P fk #[(.pointer (some a10)),(.int .i64 y2)] h1 fun h11=>
 Q (.tuple #[]) h11)
def qW (y0:Option Addr) (y1 y2:Int) (h:ae) (Q:VH):Prop:=
 aL ((y0).isNone) (
 Q (.tuple #[]) h) (
 bB (S:=(Option Addr×Int×Int×Int×Int×Unit)) (fun K1 s h=>mR Q K1 s.1 s.2.1 s.2.2.1 s.2.2.2.1 s.2.2.2.2.1 h) (y0,y1,y2,y2,(0:Int),()) h)
noncomputable def uB:cz:=tb (ak .done []) (ak [] [(2,[(0,.sc (.ptr)),(1,.sc (.int .u64)),(2,I6),(8,I6),(9,I6)])]) (ak none [])
theorem sy (y0:Option Addr) (y1 y2:Int) {h:ae} {Q:VH} (H:qW y0 y1 y2 h Q):aq P dz #[(.pointer y0),(.int .u64 y1),(.int .i64 y2)] h Q:=
 @aA P dz Tryz.f228 uB [(.pointer y0),(.int .u64 y1),(.int .i64 y2)] h Q aR Tryz.func228 Tryz.call228 (by kernel_rfl) (Eq.mpr (by kernel_rfl) H)
def pd (y0:Option Addr) (y1:Int) (h:ae) (Q:VH):Prop:=
 bc P dz #[(.pointer y0),(.int .u64 (IntKind.wrap .u64 y1)),(.int .i64 1)] h fun h1=>
 Q (.tuple #[]) h1
noncomputable def sA:cz:=tb (ak .done []) (ak [] []) (ak none [])
theorem rT (y0:Option Addr) (y1:Int) {h:ae} {Q:VH} (H:pd y0 y1 h Q):aq P fm #[(.pointer y0),(.int .i64 y1)] h Q:=
 @aA P fm Tryz.f198 sA [(.pointer y0),(.int .i64 y1)] h Q aR Tryz.func198 Tryz.call198 (by kernel_rfl) (Eq.mpr (by kernel_rfl) H)
def kx (Q:VH) (K1:YH Y1) (y0:Option Addr) (t9_p:OA) (t9_n t9_c:Nat) (t10 t11:Int) (h2:ae):Prop:=
 aL (decide (t11<t10)) (
 bl t9_p t11 t9_n fun a3=>
 ah .i64 h2 (a3.add (t11.toNat*1)) fun n4=>
 cH y0 fun a5=>
 bc P fm #[(.pointer (some a5)),(.int .i64 n4)] h2 fun h6=>
 K1 (y0,(t9_p,t9_n,t9_c),t10,(IntKind.wrap .i64 (t11+1)),()) h6) (
 Q (.tuple #[]) h2)
def mS (y0:Option Addr) (y1p:OA) (y1n y1c:Nat) (h:ae) (Q:VH):Prop:=
 bc P cN #[(.pointer y0),(.int .i64 0),(.int .i64 255),(.slice y1p y1n y1c)] h fun h1=>
 bB (S:=Y1) (fun K1 s h=>kx Q K1 s.1 s.2.1.1 s.2.1.2.1 s.2.1.2.2 s.2.2.1 s.2.2.2.1 h) (y0,(y1p,y1n,y1c),(y1n:Int),(0:Int),()) h1
noncomputable def qh:cz:=tb (ak .done []) (ak [] [(2,[(0,.sc (.ptr)),(9,SL),(10,I6),(11,I6)])]) (ak none [])
theorem pf (y0:Option Addr) (y1p:OA) (y1n y1c:Nat) {h:ae} {Q:VH} (H:mS y0 y1p y1n y1c h Q):aq P bU #[(.pointer y0),(.slice y1p y1n y1c)] h Q:=
 @aA P bU Tryz.f142 qh [(.pointer y0),(.slice y1p y1n y1c)] h Q aR Tryz.func142 Tryz.call142 (by kernel_rfl) (Eq.mpr (by kernel_rfl) H)
def pg (y0:Option Addr) (y1:Int) (h:ae) (Q:VH):Prop:=
 bc P dz #[(.pointer y0),(.int .u64 (IntKind.wrap .u64 y1)),(.int .i64 4)] h fun h1=>
 Q (.tuple #[]) h1
noncomputable def sB:cz:=tb (ak .done []) (ak [] []) (ak none [])
theorem rU (y0:Option Addr) (y1:Int) {h:ae} {Q:VH} (H:pg y0 y1 h Q):aq P dH #[(.pointer y0),(.int .i64 y1)] h Q:=
 @aA P dH Tryz.f199 sB [(.pointer y0),(.int .i64 y1)] h Q aR Tryz.func199 Tryz.call199 (by kernel_rfl) (Eq.mpr (by kernel_rfl) H)
def ky (Q:VH) (K1:YH Y1) (y0:Option Addr) (t9_p:OA) (t9_n t9_c:Nat) (t10 t11:Int) (h2:ae):Prop:=
 aL (decide (t11<t10)) (
 bl t9_p t11 t9_n fun a3=>
 ah .i64 h2 (a3.add (t11.toNat*1)) fun n4=>
 cH y0 fun a5=>
 bc P dH #[(.pointer (some a5)),(.int .i64 n4)] h2 fun h6=>
 K1 (y0,(t9_p,t9_n,t9_c),t10,(IntKind.wrap .i64 (t11+1)),()) h6) (
 Q (.tuple #[]) h2)
def mT (y0:Option Addr) (y1p:OA) (y1n y1c:Nat) (h:ae) (Q:VH):Prop:=
 bc P cN #[(.pointer y0),(.int .i64 (-2147483648:Int)),(.int .i64 2147483647),(.slice y1p y1n y1c)] h fun h1=>
 bB (S:=Y1) (fun K1 s h=>ky Q K1 s.1 s.2.1.1 s.2.1.2.1 s.2.1.2.2 s.2.2.1 s.2.2.2.1 h) (y0,(y1p,y1n,y1c),(y1n:Int),(0:Int),()) h1
noncomputable def qi:cz:=tb (ak .done []) (ak [] [(2,[(0,.sc (.ptr)),(9,SL),(10,I6),(11,I6)])]) (ak none [])
theorem ph (y0:Option Addr) (y1p:OA) (y1n y1c:Nat) {h:ae} {Q:VH} (H:mT y0 y1p y1n y1c h Q):aq P dU #[(.pointer y0),(.slice y1p y1n y1c)] h Q:=
 @aA P dU Tryz.f143 qi [(.pointer y0),(.slice y1p y1n y1c)] h Q aR Tryz.func143 Tryz.call143 (by kernel_rfl) (Eq.mpr (by kernel_rfl) H)
def nP (y0:Option Addr) (y1:Int) (h:ae) (Q:VH):Prop:=
 bc P dz #[(.pointer y0),(.int .u64 (IntKind.wrap .u64 y1)),(.int .i64 2)] h fun h1=>
 Q (.tuple #[]) h1
noncomputable def rV:cz:=tb (ak .done []) (ak [] []) (ak none [])
theorem qj (y0:Option Addr) (y1:Int) {h:ae} {Q:VH} (H:nP y0 y1 h Q):aq P dB #[(.pointer y0),(.int .i64 y1)] h Q:=
 @aA P dB Tryz.f201 rV [(.pointer y0),(.int .i64 y1)] h Q aR Tryz.func201 Tryz.call201 (by kernel_rfl) (Eq.mpr (by kernel_rfl) H)
def mU (Q:VH) (K1:YH Y1) (y0:Option Addr) (t13_p:OA) (t13_n t13_c:Nat) (t14 t15:Int) (h2:ae):Prop:=
 aL (decide (t15<t14)) (
 bl t13_p t15 t13_n fun a3=>
 ah .i64 h2 (a3.add (t15.toNat*1)) fun n4=>
 bc P dH #[(.pointer y0),(.int .i64 n4)] h2 fun h5=>
 K1 (y0,(t13_p,t13_n,t13_c),t14,(IntKind.wrap .i64 (t15+1)),()) h5) (
 Q (.tuple #[]) h2)
def qX (y0:Option Addr) (y1p:OA) (y1n y1c:Nat) (h:ae) (Q:VH):Prop:=
 aL (decide ((y1n:Int)>65535)) (
 Q (.tuple #[]) h) (
 bc P dB #[(.pointer y0),(.int .i64 (y1n:Int))] h fun h1=>
 bB (S:=Y1) (fun K1 s h=>mU Q K1 s.1 s.2.1.1 s.2.1.2.1 s.2.1.2.2 s.2.2.1 s.2.2.2.1 h) (y0,(y1p,y1n,y1c),(y1n:Int),(0:Int),()) h1)
noncomputable def uC:cz:=tb (ak .done []) (ak [] [(3,[(0,.sc (.ptr)),(13,SL),(14,I6),(15,I6)])]) (ak none [])
theorem sC (y0:Option Addr) (y1p:OA) (y1n y1c:Nat) {h:ae} {Q:VH} (H:qX y0 y1p y1n y1c h Q):aq P fN #[(.pointer y0),(.slice y1p y1n y1c)] h Q:=
 @aA P fN Tryz.f229 uC [(.pointer y0),(.slice y1p y1n y1c)] h Q aR Tryz.func229 Tryz.call229 (by kernel_rfl) (Eq.mpr (by kernel_rfl) H)
def lk (Q:VH) (K1:YH Y1) (y0:Option Addr) (t6_p:OA) (t6_n t6_c:Nat) (t7 t8:Int) (h1:ae):Prop:=
 aL (decide (t8<t7)) (
 bl t6_p t8 t6_n fun a2=>
 av h1 (a2.add (t8.toNat*1)) fun p3 l3 c3=>
 aW h1 (.cells #[(.int .i64 (l3:Int))] 3 (0,0)) fun b4 h5=>
 bc P cN #[(.pointer y0),(.int .i64 0),(.int .i64 65535),(.slice (some ⟨b4,0,none⟩) 1 1)] h5 fun h6=>
 bc P cN #[(.pointer y0),(.int .i64 (-2147483648:Int)),(.int .i64 2147483647),(.slice p3 l3 c3)] h6 fun h7=>
 cH y0 fun a8=>
 bc P fN #[(.pointer (some a8)),(.slice p3 l3 c3)] h7 fun h9=>
 K1 (y0,(t6_p,t6_n,t6_c),t7,(IntKind.wrap .i64 (t8+1)),()) h9) (
 Q (.tuple #[]) h1)
def nQ (y0:Option Addr) (y1p:OA) (y1n y1c:Nat) (h:ae) (Q:VH):Prop:=
 bB (S:=Y1) (fun K1 s h=>lk Q K1 s.1 s.2.1.1 s.2.1.2.1 s.2.1.2.2 s.2.2.1 s.2.2.2.1 h) (y0,(y1p,y1n,y1c),(y1n:Int),(0:Int),()) h
noncomputable def rW:cz:=tb (ak .done []) (ak [] [(1,[(0,.sc (.ptr)),(6,SL),(7,I6),(8,I6)])]) (ak none [])
theorem qk (y0:Option Addr) (y1p:OA) (y1n y1c:Nat) {h:ae} {Q:VH} (H:nQ y0 y1p y1n y1c h Q):aq P gj #[(.pointer y0),(.slice y1p y1n y1c)] h Q:=
 @aA P gj Tryz.f200 rW [(.pointer y0),(.slice y1p y1n y1c)] h Q aR Tryz.func200 Tryz.call200 (by kernel_rfl) (Eq.mpr (by kernel_rfl) H)
def nR (y0:Option Addr) (y1:TS A1) (h:ae) (Q:VH):Prop:=
 aW h (.cells (aP A1 y1).toArray 62 (0,0)) fun b1 h2=>
 ah .i64 h2 ⟨b1,0,none⟩ fun n3=>
 av h2 ⟨b1,1,none⟩ fun p4 l4 c4=>
 aW h2 (.cells #[(.int .i64 n3),(.int .i64 (l4:Int))] 3 (0,0)) fun b5 h6=>
 bc P bU #[(.pointer y0),(.slice (some ⟨b5,0,none⟩) 2 2)] h6 fun h7=>
 av h7 ⟨b1,1,none⟩ fun p8 l8 c8=>
 bc P bU #[(.pointer y0),(.slice p8 l8 c8)] h7 fun h9=>
 ah .i64 h9 ⟨b1,2,none⟩ fun n10=>
 ah .i64 h9 ⟨b1,3,none⟩ fun n11=>
 ah .i64 h9 ⟨b1,4,none⟩ fun n12=>
 ah .i64 h9 ⟨b1,5,none⟩ fun n13=>
 ah .i64 h9 ⟨b1,6,none⟩ fun n14=>
 ah .i64 h9 ⟨b1,7,none⟩ fun n15=>
 aW h9 (.cells #[(.int .i64 n10),(.int .i64 n11),(.int .i64 n12),(.int .i64 n13),(.int .i64 n14),(.int .i64 n15)] 3 (0,0)) fun b16 h17=>
 bc P bU #[(.pointer y0),(.slice (some ⟨b16,0,none⟩) 6 6)] h17 fun h18=>
 av h18 ⟨b1,8,none⟩ fun p19 l19 c19=>
 av h18 ⟨b1,9,none⟩ fun p20 l20 c20=>
 aW h18 (.cells #[(.slice p19 l19 c19),(.slice p20 l20 c20)] 22 (0,0)) fun b21 h22=>
 bc P gj #[(.pointer y0),(.slice (some ⟨b21,0,none⟩) 2 2)] h22 fun h23=>
 ah .i64 h23 ⟨b1,10,none⟩ fun n24=>
 aW h23 (.cells #[(.int .i64 n24)] 3 (0,0)) fun b25 h26=>
 bc P cN #[(.pointer y0),(.int .i64 0),(.int .i64 65535),(.slice (some ⟨b25,0,none⟩) 1 1)] h26 fun h27=>
 cH y0 fun a28=>
 ah .i64 h27 ⟨b1,10,none⟩ fun n29=>
 bc P dB #[(.pointer (some a28)),(.int .i64 n29)] h27 fun h30=>
 ah .i64 h30 ⟨b1,11,none⟩ fun n31=>
 aW h30 (.cells #[(.int .i64 n31)] 3 (0,0)) fun b32 h33=>
 bc P bU #[(.pointer y0),(.slice (some ⟨b32,0,none⟩) 1 1)] h33 fun h34=>
 ah .i64 h34 ⟨b1,12,none⟩ fun n35=>
 ah .i64 h34 ⟨b1,13,none⟩ fun n36=>
 aW h34 (.cells #[(.int .i64 n35),(.int .i64 n36)] 3 (0,0)) fun b37 h38=>
 bc P dU #[(.pointer y0),(.slice (some ⟨b37,0,none⟩) 2 2)] h38 fun h39=>
 ah .i64 h39 ⟨b1,14,none⟩ fun n40=>
 aW h39 (.cells #[(.int .i64 n40)] 3 (0,0)) fun b41 h42=>
 bc P bU #[(.pointer y0),(.slice (some ⟨b41,0,none⟩) 1 1)] h42 fun h43=>
 Q (.tuple #[]) h43
noncomputable def rX:cz:=tb (ak .done [(6,(bD [0,1,2,3,4] (.alt 5 .done .stop)))]) (ak [] []) (ak none [])
theorem ql (y0:Option Addr) (y1:TS A1) {h:ae} {Q:VH} (H:nR y0 y1 h Q):aq P gk #[(.pointer y0),(bz A1 y1)] h Q:=
 @aA P gk Tryz.f144 rX [(.pointer y0),(bz A1 y1)] h Q aR Tryz.func144 Tryz.call144 (by kernel_rfl) (Eq.mpr (by kernel_rfl) H)
def pj (y0:Option Addr) (h:ae) (Q:VH):Prop:=
 aL ((y0).isNone) (
 Q (.string (ByteArray.mk #[])) h) (
 cH y0 fun a1=>
 av h (a1.add 1) fun p2 l2 c2=>
 ME p2 l2 h fun s3=>
 ∃s4:ByteArray,Value.string s3=Value.string s4∧
 Q (.string s4) h)
noncomputable def sD:cz:=tb (ak .done []) (ak [] []) (ak none [])
theorem rY (y0:Option Addr) {h:ae} {Q:VH} (H:pj y0 h Q):aq P gH #[(.pointer y0)] h Q:=
 @aA P gH Tryz.f145 sD [(.pointer y0)] h Q aR Tryz.func145 Tryz.call145 (by kernel_rfl) (Eq.mpr (by kernel_rfl) H)
def qY (Q:VH) (K1:YH Q4) (y1 y4:Addr) (t23_p:OA) (t23_n t23_c:Nat) (t24 t25:Int) (h19:ae):Prop:=
 aL (decide (t25<t24)) (
 bl t23_p t25 t23_n fun a20=>
 aX A1 h19 (a20.add (t25.toNat*15)) fun x21=>
 aW h19 (.cells (aP A1 (zT A1)).toArray 62 (0,0)) fun b22 h23=>
 bt (aP A1 x21) h23 ⟨b22,0,none⟩ 0 fun h24=>
 aX A1 h24 ⟨b22,0,none⟩ fun x25=>
 bc P gk #[(.pointer (some y4)),(bz A1 x25)] h24 fun h26=>
 K1 (y1,y4,(t23_p,t23_n,t23_c),t24,(IntKind.wrap .i64 (t25+1)),()) h26) (
 ah .i64 h19 (y1.add 4) fun n27=>
 aW h19 (.cells #[(.int .i64 n27)] 3 (0,0)) fun b28 h29=>
 bc P bU #[(.pointer (some y4)),(.slice (some ⟨b28,0,none⟩) 1 1)] h29 fun h30=>
 qx h30 (y4.add 2) fun b31=>
 aL b31 (
 Q (.tuple #[(.string (ByteArray.mk #[])),(.int .i64 22)]) h30) (
 tW P gH #[(.pointer (some y4))] h30 fun s33 h32=>
 ov (ByteArray.mk #[69,65,82,49]) s33 fun _=>
 Q (.tuple #[(.string ((ByteArray.mk #[69,65,82,49])++s33)),(.int .i64 0)]) h32))
def wM (y0:TS A2) (h:ae) (Q:VH):Prop:=
 aW h (.cells (aP A2 y0).toArray 32 (0,0)) fun b1 h2=>
 aW h2 (.cells #[(.int .i64 0),(.slice none 0 0),(.bool false)] 193 (0,0)) fun b3 h4=>
 ah .i64 h4 ⟨b1,0,none⟩ fun n5=>
 aW h4 (.cells #[(.int .i64 n5)] 3 (0,0)) fun b6 h7=>
 bc P bU #[(.pointer (some ⟨b3,0,none⟩)),(.slice (some ⟨b6,0,none⟩) 1 1)] h7 fun h8=>
 ah .i64 h8 ⟨b1,1,none⟩ fun n9=>
 ah .i64 h8 ⟨b1,2,none⟩ fun n10=>
 aW h8 (.cells #[(.int .i64 n9),(.int .i64 n10)] 3 (0,0)) fun b11 h12=>
 bc P dU #[(.pointer (some ⟨b3,0,none⟩)),(.slice (some ⟨b11,0,none⟩) 2 2)] h12 fun h13=>
 av h13 ⟨b1,3,none⟩ fun p14 l14 c14=>
 aW h13 (.cells #[(.int .i64 (l14:Int))] 3 (0,0)) fun b15 h16=>
 bc P bU #[(.pointer (some ⟨b3,0,none⟩)),(.slice (some ⟨b15,0,none⟩) 1 1)] h16 fun h17=>
 av h17 ⟨b1,3,none⟩ fun p18 l18 c18=>
 bB (S:=Q4) (fun K1 s h=>qY Q K1 s.1 s.2.1 s.2.2.1.1 s.2.2.1.2.1 s.2.2.1.2.2 s.2.2.2.1 s.2.2.2.2.1 h) (⟨b1,0,none⟩,⟨b3,0,none⟩,(p18,l18,c18),(l18:Int),(0:Int),()) h17
noncomputable def yB:cz:=tb (ak .done []) (ak [] [(6,[(1,.sc (.adr)),(4,.sc (.adr)),(23,SL),(24,I6),(25,I6)])]) (ak none [])
theorem wN (y0:TS A2) {h:ae} {Q:VH} (H:wM y0 h Q):aq P j8 #[(bz A2 y0)] h Q:=
 @aA P j8 Tryz.f88 yB [(bz A2 y0)] h Q aR Tryz.func88 Tryz.call88 (by kernel_rfl) (Eq.mpr (by kernel_rfl) H)
def wO (Q:VH) (K1:(Addr×Int×Unit)→ae→Prop) (t1:Addr) (t8:Int) (h3:ae):Prop:=
 aL (decide (t8<8)) (
 ah .u32 h3 t1 fun n4=>
 ah .u32 h3 t1 fun n5=>
 bu h3 t1 (.int .u32 (F6 .u32 (gz n5 1) (IntKind.wrap .u32 ((3988292384:Int)*(cS .u32 n4 1))))) fun h6=>
 K1 (t1,(IntKind.wrap .i64 (t8+1)),()) h6) (
 Q (.tuple #[]) h3)
def EP (y0:Int) (free0:Addr) (h:ae) (Q:VH):Prop:=
 ah .u32 h free0 fun n1=>
 bu h free0 (.int .u32 (F6 .u32 n1 (IntKind.wrap .u32 y0))) fun h2=>
 bB (S:=(Addr×Int×Unit)) (fun K1 s h=>wO Q K1 s.1 s.2.1 h) (free0,(0:Int),()) h2
noncomputable def D5:cz:=tb (ak .done []) (ak [] [(2,[(1,.sc (.adr)),(8,I6)])]) (ak none [])
theorem BK (y0:Int) (free0:Addr) {h:ae} {Q:VH} (H:EP y0 free0 h Q):aq P oe #[(.int .u8 y0),(.pointer (some free0))] h Q:=
 @aA P oe Tryz.f146 D5 [(.int .u8 y0),(.pointer (some free0))] h Q aR Tryz.func146 Tryz.call146 (by kernel_rfl) (Eq.mpr (by kernel_rfl) H)
def BL (Q:VH) (K1:YH Ro) (K2:YH RR) (y3 next_4_c0:Addr) (y6:ByteArray) (t9_p:OA) (t9_n t9_c:Nat) (t10 t11 t16 t17:Int) (h7:ae):Prop:=
 aL (decide (t17<t16)) (
 vT y6 t17 fun b8=>
 bc P oe #[(.int .u8 (b8.toNat:Int)),(.pointer (some next_4_c0))] h7 fun h9=>
 K2 (y3,((()),(next_4_c0,())),y6,(t9_p,t9_n,t9_c),t10,t11,t16,(IntKind.wrap .i64 (t17+1)),()) h9) (
 K1 (y3,((()),(next_4_c0,())),(t9_p,t9_n,t9_c),t10,(IntKind.wrap .i64 (t11+1)),()) h7)
def vC (Q:VH) (K1:YH Ro) (y3 next_4_c0:Addr) (t9_p:OA) (t9_n t9_c:Nat) (t10 t11:Int) (h4:ae):Prop:=
 aL (decide (t11<t10)) (
 bl t9_p t11 t9_n fun a5=>
 vw h4 (a5.add (t11.toNat*1)) fun s6=>
 bB (S:=RR) (fun K2 s h=>BL Q K1 K2 s.1 s.2.1.2.1 s.2.2.1 s.2.2.2.1.1 s.2.2.2.1.2.1 s.2.2.2.1.2.2 s.2.2.2.2.1 s.2.2.2.2.2.1 s.2.2.2.2.2.2.1 s.2.2.2.2.2.2.2.1 h) (y3,((()),(next_4_c0,())),s6,(t9_p,t9_n,t9_c),t10,t11,((s6.size:Nat):Int),(0:Int),()) h4) (
 ah .u32 h4 y3 fun n10=>
 Q (.int .u32 (F6 .u32 (IntKind.max .u32) n10)) h4)
def J2 (y0p:OA) (y0n y0c:Nat) (h:ae) (Q:VH):Prop:=
 aW h (.cells #[(.int .u32 0)] 37 (0,0)) fun b1 h2=>
 bu h2 ⟨b1,0,none⟩ (.int .u32 4294967295) fun h3=>
 bB (S:=Ro) (fun K1 s h=>vC Q K1 s.1 s.2.1.2.1 s.2.2.1.1 s.2.2.1.2.1 s.2.2.1.2.2 s.2.2.2.1 s.2.2.2.2.1 h) (⟨b1,0,none⟩,((()),(⟨b1,0,none⟩,())),(y0p,y0n,y0c),(y0n:Int),(0:Int),()) h3
noncomputable def G3:cz:=tb (ak .done []) (ak [] [(4,[(3,.sc (.adr)),(4,.fn 146 [] [.adr]),(9,SL),(10,I6),(11,I6)]),(7,[(3,.sc (.adr)),(4,.fn 146 [] [.adr]),(6,.sc (.str)),(9,SL),(10,I6),(11,I6),(16,I6),(17,I6)])]) (ak none [])
theorem FU (y0p:OA) (y0n y0c:Nat) {h:ae} {Q:VH} (H:J2 y0p y0n y0c h Q):aq P tV #[(.slice y0p y0n y0c)] h Q:=
 @aA P tV Tryz.f89 G3 [(.slice y0p y0n y0c)] h Q aR Tryz.func89 Tryz.call89 (by kernel_rfl) (Eq.mpr (by kernel_rfl) H)
def EQ (y0:TS A2) (h:ae) (Q:VH):Prop:=
 aW h (.cells (aP A2 y0).toArray 32 (0,0)) fun b1 h2=>
 aX A2 h2 ⟨b1,0,none⟩ fun x3=>
 aq P j8 #[(bz A2 x3)] h2 fun v5 h4=>
 ∃s6:ByteArray,∃n7:Int,v5=(.tuple #[(.string s6),(.int .i64 n7)])∧
 aW h4 (.cells #[(.string s6)] 9 (0,0)) fun b8 h9=>
 aI P .u32 tV #[(.slice (some ⟨b8,0,none⟩) 1 1)] h9 fun n11 h10=>
 Q (.int .u32 n11) h10
noncomputable def D6:cz:=tb (ak .done []) (ak [] []) (ak none [])
theorem BM (y0:TS A2) {h:ae} {Q:VH} (H:EQ y0 h Q):aq P lr #[(bz A2 y0)] h Q:=
 @aA P lr Tryz.f39 D6 [(bz A2 y0)] h Q aR Tryz.func39 Tryz.call39 (by kernel_rfl) (Eq.mpr (by kernel_rfl) H)
def uW (Q:VH) (K1:YH Rp) (K2:YH RS) (t2 y4:Addr) (y7p:OA) (y7n y7c:Nat) (y11p:OA) (y11n y11c:Nat) (y12 t80 t81:Int) (h54:ae):Prop:=
 aL (decide (t81<t80)) (
 bl y11p t81 y11n fun a55=>
 ah .i64 h54 (a55.add (t81.toNat*1)) fun n56=>
 bl y7p t81 y7n fun a57=>
 bu h54 (a57.add (t81.toNat*3)) (.int .i64 n56) fun h58=>
 K2 (t2,y4,(y7p,y7n,y7c),(y11p,y11n,y11c),y12,t80,(IntKind.wrap .i64 (t81+1)),()) h58) (
 aX A2 h54 y4 fun x59=>
 aX A2 h54 y4 fun x60=>
 aX A2 h54 y4 fun x61=>
 aX A2 h54 y4 fun x62=>
 bM P hC #[(bz A2 x60)] h54 fun p64 l64 c64 h63=>
 gC (df 0 y4 (aP A2 x62) 0) h63 (
 gC (df 0 y4 (aP A2 x61) 0) h63 (
 gC (df 0 y4 (aP A2 x59) 0) h63 (
 aI P .i64 j7 #[(bz A2 x61)] h63 fun n66 h65=>
 gC (df 0 y4 (aP A2 x62) 0) h65 (
 gC (df 0 y4 (aP A2 x60) 0) h65 (
 gC (df 0 y4 (aP A2 x59) 0) h65 (
 aI P .u32 lr #[(bz A2 x62)] h65 fun n68 h67=>
 gC (df 0 y4 (aP A2 x61) 0) h67 (
 gC (df 0 y4 (aP A2 x60) 0) h67 (
 gC (df 0 y4 (aP A2 x59) 0) h67 (
 bt [(.int .i64 x59.1),(.int .i64 x59.2.1),(.int .i64 x59.2.2.1),(.slice x59.2.2.2.1.1 x59.2.2.2.1.2.1 x59.2.2.2.1.2.2),(.int .i64 x59.2.2.2.2.1),(.slice p64 l64 c64),(.slice y7p y7n y7c),(.int .i64 y12),(.int .i64 n66),(.int .u32 n68)] h67 t2 0 fun h69=>
 aX A4 h69 t2 fun x70=>
 Q (.tuple #[(bz A4 x70),(.int .i64 0)]) h69))))))))))
def oK (Q:VH) (K1:YH Rp) (t2 y4:Addr) (y6p:OA) (y6n y6c:Nat) (y7p:OA) (y7n y7c:Nat) (y8p:OA) (y8n y8c:Nat) (t43_p:OA) (t43_n t43_c:Nat) (t44 t45:Int) (h34:ae):Prop:=
 aL (decide (t45<t44)) (
 bl t43_p t45 t43_n fun a35=>
 ah .i64 h34 (a35.add (t45.toNat*1)) fun n36=>
 bl y6p t45 y6n fun a37=>
 ah .i64 h34 (a37.add (t45.toNat*1)) fun n38=>
 bl y7p t45 y7n fun a39=>
 bu h34 (a39.add (t45.toNat*3)) (.int .i64 0) fun h40=>
 bu h40 (Addr.add (a39.add (t45.toNat*3)) 1) (.int .i64 n36) fun h41=>
 bu h41 (Addr.add (a39.add (t45.toNat*3)) 2) (.int .i64 n38) fun h42=>
 bl y6p t45 y6n fun a43=>
 ah .i64 h42 (a43.add (t45.toNat*1)) fun n44=>
 bl y8p t45 y8n fun a45=>
 bu h42 (a45.add (t45.toNat*1)) (.int .i64 (IntKind.wrap .i64 (n44*n36))) fun h46=>
 K1 (t2,y4,(y6p,y6n,y6c),(y7p,y7n,y7c),(y8p,y8n,y8c),(t43_p,t43_n,t43_c),t44,(IntKind.wrap .i64 (t45+1)),()) h46) (
 aq P j6 #[(.slice y8p y8n y8c)] h34 fun v48 h47=>
 ∃p49:Option Addr,∃l49:Nat,∃c49:Nat,∃n50:Int,∃n51:Int,v48=(.tuple #[(.slice p49 l49 c49),(.int .i64 n50),(.int .i64 n51)])∧
 aL (n51 !=0) (
 bt [(.int .i64 0),(.int .i64 0),(.int .i64 0),(.slice none 0 0),(.int .i64 0),(.slice none 0 0),(.slice none 0 0),(.int .i64 0),(.int .i64 0),(.int .u32 0)] h47 t2 0 fun h52=>
 aX A4 h52 t2 fun x53=>
 Q (.tuple #[(bz A4 x53),(.int .i64 n51)]) h52) (
 bB (S:=RS) (fun K2 s h=>uW Q K1 K2 s.1 s.2.1 s.2.2.1.1 s.2.2.1.2.1 s.2.2.1.2.2 s.2.2.2.1.1 s.2.2.2.1.2.1 s.2.2.2.1.2.2 s.2.2.2.2.1 s.2.2.2.2.2.1 s.2.2.2.2.2.2.1 h) (t2,y4,(y7p,y7n,y7c),(p49,l49,c49),n50,(y7n:Int),(0:Int),()) h47))
def tT (y0:ByteArray) (h:ae) (Q:VH):Prop:=
 aW h (.cells (aP A4 (zT A4)).toArray 39 (0,0)) fun b1 h2=>
 aq P j0 #[(.string y0)] h2 fun v4 h3=>
 E3 A2 fun x5=> ∃n6:Int,v4=(.tuple #[(bz A2 x5),(.int .i64 n6)])∧
 aW h3 (.cells (aP A2 (zT A2)).toArray 32 (0,0)) fun b7 h8=>
 bt (aP A2 x5) h8 ⟨b7,0,none⟩ 0 fun h9=>
 aL (n6 !=0) (
 bt [(.int .i64 0),(.int .i64 0),(.int .i64 0),(.slice none 0 0),(.int .i64 0),(.slice none 0 0),(.slice none 0 0),(.int .i64 0),(.int .i64 0),(.int .u32 0)] h9 ⟨b1,0,none⟩ 0 fun h10=>
 aX A4 h10 ⟨b1,0,none⟩ fun x11=>
 Q (.tuple #[(bz A4 x11),(.int .i64 n6)]) h10) (
 aX A2 h9 ⟨b7,0,none⟩ fun x12=>
 aq P gm #[(bz A2 x12)] h9 fun v14 h13=>
 ∃p15:Option Addr,∃l15:Nat,∃c15:Nat,∃n16:Int,v14=(.tuple #[(.slice p15 l15 c15),(.int .i64 n16)])∧
 aL (n16 !=0) (
 bt [(.int .i64 0),(.int .i64 0),(.int .i64 0),(.slice none 0 0),(.int .i64 0),(.slice none 0 0),(.slice none 0 0),(.int .i64 0),(.int .i64 0),(.int .u32 0)] h13 ⟨b1,0,none⟩ 0 fun h17=>
 aX A4 h17 ⟨b1,0,none⟩ fun x18=>
 Q (.tuple #[(bz A4 x18),(.int .i64 n16)]) h17) (
 aX A2 h13 ⟨b7,0,none⟩ fun x19=>
 aq P od #[(bz A2 x19)] h13 fun v21 h20=>
 E3 A2 fun x22=>v21=(bz A2 x22)∧
 bt (aP A2 x22) h20 ⟨b7,0,none⟩ 0 fun h23=>
 aX A2 h23 ⟨b7,0,none⟩ fun x24=>
 bM P hO #[(bz A2 x24)] h23 fun p26 l26 c26 h25=>
 zW 52 3 24 (.agg #[(.int .i64 0),(.int .i64 0),(.int .i64 0)]) (l26:Int) (l26:Int) h25 fun b27 h28=>
 zW 3 1 8 (.int .i64 0) (l26:Int) (l26:Int) h28 fun b29 h30=>
 aX A2 h30 ⟨b7,0,none⟩ fun x31=>
 bM P dS #[(bz A2 x31)] h30 fun p33 l33 c33 h32=>
 bB (S:=Rp) (fun K1 s h=>oK Q K1 s.1 s.2.1 s.2.2.1.1 s.2.2.1.2.1 s.2.2.1.2.2 s.2.2.2.1.1 s.2.2.2.1.2.1 s.2.2.2.1.2.2 s.2.2.2.2.1.1 s.2.2.2.2.1.2.1 s.2.2.2.2.1.2.2 s.2.2.2.2.2.1.1 s.2.2.2.2.2.1.2.1 s.2.2.2.2.2.1.2.2 s.2.2.2.2.2.2.1 s.2.2.2.2.2.2.2.1 h) (⟨b1,0,none⟩,⟨b7,0,none⟩,(p26,l26,c26),(some ⟨b27,0,none⟩,(l26:Int).toNat,(l26:Int).toNat),(some ⟨b29,0,none⟩,(l26:Int).toNat,(l26:Int).toNat),(p33,l33,c33),(l33:Int),(0:Int),()) h32))
noncomputable def D7:cz:=tb (ak .done [(25,(bD [3,4] (.early 0 (.early 1 (.early 5 (.early 7 (.alt 2 (.alt 6 (.alt 8 (bD [9] (.alt 10 (bD [11] .done) .stop)) .stop) .stop) .stop)))))))]) (ak [] [(12,[(2,.sc (.adr)),(4,.sc (.adr)),(6,SL),(7,SL),(8,SL),(43,SL),(44,I6),(45,I6)]),(21,[(2,.sc (.adr)),(4,.sc (.adr)),(7,SL),(11,SL),(12,I6),(80,I6),(81,I6)])]) (ak none [])
theorem mV (y0:ByteArray) {h:ae} {Q:VH} (H:tT y0 h Q):aq P fO #[(.string y0)] h Q:=
 @aA P fO Tryz.f13 D7 [(.string y0)] h Q aR Tryz.func13 Tryz.call13 (by kernel_rfl) (Eq.mpr (by kernel_rfl) H)
def G4 (y0 y1 y2:Int) (h:ae) (Q:VH):Prop:=
 aL (decide (y0≥y1)) (
 Q (.bool (decide (y0≤y2))) h) (
 Q (.bool false) h)
noncomputable def FV:cz:=tb (ak .done []) (ak [] []) (ak none [])
theorem D8 (y0 y1 y2:Int) {h:ae} {Q:VH} (H:G4 y0 y1 y2 h Q):aq P qp #[(.int .i64 y0),(.int .i64 y1),(.int .i64 y2)] h Q:=
 @aA P qp Tryz.f159 FV [(.int .i64 y0),(.int .i64 y1),(.int .i64 y2)] h Q aR Tryz.func159 Tryz.call159 (by kernel_rfl) (Eq.mpr (by kernel_rfl) H)
def sE (Q:VH) (K1:(Int×Int×ByteArray×Int×Unit)→ae→Prop) (y0 y1:Int) (y5:ByteArray) (y6:Int) (h1:ae):Prop:=
 aL (decide (y6<y1)) (
 aW h1 (.cells #[(.int .u8 (IntKind.wrap .u8 y0))] 5 (0,0)) fun b2 h3=>
 ME (some ⟨b2,0,none⟩) 1 h3 fun s4=>
 ∃s5:ByteArray,Value.string s4=Value.string s5∧
 ov y5 s5 fun _=>
 K1 ((IntKind.wrap .u64 (Int.tdiv y0 256)),y1,(y5++s5),(IntKind.wrap .i64 (y6+1)),()) h3) (
 Q (.string y5) h1)
def zG (y0 y1:Int) (h:ae) (Q:VH):Prop:=
 bB (S:=(Int×Int×ByteArray×Int×Unit)) (fun K1 s h=>sE Q K1 s.1 s.2.1 s.2.2.1 s.2.2.2.1 h) (y0,y1,(ByteArray.mk #[]),(0:Int),()) h
noncomputable def Ap:cz:=tb (ak .done []) (ak [] [(3,[(0,.sc (.int .u64)),(1,I6),(5,.sc (.str)),(6,I6)])]) (ak none [])
theorem yC (y0 y1:Int) {h:ae} {Q:VH} (H:zG y0 y1 h Q):aq P jf #[(.int .u64 y0),(.int .i64 y1)] h Q:=
 @aA P jf Tryz.f160 Ap [(.int .u64 y0),(.int .i64 y1)] h Q aR Tryz.func160 Tryz.call160 (by kernel_rfl) (Eq.mpr (by kernel_rfl) H)
def uX (y0:Option Addr) (y1 y2 y3 y4:Int) (h:ae) (Q:VH):Prop:=
 aE P qp #[(.int .i64 y1),(.int .i64 y3),(.int .i64 y4)] h fun b2 h1=>
 aL (!b2) (
 cH y0 fun a3=>
 bu h1 (a3.add 1) (.bool true) fun h4=>
 cH y0 fun a5=>
 vw h4 a5 fun s6=>
 tW P jf #[(.int .u64 (IntKind.wrap .u64 y1)),(.int .i64 y2)] h4 fun s8 h7=>
 aD h7 a5=some (.string s6)∧
 ov s6 s8 fun _=>
 cH y0 fun a9=>
 bu h7 a9 (.string (s6++s8)) fun h10=>
 Q (.tuple #[]) h10) (
 cH y0 fun a11=>
 vw h1 a11 fun s12=>
 tW P jf #[(.int .u64 (IntKind.wrap .u64 y1)),(.int .i64 y2)] h1 fun s14 h13=>
 aD h13 a11=some (.string s12)∧
 ov s12 s14 fun _=>
 cH y0 fun a15=>
 bu h13 a15 (.string (s12++s14)) fun h16=>
 Q (.tuple #[]) h16)
noncomputable def wP:cz:=tb (ak .done [(3,(bD [0,1,2,3,5,6,7] (.early 4 (.alt 8 (bD [9,10,11] (.alt 12 .done .stop)) .stop))))]) (ak [] []) (ak none [])
theorem vD (y0:Option Addr) (y1 y2 y3 y4:Int) {h:ae} {Q:VH} (H:uX y0 y1 y2 y3 y4 h Q):aq P eG #[(.pointer y0),(.int .i64 y1),(.int .i64 y2),(.int .i64 y3),(.int .i64 y4)] h Q:=
 @aA P eG Tryz.f93 wP [(.pointer y0),(.int .i64 y1),(.int .i64 y2),(.int .i64 y3),(.int .i64 y4)] h Q aR Tryz.func93 Tryz.call93 (by kernel_rfl) (Eq.mpr (by kernel_rfl) H)
def uY (y0:Option Addr) (y1:Int) (h:ae) (Q:VH):Prop:=
 bc P eG #[(.pointer y0),(.int .i64 y1),(.int .i64 1),(.int .i64 0),(.int .i64 255)] h fun h1=>
 Q (.tuple #[]) h1
noncomputable def wQ:cz:=tb (ak .done []) (ak [] []) (ak none [])
theorem vE (y0:Option Addr) (y1:Int) {h:ae} {Q:VH} (H:uY y0 y1 h Q):aq P cC #[(.pointer y0),(.int .i64 y1)] h Q:=
 @aA P cC Tryz.f42 wQ [(.pointer y0),(.int .i64 y1)] h Q aR Tryz.func42 Tryz.call42 (by kernel_rfl) (Eq.mpr (by kernel_rfl) H)
def sF (y0:Option Addr) (y1:Int) (h:ae) (Q:VH):Prop:=
 bc P eG #[(.pointer y0),(.int .i64 y1),(.int .i64 4),(.int .i64 (-2147483648:Int)),(.int .i64 2147483647)] h fun h1=>
 Q (.tuple #[]) h1
noncomputable def vF:cz:=tb (ak .done []) (ak [] []) (ak none [])
theorem uD (y0:Option Addr) (y1:Int) {h:ae} {Q:VH} (H:sF y0 y1 h Q):aq P dm #[(.pointer y0),(.int .i64 y1)] h Q:=
 @aA P dm Tryz.f43 vF [(.pointer y0),(.int .i64 y1)] h Q aR Tryz.func43 Tryz.call43 (by kernel_rfl) (Eq.mpr (by kernel_rfl) H)
def pl (Q:VH) (K1:(Option Addr×S3×Int×Unit)→ae→Prop) (y0:Option Addr) (y1p:OA) (y1n y1c:Nat) (y4:Int) (h2:ae):Prop:=
 aL (decide (y4<(y1n:Int))) (
 bl y1p y4 y1n fun a3=>
 ah .i64 h2 (a3.add (y4.toNat*1)) fun n4=>
 bc P dm #[(.pointer y0),(.int .i64 n4)] h2 fun h5=>
 K1 (y0,(y1p,y1n,y1c),(IntKind.wrap .i64 (y4+1)),()) h5) (
 Q (.tuple #[]) h2)
def uZ (y0:Option Addr) (y1p:OA) (y1n y1c:Nat) (h:ae) (Q:VH):Prop:=
 bc P eG #[(.pointer y0),(.int .i64 (y1n:Int)),(.int .i64 2),(.int .i64 0),(.int .i64 65535)] h fun h1=>
 bB (S:=(Option Addr×S3×Int×Unit)) (fun K1 s h=>pl Q K1 s.1 s.2.1.1 s.2.1.2.1 s.2.1.2.2 s.2.2.1 h) (y0,(y1p,y1n,y1c),(0:Int),()) h1
noncomputable def wR:cz:=tb (ak .done []) (ak [] [(2,[(0,.sc (.ptr)),(1,SL),(4,I6)])]) (ak none [])
theorem vG (y0:Option Addr) (y1p:OA) (y1n y1c:Nat) {h:ae} {Q:VH} (H:uZ y0 y1p y1n y1c h Q):aq P gQ #[(.pointer y0),(.slice y1p y1n y1c)] h Q:=
 @aA P gQ Tryz.f94 wR [(.pointer y0),(.slice y1p y1n y1c)] h Q aR Tryz.func94 Tryz.call94 (by kernel_rfl) (Eq.mpr (by kernel_rfl) H)
def nS (Q:VH) (K1:(Option Addr×Addr×Int×Unit)→ae→Prop) (K2:(Option Addr×Addr×Addr×Int×Unit)→ae→Prop) (y0:Option Addr) (y3 y5:Addr) (y6:Int) (h22:ae):Prop:=
 aL (decide (y6<6)) (
 si y6 6 fun _=>
 ah .i64 h22 (y5.add (y6.toNat*1)) fun n23=>
 bc P cC #[(.pointer y0),(.int .i64 n23)] h22 fun h24=>
 K2 (y0,y3,y5,(IntKind.wrap .i64 (y6+1)),()) h24) (
 av h22 (y3.add 8) fun p25 l25 c25=>
 bc P gQ #[(.pointer y0),(.slice p25 l25 c25)] h22 fun h26=>
 av h26 (y3.add 9) fun p27 l27 c27=>
 bc P gQ #[(.pointer y0),(.slice p27 l27 c27)] h26 fun h28=>
 ah .i64 h28 (y3.add 10) fun n29=>
 bc P eG #[(.pointer y0),(.int .i64 n29),(.int .i64 2),(.int .i64 0),(.int .i64 65535)] h28 fun h30=>
 ah .i64 h30 (y3.add 11) fun n31=>
 bc P cC #[(.pointer y0),(.int .i64 n31)] h30 fun h32=>
 ah .i64 h32 (y3.add 12) fun n33=>
 bc P dm #[(.pointer y0),(.int .i64 n33)] h32 fun h34=>
 ah .i64 h34 (y3.add 13) fun n35=>
 bc P dm #[(.pointer y0),(.int .i64 n35)] h34 fun h36=>
 ah .i64 h36 (y3.add 14) fun n37=>
 bc P cC #[(.pointer y0),(.int .i64 n37)] h36 fun h38=>
 Q (.tuple #[]) h38)
def nT (Q:VH) (K1:(Option Addr×Addr×Int×Unit)→ae→Prop) (y0:Option Addr) (y3:Addr) (y4:Int) (h7:ae):Prop:=
 av h7 (y3.add 1) fun p8 l8 c8=>
 aL (decide (y4<(l8:Int))) (
 av h7 (y3.add 1) fun p9 l9 c9=>
 bl p9 y4 l9 fun a10=>
 ah .i64 h7 (a10.add (y4.toNat*1)) fun n11=>
 bc P cC #[(.pointer y0),(.int .i64 n11)] h7 fun h12=>
 K1 (y0,y3,(IntKind.wrap .i64 (y4+1)),()) h12) (
 ah .i64 h7 (y3.add 2) fun n13=>
 ah .i64 h7 (y3.add 3) fun n14=>
 ah .i64 h7 (y3.add 4) fun n15=>
 ah .i64 h7 (y3.add 5) fun n16=>
 ah .i64 h7 (y3.add 6) fun n17=>
 ah .i64 h7 (y3.add 7) fun n18=>
 aW h7 (.cells #[(.int .i64 0),(.int .i64 0),(.int .i64 0),(.int .i64 0),(.int .i64 0),(.int .i64 0)] 108 (0,0)) fun b19 h20=>
 bt [(.int .i64 n13),(.int .i64 n14),(.int .i64 n15),(.int .i64 n16),(.int .i64 n17),(.int .i64 n18)] h20 ⟨b19,0,none⟩ 0 fun h21=>
 bB (S:=(Option Addr×Addr×Addr×Int×Unit)) (fun K2 s h=>nS Q K1 K2 s.1 s.2.1 s.2.2.1 s.2.2.2.1 h) (y0,y3,⟨b19,0,none⟩,(0:Int),()) h21)
def sG (y0:Option Addr) (y1:TS A1) (h:ae) (Q:VH):Prop:=
 aW h (.cells (aP A1 y1).toArray 62 (0,0)) fun b1 h2=>
 ah .i64 h2 ⟨b1,0,none⟩ fun n3=>
 bc P cC #[(.pointer y0),(.int .i64 n3)] h2 fun h4=>
 av h4 ⟨b1,1,none⟩ fun p5 l5 c5=>
 bc P cC #[(.pointer y0),(.int .i64 (l5:Int))] h4 fun h6=>
 bB (S:=(Option Addr×Addr×Int×Unit)) (fun K1 s h=>nT Q K1 s.1 s.2.1 s.2.2.1 h) (y0,⟨b1,0,none⟩,(0:Int),()) h6
noncomputable def vH:cz:=tb (ak .done []) (ak [] [(4,[(0,.sc (.ptr)),(3,.sc (.adr)),(4,I6)]),(9,[(0,.sc (.ptr)),(3,.sc (.adr)),(5,.sc (.adr)),(6,I6)])]) (ak none [])
theorem uE (y0:Option Addr) (y1:TS A1) {h:ae} {Q:VH} (H:sG y0 y1 h Q):aq P iP #[(.pointer y0),(bz A1 y1)] h Q:=
 @aA P iP Tryz.f44 vH [(.pointer y0),(bz A1 y1)] h Q aR Tryz.func44 Tryz.call44 (by kernel_rfl) (Eq.mpr (by kernel_rfl) H)
def qZ (Q:VH) (K1:(Addr×Addr×Int×Unit)→ae→Prop) (y1 y4:Addr) (y5:Int) (h13:ae):Prop:=
 av h13 (y1.add 3) fun p14 l14 c14=>
 aL (decide (y5<(l14:Int))) (
 av h13 (y1.add 3) fun p15 l15 c15=>
 bl p15 y5 l15 fun a16=>
 aX A1 h13 (a16.add (y5.toNat*15)) fun x17=>
 bc P iP #[(.pointer (some y4)),(bz A1 x17)] h13 fun h18=>
 K1 (y1,y4,(IntKind.wrap .i64 (y5+1)),()) h18) (
 ah .i64 h13 (y1.add 4) fun n19=>
 bc P cC #[(.pointer (some y4)),(.int .i64 n19)] h13 fun h20=>
 cH (some y4) fun a21=>
 qx h20 (a21.add 1) fun b22=>
 aL b22 (
 Q (.tuple #[(.string (ByteArray.mk #[])),(.int .i64 22)]) h20) (
 cH (some y4) fun a23=>
 vw h20 a23 fun s24=>
 Q (.tuple #[(.string s24),(.int .i64 0)]) h20))
def wS (y0:TS A2) (h:ae) (Q:VH):Prop:=
 aW h (.cells (aP A2 y0).toArray 32 (0,0)) fun b1 h2=>
 aW h2 (.cells #[(.string (ByteArray.mk #[69,65,82,49])),(.bool false)] 89 (0,0)) fun b3 h4=>
 ah .i64 h4 ⟨b1,0,none⟩ fun n5=>
 bc P cC #[(.pointer (some ⟨b3,0,none⟩)),(.int .i64 n5)] h4 fun h6=>
 ah .i64 h6 ⟨b1,1,none⟩ fun n7=>
 bc P dm #[(.pointer (some ⟨b3,0,none⟩)),(.int .i64 n7)] h6 fun h8=>
 ah .i64 h8 ⟨b1,2,none⟩ fun n9=>
 bc P dm #[(.pointer (some ⟨b3,0,none⟩)),(.int .i64 n9)] h8 fun h10=>
 av h10 ⟨b1,3,none⟩ fun p11 l11 c11=>
 bc P cC #[(.pointer (some ⟨b3,0,none⟩)),(.int .i64 (l11:Int))] h10 fun h12=>
 bB (S:=(Addr×Addr×Int×Unit)) (fun K1 s h=>qZ Q K1 s.1 s.2.1 s.2.2.1 h) (⟨b1,0,none⟩,⟨b3,0,none⟩,(0:Int),()) h12
noncomputable def yD:cz:=tb (ak .done []) (ak [] [(7,[(1,.sc (.adr)),(4,.sc (.adr)),(5,I6)])]) (ak none [])
theorem wT (y0:TS A2) {h:ae} {Q:VH} (H:wS y0 h Q):aq P iy #[(bz A2 y0)] h Q:=
 @aA P iy Tryz.f18 yD [(bz A2 y0)] h Q aR Tryz.func18 Tryz.call18 (by kernel_rfl) (Eq.mpr (by kernel_rfl) H)
def zI (h:ae) (Q:VH):Prop:=
 aq P fO #[(.string (ByteArray.mk #[]))] h fun v2 h1=>
 E3 A4 fun x3=> ∃n4:Int,v2=(.tuple #[(bz A4 x3),(.int .i64 n4)])∧
 aW h1 (.cells (aP A4 (zT A4)).toArray 39 (0,0)) fun b5 h6=>
 bt (aP A4 x3) h6 ⟨b5,0,none⟩ 0 fun h7=>
 aW h7 (.cells #[(.int .i64 0)] 3 (0,0)) fun b8 h9=>
 aW h9 (.cells #[(.int .i64 3),(.slice (some ⟨b8,0,none⟩) 1 1),(.int .i64 0),(.int .i64 3),(.int .i64 1),(.int .i64 1),(.int .i64 0),(.int .i64 0),(.slice none 0 0),(.slice none 0 0),(.int .i64 0),(.int .i64 0),(.int .i64 0),(.int .i64 0),(.int .i64 0)] 62 (0,0)) fun b10 h11=>
 aq P iy #[(.agg #[(.int .i64 2),(.int .i64 0),(.int .i64 9),(.slice (some ⟨b10,0,none⟩) 1 1),(.int .i64 1)])] h11 fun v13 h12=>
 ∃s14:ByteArray,∃n15:Int,v13=(.tuple #[(.string s14),(.int .i64 n15)])∧
 aq P fO #[(.string s14)] h12 fun v17 h16=>
 E3 A4 fun x18=> ∃n19:Int,v17=(.tuple #[(bz A4 x18),(.int .i64 n19)])∧
 aW h16 (.cells (aP A4 (zT A4)).toArray 39 (0,0)) fun b20 h21=>
 bt (aP A4 x18) h21 ⟨b20,0,none⟩ 0 fun h22=>
 aL (n4==10) (
 aL (n19==0) (
 av h22 ⟨b20,6,none⟩ fun p23 l23 c23=>
 aL ((l23:Int)==2) (
 av h22 ⟨b20,6,none⟩ fun p24 l24 c24=>
 bl p24 1 l24 fun a25=>
 ah .i64 h22 (a25.add ((1:Int).toNat*3)) fun n26=>
 aL (n26==8) (
 ah .i64 h22 ⟨b20,7,none⟩ fun n27=>
 Q (.bool (n27==12)) h22) (
 Q (.bool false) h22)) (
 Q (.bool false) h22)) (
 Q (.bool false) h22)) (
 Q (.bool false) h22)
noncomputable def Aq:cz:=tb (ak .done []) (ak [] []) (ak none [])
theorem yE {h:ae} {Q:VH} (H:zI h Q):aq P kQ #[] h Q:=
 @aA P kQ Tryz.f8 Aq [] h Q aR Tryz.func8 Tryz.call8 (by kernel_rfl) (Eq.mpr (by kernel_rfl) H)
def sH (y0:Option Addr) (y1:Int) (h:ae) (Q:VH):Prop:=
 cH y0 fun a1=>
 cH y0 fun a2=>
 ah .i64 h (a1.add 1) fun n3=>
 av h a2 fun p4 l4 c4=>
 aL (decide (n3≥(l4:Int))) (
 Q (.int .i64 0) h) (
 cH y0 fun a5=>
 ah .i64 h (a5.add 1) fun n6=>
 cH y0 fun a7=>
 bu h (a7.add 1) (.int .i64 (IntKind.wrap .i64 (n6+1))) fun h8=>
 cH y0 fun a9=>
 cH y0 fun a10=>
 av h8 a9 fun p11 l11 c11=>
 ah .i64 h8 (a10.add 1) fun n12=>
 bl p11 (IntKind.wrap .i64 (n12-1)) l11 fun a13=>
 ah .i64 h8 (a13.add ((IntKind.wrap .i64 (n12-1)).toNat*1)) fun n14=>
 Ob y1 fun _=>
 Ob y1 fun _=>
 Q (.int .i64 (Int.tmod (IntKind.wrap .i64 ((Int.tmod n14 y1)+y1)) y1)) h8)
noncomputable def vI:cz:=tb (ak .done [(1,(bD [0,1,2,4,5,6,3,7,8,9] .done)),(4,(bD [0,1,2,4,5,6,11,13,15,3,7,8,9,10,12,14,16,17] .done))]) (ak [] []) (ak none [])
theorem uF (y0:Option Addr) (y1:Int) {h:ae} {Q:VH} (H:sH y0 y1 h Q):aq P aV #[(.pointer y0),(.int .i64 y1)] h Q:=
 @aA P aV Tryz.f173 vI [(.pointer y0),(.int .i64 y1)] h Q aR Tryz.func173 Tryz.call173 (by kernel_rfl) (Eq.mpr (by kernel_rfl) H)
def u5 (y0:Int) (h:ae) (Q:VH):Prop:=
 aL (y0==1) (
 Q (.bool true) h) (
 aL (y0==2) (
 Q (.bool true) h) (
 aL (y0==3) (
 Q (.bool true) h) (
 aL (y0==4) (
 Q (.bool true) h) (
 Q (.bool (y0==12)) h))))
noncomputable def wU:cz:=tb (ak .done []) (ak [] []) (ak none [])
theorem vJ (y0:Int) {h:ae} {Q:VH} (H:u5 y0 h Q):aq P gR #[(.int .i64 y0)] h Q:=
 @aA P gR Tryz.f152 wU [(.int .i64 y0)] h Q aR Tryz.func152 Tryz.call152 (by kernel_rfl) (Eq.mpr (by kernel_rfl) H)
def BN (y0:TS A1) (h:ae) (Q:VH):Prop:=
 aW h (.cells (aP A1 y0).toArray 62 (0,0)) fun b1 h2=>
 ah .i64 h2 ⟨b1,0,none⟩ fun n3=>
 aL (n3==12) (
 ah .i64 h2 ⟨b1,3,none⟩ fun n4=>
 Q (.int .i64 n4) h2) (
 ah .i64 h2 ⟨b1,0,none⟩ fun n5=>
 aE P gR #[(.int .i64 n5)] h2 fun b7 h6=>
 aL (!b7) (
 Q (.int .i64 1) h6) (
 ah .i64 h6 ⟨b1,3,none⟩ fun n8=>
 ah .i64 h6 ⟨b1,5,none⟩ fun n9=>
 Q (.int .i64 (IntKind.wrap .i64 ((IntKind.wrap .i64 ((IntKind.wrap .i64 (n8-1))*n9))+1))) h6))
noncomputable def BP:cz:=tb (ak .done []) (ak [] []) (ak none [])
theorem Ar (y0:TS A1) {h:ae} {Q:VH} (H:BN y0 h Q):aq P gI #[(bz A1 y0)] h Q:=
 @aA P gI Tryz.f110 BP [(bz A1 y0)] h Q aR Tryz.func110 Tryz.call110 (by kernel_rfl) (Eq.mpr (by kernel_rfl) H)
def pm (y0:Option Addr) (y1:TS A1) (h:ae) (Q:VH):Prop:=
 aW h (.cells (aP A1 y1).toArray 62 (0,0)) fun b1 h2=>
 aW h2 (.cells (aP A1 (zT A1)).toArray 62 (0,0)) fun b3 h4=>
 aI P .i64 aV #[(.pointer y0),(.int .i64 4)] h4 fun n6 h5=>
 bu h5 ⟨b1,3,none⟩ (.int .i64 (IntKind.wrap .i64 ((1:Int)+n6))) fun h7=>
 aI P .i64 aV #[(.pointer y0),(.int .i64 3)] h7 fun n9 h8=>
 bu h8 ⟨b1,4,none⟩ (.int .i64 (IntKind.wrap .i64 ((1:Int)+n9))) fun h10=>
 aI P .i64 aV #[(.pointer y0),(.int .i64 3)] h10 fun n12 h11=>
 bu h11 ⟨b1,5,none⟩ (.int .i64 (IntKind.wrap .i64 ((1:Int)+n12))) fun h13=>
 aX A1 h13 ⟨b1,0,none⟩ fun x14=>
 aI P .i64 gI #[(bz A1 x14)] h13 fun n16 h15=>
 aI P .i64 aV #[(.pointer y0),(.int .i64 n16)] h15 fun n18 h17=>
 bu h17 ⟨b1,6,none⟩ (.int .i64 n18) fun h19=>
 aX A1 h19 ⟨b1,0,none⟩ fun x20=>
 aI P .i64 gI #[(bz A1 x20)] h19 fun n22 h21=>
 aI P .i64 aV #[(.pointer y0),(.int .i64 n22)] h21 fun n24 h23=>
 bu h23 ⟨b1,7,none⟩ (.int .i64 n24) fun h25=>
 aX A1 h25 ⟨b1,0,none⟩ fun x26=>
 bt (aP A1 x26) h25 ⟨b3,0,none⟩ 0 fun h27=>
 aX A1 h27 ⟨b3,0,none⟩ fun x28=>
 Q (bz A1 x28) h27
noncomputable def sI:cz:=tb (ak .done []) (ak [] []) (ak none [])
theorem rZ (y0:Option Addr) (y1:TS A1) {h:ae} {Q:VH} (H:pm y0 y1 h Q):aq P dk #[(.pointer y0),(bz A1 y1)] h Q:=
 @aA P dk Tryz.f221 sI [(.pointer y0),(bz A1 y1)] h Q aR Tryz.func221 Tryz.call221 (by kernel_rfl) (Eq.mpr (by kernel_rfl) H)
def pn (Q:VH) (K1:YH RT) (y0:Option Addr) (y1 y2 y3:Int) (y9p:OA) (y9n y9c:Nat) (y10:Int) (h1:ae):Prop:=
 aL (decide (y10<y1)) (
 aI P .i64 aV #[(.pointer y0),(.int .i64 y3)] h1 fun n3 h2=>
 aW h2 (.cells #[(.int .i64 (IntKind.wrap .i64 (y2+n3)))] 3 (0,0)) fun b4 h5=>
 jm 3 1 8 (.int .i64 0) y9p y9n y9c (some ⟨b4,0,none⟩) 1 h5 fun p6 l6 c6 h7=>
 K1 (y0,y1,y2,y3,(p6,l6,c6),(IntKind.wrap .i64 (y10+1)),()) h7) (
 Q (.slice y9p y9n y9c) h1)
def u6 (y0:Option Addr) (y1 y2 y3:Int) (h:ae) (Q:VH):Prop:=
 bB (S:=RT) (fun K1 s h=>pn Q K1 s.1 s.2.1 s.2.2.1 s.2.2.2.1 s.2.2.2.2.1.1 s.2.2.2.2.1.2.1 s.2.2.2.2.1.2.2 s.2.2.2.2.2.1 h) (y0,y1,y2,y3,(none,0,0),(0:Int),()) h
noncomputable def wV:cz:=tb (ak .done []) (ak [] [(3,[(0,.sc (.ptr)),(1,I6),(2,I6),(3,I6),(9,SL),(10,I6)])]) (ak none [])
theorem vK (y0:Option Addr) (y1 y2 y3:Int) {h:ae} {Q:VH} (H:u6 y0 y1 y2 y3 h Q):aq P dh #[(.pointer y0),(.int .i64 y1),(.int .i64 y2),(.int .i64 y3)] h Q:=
 @aA P dh Tryz.f222 wV [(.pointer y0),(.int .i64 y1),(.int .i64 y2),(.int .i64 y3)] h Q aR Tryz.func222 Tryz.call222 (by kernel_rfl) (Eq.mpr (by kernel_rfl) H)
def mW (Q:VH) (y0:Option Addr) (t8 y9:Addr) (y10:Int) (y14:Addr) (y15:Int) (h16:ae):Prop:=
 si y15 12 fun _=>
 ah .i64 h16 (y14.add (y15.toNat*1)) fun n17=>
 bu h16 y9 (.int .i64 n17) fun h18=>
 ah .i64 h18 y9 fun n19=>
 aL (n19==1) (
 aX A1 h18 y9 fun x20=>
 aq P dk #[(.pointer y0),(bz A1 x20)] h18 fun v22 h21=>
 E3 A1 fun x23=>v22=(bz A1 x23)∧
 bt (aP A1 x23) h21 y9 0 fun h24=>
 aI P .i64 aV #[(.pointer y0),(.int .i64 3)] h24 fun n26 h25=>
 bu h25 (y9.add 2) (.int .i64 (IntKind.wrap .i64 ((1:Int)+n26))) fun h27=>
 ah .i64 h27 (y9.add 2) fun n28=>
 ah .i64 h27 (y9.add 3) fun n29=>
 bM P dh #[(.pointer y0),(.int .i64 (IntKind.wrap .i64 ((IntKind.wrap .i64 (n28*n29))*y10))),(.int .i64 (-9:Int)),(.int .i64 19)] h27 fun p31 l31 c31 h30=>
 bu h30 (y9.add 8) (.slice p31 l31 c31) fun h32=>
 ah .i64 h32 (y9.add 2) fun n33=>
 bM P dh #[(.pointer y0),(.int .i64 n33),(.int .i64 (-50:Int)),(.int .i64 101)] h32 fun p35 l35 c35 h34=>
 bu h34 (y9.add 9) (.slice p35 l35 c35) fun h36=>
 aX A1 h36 y9 fun x37=>
 bt (aP A1 x37) h36 t8 0 fun h38=>
 aX A1 h38 t8 fun x39=>
 Q (bz A1 x39) h38) (
 aL (n19==2) (
 aX A1 h18 y9 fun x40=>
 aq P dk #[(.pointer y0),(bz A1 x40)] h18 fun v42 h41=>
 E3 A1 fun x43=>v42=(bz A1 x43)∧
 bt (aP A1 x43) h41 y9 0 fun h44=>
 ah .i64 h44 (y9.add 3) fun n45=>
 bM P dh #[(.pointer y0),(.int .i64 (IntKind.wrap .i64 (n45*y10))),(.int .i64 (-9:Int)),(.int .i64 19)] h44 fun p47 l47 c47 h46=>
 bu h46 (y9.add 8) (.slice p47 l47 c47) fun h48=>
 bM P dh #[(.pointer y0),(.int .i64 y10),(.int .i64 (-50:Int)),(.int .i64 101)] h48 fun p50 l50 c50 h49=>
 bu h49 (y9.add 9) (.slice p50 l50 c50) fun h51=>
 aX A1 h51 y9 fun x52=>
 bt (aP A1 x52) h51 t8 0 fun h53=>
 aX A1 h53 t8 fun x54=>
 Q (bz A1 x54) h53) (
 aL (n19==6) (
 aI P .i64 aV #[(.pointer y0),(.int .i64 3)] h18 fun n56 h55=>
 bu h55 (y9.add 2) (.int .i64 (IntKind.wrap .i64 ((1:Int)+n56))) fun h57=>
 ah .i64 h57 (y9.add 2) fun n58=>
 bM P dh #[(.pointer y0),(.int .i64 (IntKind.wrap .i64 (n58*y10))),(.int .i64 (-12:Int)),(.int .i64 25)] h57 fun p60 l60 c60 h59=>
 bu h59 (y9.add 8) (.slice p60 l60 c60) fun h61=>
 ah .i64 h61 (y9.add 2) fun n62=>
 bM P dh #[(.pointer y0),(.int .i64 n62),(.int .i64 (-5000:Int)),(.int .i64 10001)] h61 fun p64 l64 c64 h63=>
 bu h63 (y9.add 9) (.slice p64 l64 c64) fun h65=>
 aX A1 h65 y9 fun x66=>
 bt (aP A1 x66) h65 t8 0 fun h67=>
 aX A1 h67 t8 fun x68=>
 Q (bz A1 x68) h67) (
 aL (n19==3) (
 aX A1 h18 y9 fun x69=>
 aq P dk #[(.pointer y0),(bz A1 x69)] h18 fun v71 h70=>
 E3 A1 fun x72=>v71=(bz A1 x72)∧
 bt (aP A1 x72) h70 y9 0 fun h73=>
 aX A1 h73 y9 fun x74=>
 bt (aP A1 x74) h73 t8 0 fun h75=>
 aX A1 h75 t8 fun x76=>
 Q (bz A1 x76) h75) (
 aL (n19==4) (
 aX A1 h18 y9 fun x77=>
 aq P dk #[(.pointer y0),(bz A1 x77)] h18 fun v79 h78=>
 E3 A1 fun x80=>v79=(bz A1 x80)∧
 bt (aP A1 x80) h78 y9 0 fun h81=>
 aX A1 h81 y9 fun x82=>
 bt (aP A1 x82) h81 t8 0 fun h83=>
 aX A1 h83 t8 fun x84=>
 Q (bz A1 x84) h83) (
 aL (n19==12) (
 aI P .i64 aV #[(.pointer y0),(.int .i64 5)] h18 fun n86 h85=>
 bu h85 (y9.add 3) (.int .i64 (IntKind.wrap .i64 ((1:Int)+n86))) fun h87=>
 aX A1 h87 y9 fun x88=>
 bt (aP A1 x88) h87 t8 0 fun h89=>
 aX A1 h89 t8 fun x90=>
 Q (bz A1 x90) h89) (
 aL (n19==9) (
 aI P .i64 aV #[(.pointer y0),(.int .i64 200)] h18 fun n92 h91=>
 bu h91 (y9.add 12) (.int .i64 (IntKind.wrap .i64 (n92-150))) fun h93=>
 ah .i64 h93 (y9.add 12) fun n94=>
 aI P .i64 aV #[(.pointer y0),(.int .i64 300)] h93 fun n96 h95=>
 aD h95 (y9.add 12)=some (.int .i64 n94)∧
 bu h95 (y9.add 13) (.int .i64 (IntKind.wrap .i64 (n94+n96))) fun h97=>
 aX A1 h97 y9 fun x98=>
 bt (aP A1 x98) h97 t8 0 fun h99=>
 aX A1 h99 t8 fun x100=>
 Q (bz A1 x100) h99) (
 aL (n19==10) (
 aI P .i64 aV #[(.pointer y0),(.int .i64 32768)] h18 fun n102 h101=>
 bu h101 (y9.add 10) (.int .i64 n102) fun h103=>
 aI P .i64 aV #[(.pointer y0),(.int .i64 20)] h103 fun n105 h104=>
 bu h104 (y9.add 11) (.int .i64 n105) fun h106=>
 aX A1 h106 y9 fun x107=>
 bt (aP A1 x107) h106 t8 0 fun h108=>
 aX A1 h108 t8 fun x109=>
 Q (bz A1 x109) h108) (
 aX A1 h18 y9 fun x110=>
 bt (aP A1 x110) h18 t8 0 fun h111=>
 aX A1 h111 t8 fun x112=>
 Q (bz A1 x112) h111))))))))
def mX (Q:VH) (y0:Option Addr) (y3:Bool) (t8 y9:Addr) (y10:Int) (h9:ae):Prop:=
 aW h9 (.cells #[(.int .i64 0),(.int .i64 0),(.int .i64 0),(.int .i64 0),(.int .i64 0),(.int .i64 0),(.int .i64 0),(.int .i64 0),(.int .i64 0),(.int .i64 0),(.int .i64 0),(.int .i64 0)] 234 (0,0)) fun b10 h11=>
 bt [(.int .i64 1),(.int .i64 2),(.int .i64 3),(.int .i64 4),(.int .i64 12),(.int .i64 1),(.int .i64 5),(.int .i64 6),(.int .i64 9),(.int .i64 10),(.int .i64 11),(.int .i64 6)] h11 ⟨b10,0,none⟩ 0 fun h12=>
 aI P .i64 aV #[(.pointer y0),(.int .i64 12)] h12 fun n14 h13=>
 ∃J15:(Option Addr×Addr×Addr×Int×Addr×Int×Unit)→ae→Prop,(∀s h,J15 s h→mW Q s.1 s.2.1 s.2.2.1 s.2.2.2.1 s.2.2.2.2.1 s.2.2.2.2.2.1 h)∧
 aL y3 (
 aI P .i64 aV #[(.pointer y0),(.int .i64 5)] h13 fun n114 h113=>
 J15 (y0,t8,y9,y10,⟨b10,0,none⟩,(IntKind.wrap .i64 ((7:Int)+n114)),()) h113) (
 J15 (y0,t8,y9,y10,⟨b10,0,none⟩,n14,()) h13)
def u7 (Q:VH) (J8:(Option Addr×Bool×Addr×Addr×Int×Unit)→ae→Prop) (K1:YH RU) (y0:Option Addr) (y1p:OA) (y1n y1c:Nat) (y2p:OA) (y2n y2c:Nat) (y3:Bool) (t8 y9:Addr) (y10 y11:Int) (y12:Bool) (y13:Int) (h116:ae):Prop:=
 aL (decide (y13<(y2n:Int))) (
 bl y2p y13 y2n fun a117=>
 ah .i64 h116 (a117.add (y13.toNat*1)) fun n118=>
 aL y12 (
 bl y2p y13 y2n fun a119=>
 ah .i64 h116 (a119.add (y13.toNat*1)) fun n120=>
 K1 (y0,(y1p,y1n,y1c),(y2p,y2n,y2c),y3,t8,y9,y10,(IntKind.wrap .i64 (y11+n118)),(n120==y10),(IntKind.wrap .i64 (y13+1)),()) h116) (
 K1 (y0,(y1p,y1n,y1c),(y2p,y2n,y2c),y3,t8,y9,y10,(IntKind.wrap .i64 (y11+n118)),false,(IntKind.wrap .i64 (y13+1)),()) h116)) (
 aL y12 (
 aL (decide (y11>16)) (
 bu h116 y9 (.int .i64 7) fun h121=>
 aX A1 h121 y9 fun x122=>
 bt (aP A1 x122) h121 t8 0 fun h123=>
 aX A1 h123 t8 fun x124=>
 Q (bz A1 x124) h123) (
 aI P .i64 aV #[(.pointer y0),(.int .i64 2)] h116 fun n126 h125=>
 aL (n126==0) (
 bu h125 y9 (.int .i64 7) fun h127=>
 aX A1 h127 y9 fun x128=>
 bt (aP A1 x128) h127 t8 0 fun h129=>
 aX A1 h129 t8 fun x130=>
 Q (bz A1 x130) h129) (
 aL (decide (y11≤16)) (
 aX A1 h125 y9 fun x131=>
 bt (aP A1 x131) h125 t8 0 fun h132=>
 aX A1 h132 t8 fun x133=>
 Q (bz A1 x133) h132) (
 qy 1 y1c fun l134=>
 bu h125 (y9.add 1) (.slice (if y1c=0 then y1p else Option.map (fun a=>a.add (0*1)) y1p) (l134-0) (y1c-0)) fun h135=>
 J8 (y0,y3,t8,y9,y10,()) h135)))) (
 aL (decide (y11≤16)) (
 aX A1 h116 y9 fun x136=>
 bt (aP A1 x136) h116 t8 0 fun h137=>
 aX A1 h137 t8 fun x138=>
 Q (bz A1 x138) h137) (
 qy 1 y1c fun l139=>
 bu h116 (y9.add 1) (.slice (if y1c=0 then y1p else Option.map (fun a=>a.add (0*1)) y1p) (l139-0) (y1c-0)) fun h140=>
 J8 (y0,y3,t8,y9,y10,()) h140)))
def BQ (y0:Option Addr) (y1p:OA) (y1n y1c:Nat) (y2p:OA) (y2n y2c:Nat) (y3:Bool) (h:ae) (Q:VH):Prop:=
 aW h (.cells (aP A1 (zT A1)).toArray 62 (0,0)) fun b1 h2=>
 aW h2 (.cells (aP A1 (zT A1)).toArray 62 (0,0)) fun b3 h4=>
 bt [(.int .i64 0),(.slice y1p y1n y1c),(.int .i64 0),(.int .i64 0),(.int .i64 0),(.int .i64 0),(.int .i64 0),(.int .i64 0),(.slice none 0 0),(.slice none 0 0),(.int .i64 0),(.int .i64 0),(.int .i64 0),(.int .i64 0),(.int .i64 0)] h4 ⟨b3,0,none⟩ 0 fun h5=>
 bl y2p 0 y2n fun a6=>
 ah .i64 h5 (a6.add ((0:Int).toNat*1)) fun n7=>
 ∃J8:(Option Addr×Bool×Addr×Addr×Int×Unit)→ae→Prop,(∀s h,J8 s h→mX Q s.1 s.2.1 s.2.2.1 s.2.2.2.1 s.2.2.2.2.1 h)∧
 aL (decide ((y1n:Int)>1)) (
 bu h5 ⟨b3,0,none⟩ (.int .i64 8) fun h115=>
 bB (S:=RU) (fun K1 s h=>u7 Q J8 K1 s.1 s.2.1.1 s.2.1.2.1 s.2.1.2.2 s.2.2.1.1 s.2.2.1.2.1 s.2.2.1.2.2 s.2.2.2.1 s.2.2.2.2.1 s.2.2.2.2.2.1 s.2.2.2.2.2.2.1 s.2.2.2.2.2.2.2.1 s.2.2.2.2.2.2.2.2.1 s.2.2.2.2.2.2.2.2.2.1 h) (y0,(y1p,y1n,y1c),(y2p,y2n,y2c),y3,⟨b1,0,none⟩,⟨b3,0,none⟩,n7,(0:Int),true,(0:Int),()) h115) (
 J8 (y0,y3,⟨b1,0,none⟩,⟨b3,0,none⟩,n7,()) h5)
noncomputable def BR:cz:=tb (ak .done [(44,(bD [0,2] (.early 1 (.alt 3 (bD [4,5] (.alt 6 .done .stop)) .stop))))]) (ak [] [(8,[(0,.sc (.ptr)),(1,SL),(2,SL),(3,BO),(8,.sc (.adr)),(9,.sc (.adr)),(10,I6),(11,I6),(12,BO),(13,I6)])]) (ak none [(18,some [(0,.sc (.ptr)),(3,BO),(8,.sc (.adr)),(9,.sc (.adr)),(10,I6)]),(22,some [(0,.sc (.ptr)),(8,.sc (.adr)),(9,.sc (.adr)),(10,I6),(14,.sc (.adr)),(15,I6)])])
theorem As (y0:Option Addr) (y1p:OA) (y1n y1c:Nat) (y2p:OA) (y2n y2c:Nat) (y3:Bool) {h:ae} {Q:VH} (H:BQ y0 y1p y1n y1c y2p y2n y2c y3 h Q):aq P mc #[(.pointer y0),(.slice y1p y1n y1c),(.slice y2p y2n y2c),(.bool y3)] h Q:=
 @aA P mc Tryz.f174 BR [(.pointer y0),(.slice y1p y1n y1c),(.slice y2p y2n y2c),(.bool y3)] h Q aR Tryz.func174 Tryz.call174 (by kernel_rfl) (Eq.mpr (by kernel_rfl) H)
def wW (Q:VH) (K1:(S3×Int×Int×Int×Unit)→ae→Prop) (y0p:OA) (y0n y0c:Nat) (y1 y2 y7:Int) (h1:ae):Prop:=
 aL (decide (y7<(y0n:Int))) (
 bl y0p y7 y0n fun a2=>
 ah .i64 h1 (a2.add (y7.toNat*1)) fun n3=>
 aL (decide (n3<y1)) (
 Q (.bool false) h1) (
 bl y0p y7 y0n fun a4=>
 ah .i64 h1 (a4.add (y7.toNat*1)) fun n5=>
 aL (decide (n5>y2)) (
 Q (.bool false) h1) (
 K1 ((y0p,y0n,y0c),y1,y2,(IntKind.wrap .i64 (y7+1)),()) h1))) (
 Q (.bool true) h1)
def ER (y0p:OA) (y0n y0c:Nat) (y1 y2:Int) (h:ae) (Q:VH):Prop:=
 bB (S:=(S3×Int×Int×Int×Unit)) (fun K1 s h=>wW Q K1 s.1.1 s.1.2.1 s.1.2.2 s.2.1 s.2.2.1 s.2.2.2.1 h) ((y0p,y0n,y0c),y1,y2,(0:Int),()) h
noncomputable def D9:cz:=tb (ak .done []) (ak [] [(2,[(0,SL),(1,I6),(2,I6),(7,I6)])]) (ak none [])
theorem BS (y0p:OA) (y0n y0c:Nat) (y1 y2:Int) {h:ae} {Q:VH} (H:ER y0p y0n y0c y1 y2 h Q):aq P jN #[(.slice y0p y0n y0c),(.int .i64 y1),(.int .i64 y2)] h Q:=
 @aA P jN Tryz.f203 D9 [(.slice y0p y0n y0c),(.int .i64 y1),(.int .i64 y2)] h Q aR Tryz.func203 Tryz.call203 (by kernel_rfl) (Eq.mpr (by kernel_rfl) H)
def G5 (y0 y1 y2:Int) (h:ae) (Q:VH):Prop:=
 aL (decide (y0≥y1)) (
 Q (.bool (decide (y0≤y2))) h) (
 Q (.bool false) h)
noncomputable def FW:cz:=tb (ak .done []) (ak [] []) (ak none [])
theorem Ea (y0 y1 y2:Int) {h:ae} {Q:VH} (H:G5 y0 y1 y2 h Q):aq P eI #[(.int .i64 y0),(.int .i64 y1),(.int .i64 y2)] h Q:=
 @aA P eI Tryz.f204 FW [(.int .i64 y0),(.int .i64 y1),(.int .i64 y2)] h Q aR Tryz.func204 Tryz.call204 (by kernel_rfl) (Eq.mpr (by kernel_rfl) H)
def BT (y0:Int) (h:ae) (Q:VH):Prop:=
 aL (y0==7) (
 Q (.bool true) h) (
 Q (.bool (y0==8)) h)
noncomputable def BU:cz:=tb (ak .done []) (ak [] []) (ak none [])
theorem Au (y0:Int) {h:ae} {Q:VH} (H:BT y0 h Q):aq P md #[(.int .i64 y0)] h Q:=
 @aA P md Tryz.f172 BU [(.int .i64 y0)] h Q aR Tryz.func172 Tryz.call172 (by kernel_rfl) (Eq.mpr (by kernel_rfl) H)
def wX (y0:Int) (h:ae) (Q:VH):Prop:=
 aL (y0==1) (
 Q (.bool true) h) (
 aL (y0==2) (
 Q (.bool true) h) (
 Q (.bool (y0==6)) h))
noncomputable def yF:cz:=tb (ak .done []) (ak [] []) (ak none [])
theorem wY (y0:Int) {h:ae} {Q:VH} (H:wX y0 h Q):aq P gn #[(.int .i64 y0)] h Q:=
 @aA P gn Tryz.f205 yF [(.int .i64 y0)] h Q aR Tryz.func205 Tryz.call205 (by kernel_rfl) (Eq.mpr (by kernel_rfl) H)
def BV (y0:Int) (h:ae) (Q:VH):Prop:=
 aL (y0==1) (
 Q (.bool true) h) (
 aL (y0==2) (
 Q (.bool true) h) (
 aL (y0==3) (
 Q (.bool true) h) (
 Q (.bool (y0==4)) h)))
noncomputable def BW:cz:=tb (ak .done []) (ak [] []) (ak none [])
theorem Av (y0:Int) {h:ae} {Q:VH} (H:BV y0 h Q):aq P iQ #[(.int .i64 y0)] h Q:=
 @aA P iQ Tryz.f171 BW [(.int .i64 y0)] h Q aR Tryz.func171 Tryz.call171 (by kernel_rfl) (Eq.mpr (by kernel_rfl) H)
def q6 (Q:VH) (y1:Addr) (y6 y7:Bool) (h20:ae):Prop:=
 aL y6 (
 aL y7 (
 Q (.bool true) h20) (
 ah .i64 h20 (y1.add 12) fun n21=>
 aL (n21==0) (
 ah .i64 h20 (y1.add 13) fun n22=>
 Q (.bool (n22==0)) h20) (
 Q (.bool false) h20))) (
 ah .i64 h20 (y1.add 10) fun n23=>
 aL (n23==0) (
 ah .i64 h20 (y1.add 11) fun n24=>
 aL (n24==0) (
 aL y7 (
 Q (.bool true) h20) (
 ah .i64 h20 (y1.add 12) fun n25=>
 aL (n25==0) (
 ah .i64 h20 (y1.add 13) fun n26=>
 Q (.bool (n26==0)) h20) (
 Q (.bool false) h20))) (
 Q (.bool false) h20)) (
 Q (.bool false) h20))
def q7 (Q:VH) (y1:Addr) (y4 y6 y7:Bool) (h18:ae):Prop:=
 ∃J19:(Addr×Bool×Bool×Unit)→ae→Prop,(∀s h,J19 s h→q6 Q s.1 s.2.1 s.2.2.1 h)∧
 aL (!y4) (
 av h18 (y1.add 8) fun p27 l27 c27=>
 aL (decide ((l27:Int)>0)) (
 Q (.bool false) h18) (
 av h18 (y1.add 9) fun p28 l28 c28=>
 aL (decide ((l28:Int)>0)) (
 Q (.bool false) h18) (
 J19 (y1,y6,y7,()) h18))) (
 J19 (y1,y6,y7,()) h18)
def sJ (Q:VH) (y1:Addr) (y3 y4 y5 y6 y7:Bool) (h16:ae):Prop:=
 ∃J17:(Addr×Bool×Bool×Bool×Unit)→ae→Prop,(∀s h,J17 s h→q7 Q s.1 s.2.1 s.2.2.1 s.2.2.2.1 h)∧
 aL (!y3) (
 ah .i64 h16 y1 fun n29=>
 aL (n29 !=12) (
 ah .i64 h16 (y1.add 3) fun n30=>
 aL (n30 !=0) (
 Q (.bool false) h16) (
 aL (!y5) (
 ah .i64 h16 (y1.add 2) fun n31=>
 aL (n31 !=0) (
 Q (.bool false) h16) (
 J17 (y1,y4,y6,y7,()) h16)) (
 J17 (y1,y4,y6,y7,()) h16))) (
 aL (!y5) (
 ah .i64 h16 (y1.add 2) fun n32=>
 aL (n32 !=0) (
 Q (.bool false) h16) (
 J17 (y1,y4,y6,y7,()) h16)) (
 J17 (y1,y4,y6,y7,()) h16))) (
 aL (!y5) (
 ah .i64 h16 (y1.add 2) fun n33=>
 aL (n33 !=0) (
 Q (.bool false) h16) (
 J17 (y1,y4,y6,y7,()) h16)) (
 J17 (y1,y4,y6,y7,()) h16))
def sK (Q:VH) (y1:Addr) (y3 y4 y5 y6 y7:Bool) (h14:ae):Prop:=
 ∃J15:(Addr×Bool×Bool×Bool×Bool×Bool×Unit)→ae→Prop,(∀s h,J15 s h→sJ Q s.1 s.2.1 s.2.2.1 s.2.2.2.1 s.2.2.2.2.1 s.2.2.2.2.2.1 h)∧
 aL (!y3) (
 ah .i64 h14 (y1.add 4) fun n34=>
 aL (n34 !=0) (
 Q (.bool false) h14) (
 ah .i64 h14 (y1.add 5) fun n35=>
 aL (n35 !=0) (
 Q (.bool false) h14) (
 ah .i64 h14 (y1.add 6) fun n36=>
 aL (n36 !=0) (
 Q (.bool false) h14) (
 ah .i64 h14 (y1.add 7) fun n37=>
 aL (n37 !=0) (
 Q (.bool false) h14) (
 J15 (y1,y3,y4,y5,y6,y7,()) h14))))) (
 J15 (y1,y3,y4,y5,y6,y7,()) h14)
def sL (Q:VH) (y1:Addr) (y3 y4 y5 y6:Bool) (h12:ae):Prop:=
 ∃J13:(Addr×Bool×Bool×Bool×Bool×Bool×Unit)→ae→Prop,(∀s h,J13 s h→sK Q s.1 s.2.1 s.2.2.1 s.2.2.2.1 s.2.2.2.2.1 s.2.2.2.2.2.1 h)∧
 ah .i64 h12 y1 fun n38=>
 aL (n38==9) (
 J13 (y1,y3,y4,y5,y6,true,()) h12) (
 ah .i64 h12 (y1.add 14) fun n39=>
 J13 (y1,y3,y4,y5,y6,((cS .i64 n39 2)==2),()) h12)
def sM (Q:VH) (y1:Addr) (y3 y4 y5:Bool) (h10:ae):Prop:=
 ∃J11:(Addr×Bool×Bool×Bool×Bool×Unit)→ae→Prop,(∀s h,J11 s h→sL Q s.1 s.2.1 s.2.2.1 s.2.2.2.1 s.2.2.2.2.1 h)∧
 ah .i64 h10 y1 fun n40=>
 aL (n40==10) (
 J11 (y1,y3,y4,y5,true,()) h10) (
 ah .i64 h10 (y1.add 14) fun n41=>
 J11 (y1,y3,y4,y5,((cS .i64 n41 1)==1),()) h10)
def zJ (y0:TS A1) (h:ae) (Q:VH):Prop:=
 aW h (.cells (aP A1 y0).toArray 62 (0,0)) fun b1 h2=>
 ah .i64 h2 ⟨b1,0,none⟩ fun n3=>
 aE P iQ #[(.int .i64 n3)] h2 fun b5 h4=>
 ah .i64 h4 ⟨b1,0,none⟩ fun n6=>
 aE P gn #[(.int .i64 n6)] h4 fun b8 h7=>
 ∃J9:(Addr×Bool×Bool×Bool×Unit)→ae→Prop,(∀s h,J9 s h→sM Q s.1 s.2.1 s.2.2.1 s.2.2.2.1 h)∧
 ah .i64 h7 ⟨b1,0,none⟩ fun n42=>
 aL (n42==1) (
 J9 (⟨b1,0,none⟩,b5,b8,true,()) h7) (
 ah .i64 h7 ⟨b1,0,none⟩ fun n43=>
 J9 (⟨b1,0,none⟩,b5,b8,(n43==6),()) h7)
noncomputable def Aw:cz:=tb (ak .done []) (ak [] []) (ak none [(4,some [(1,.sc (.adr)),(3,BO),(4,BO),(5,BO)]),(5,some [(1,.sc (.adr)),(3,BO),(4,BO),(5,BO),(6,BO)]),(6,some [(1,.sc (.adr)),(3,BO),(4,BO),(5,BO),(6,BO),(7,BO)]),(8,some [(1,.sc (.adr)),(3,BO),(4,BO),(5,BO),(6,BO),(7,BO)]),(10,some [(1,.sc (.adr)),(4,BO),(6,BO),(7,BO)]),(12,some [(1,.sc (.adr)),(6,BO),(7,BO)])])
theorem yG (y0:TS A1) {h:ae} {Q:VH} (H:zJ y0 h Q):aq P kR #[(bz A1 y0)] h Q:=
 @aA P kR Tryz.f206 Aw [(bz A1 y0)] h Q aR Tryz.func206 Tryz.call206 (by kernel_rfl) (Eq.mpr (by kernel_rfl) H)
def u9 (y0:TS A1) (y1:Int) (h:ae) (Q:VH):Prop:=
 aW h (.cells (aP A1 y0).toArray 62 (0,0)) fun b1 h2=>
 ah .i64 h2 ⟨b1,0,none⟩ fun n3=>
 aL (n3==1) (
 ah .i64 h2 ⟨b1,2,none⟩ fun n4=>
 ah .i64 h2 ⟨b1,3,none⟩ fun n5=>
 Q (.int .i64 (IntKind.wrap .i64 ((IntKind.wrap .i64 (n4*n5))*y1))) h2) (
 ah .i64 h2 ⟨b1,0,none⟩ fun n6=>
 aL (n6==2) (
 ah .i64 h2 ⟨b1,3,none⟩ fun n7=>
 Q (.int .i64 (IntKind.wrap .i64 (y1*n7))) h2) (
 ah .i64 h2 ⟨b1,2,none⟩ fun n8=>
 Q (.int .i64 (IntKind.wrap .i64 (n8*y1))) h2))
noncomputable def wZ:cz:=tb (ak .done []) (ak [] []) (ak none [])
theorem vL (y0:TS A1) (y1:Int) {h:ae} {Q:VH} (H:u9 y0 y1 h Q):aq P jv #[(bz A1 y0),(.int .i64 y1)] h Q:=
 @aA P jv Tryz.f230 wZ [(bz A1 y0),(.int .i64 y1)] h Q aR Tryz.func230 Tryz.call230 (by kernel_rfl) (Eq.mpr (by kernel_rfl) H)
def q8 (Q:VH) (y2:Addr) (h30:ae):Prop:=
 ah .i64 h30 (y2.add 10) fun n31=>
 aE P eI #[(.int .i64 n31),(.int .i64 0),(.int .i64 32767)] h30 fun b33 h32=>
 ah .i64 h32 (y2.add 11) fun n34=>
 aE P eI #[(.int .i64 n34),(.int .i64 0),(.int .i64 30)] h32 fun b36 h35=>
 ah .i64 h35 (y2.add 12) fun n37=>
 aE P eI #[(.int .i64 n37),(.int .i64 (-2147483648:Int)),(.int .i64 2147483647)] h35 fun b39 h38=>
 ah .i64 h38 (y2.add 13) fun n40=>
 aE P eI #[(.int .i64 n40),(.int .i64 (-2147483648:Int)),(.int .i64 2147483647)] h38 fun b42 h41=>
 aL b33 (
 aL b36 (
 aL b39 (
 aL b42 (
 ah .i64 h41 (y2.add 12) fun n43=>
 ah .i64 h41 (y2.add 13) fun n44=>
 Q (.bool (decide (n43≤n44))) h41) (
 Q (.bool false) h41)) (
 Q (.bool false) h41)) (
 Q (.bool false) h41)) (
 Q (.bool false) h41)
def q9 (Q:VH) (J29:(Addr×Unit)→ae→Prop) (y1:Int) (y2:Addr) (y11:Int) (h47:ae):Prop:=
 av h47 (y2.add 8) fun p48 l48 c48=>
 aE P jN #[(.slice p48 l48 c48),(.int .i64 (-128:Int)),(.int .i64 127)] h47 fun b50 h49=>
 av h49 (y2.add 9) fun p51 l51 c51=>
 aE P jN #[(.slice p51 l51 c51),(.int .i64 (-16777216:Int)),(.int .i64 16777216)] h49 fun b53 h52=>
 aX A1 h52 y2 fun x54=>
 av h52 (y2.add 8) fun p55 l55 c55=>
 aI P .i64 jv #[(bz A1 x54),(.int .i64 y1)] h52 fun n57 h56=>
 aD h56 (y2.add 8)=some (.slice p55 l55 c55)∧
 aL ((l55:Int) !=n57) (
 Q (.bool false) h56) (
 av h56 (y2.add 9) fun p58 l58 c58=>
 aL ((l58:Int) !=y11) (
 Q (.bool false) h56) (
 aL (!b50) (
 Q (.bool false) h56) (
 aL (!b53) (
 Q (.bool false) h56) (
 J29 (y2,()) h56))))
def re (Q:VH) (y1:Int) (y2:Addr) (y6:Bool) (h28:ae):Prop:=
 ∃J29:(Addr×Unit)→ae→Prop,(∀s h,J29 s h→q8 Q s.1 h)∧
 aL y6 (
 ah .i64 h28 (y2.add 2) fun n45=>
 ∃J46:(Int×Addr×Int×Unit)→ae→Prop,(∀s h,J46 s h→q9 Q J29 s.1 s.2.1 s.2.2.1 h)∧
 ah .i64 h28 y2 fun n59=>
 aL (n59==2) (
 J46 (y1,y2,y1,()) h28) (
 J46 (y1,y2,n45,()) h28)) (
 J29 (y2,()) h28)
def rg (Q:VH) (y1:Int) (y2:Addr) (y6:Bool) (h23:ae):Prop:=
 ah .i64 h23 (y2.add 2) fun n24=>
 aE P eI #[(.int .i64 n24),(.int .i64 1),(.int .i64 16)] h23 fun b26 h25=>
 ∃J27:(Int×Addr×Bool×Unit)→ae→Prop,(∀s h,J27 s h→re Q s.1 s.2.1 s.2.2.1 h)∧
 ah .i64 h25 y2 fun n60=>
 aL (n60==1) (
 aL (!b26) (
 Q (.bool false) h25) (
 J27 (y1,y2,y6,()) h25)) (
 ah .i64 h25 y2 fun n61=>
 aL (n61==6) (
 aL (!b26) (
 Q (.bool false) h25) (
 J27 (y1,y2,y6,()) h25)) (
 J27 (y1,y2,y6,()) h25))
def rh (Q:VH) (y1:Int) (y2:Addr) (y5 y6:Bool) (h21:ae):Prop:=
 ∃J22:(Int×Addr×Bool×Unit)→ae→Prop,(∀s h,J22 s h→rg Q s.1 s.2.1 s.2.2.1 h)∧
 aL y5 (
 ah .i64 h21 (y2.add 6) fun n62=>
 aL (decide (n62<0)) (
 Q (.bool false) h21) (
 ah .i64 h21 (y2.add 6) fun n63=>
 aX A1 h21 y2 fun x64=>
 aI P .i64 gI #[(bz A1 x64)] h21 fun n66 h65=>
 aD h65 (y2.add 6)=some (.int .i64 n63)∧
 aL (decide (n63≥n66)) (
 aD h65 (y2.add 6)=some (.int .i64 n63)∧
 Q (.bool false) h65) (
 ah .i64 h65 (y2.add 7) fun n67=>
 aL (decide (n67<0)) (
 aD h65 (y2.add 6)=some (.int .i64 n63)∧
 Q (.bool false) h65) (
 aX A1 h65 y2 fun x68=>
 ah .i64 h65 (y2.add 7) fun n69=>
 aI P .i64 gI #[(bz A1 x68)] h65 fun n71 h70=>
 aD h70 (y2.add 7)=some (.int .i64 n69)∧
 aD h70 (y2.add 6)=some (.int .i64 n63)∧
 aL (decide (n69≥n71)) (
 Q (.bool false) h70) (
 J22 (y1,y2,y6,()) h70))))) (
 J22 (y1,y2,y6,()) h21)
def sN (Q:VH) (y1:Int) (y2:Addr) (y5 y6:Bool) (h13:ae):Prop:=
 ah .i64 h13 (y2.add 4) fun n14=>
 aE P eI #[(.int .i64 n14),(.int .i64 1),(.int .i64 4)] h13 fun b16 h15=>
 ah .i64 h15 (y2.add 5) fun n17=>
 aE P eI #[(.int .i64 n17),(.int .i64 1),(.int .i64 4)] h15 fun b19 h18=>
 ∃J20:(Int×Addr×Bool×Bool×Unit)→ae→Prop,(∀s h,J20 s h→rh Q s.1 s.2.1 s.2.2.1 s.2.2.2.1 h)∧
 aL y5 (
 aL (!b16) (
 Q (.bool false) h18) (
 aL (!b19) (
 Q (.bool false) h18) (
 J20 (y1,y2,y5,y6,()) h18))) (
 J20 (y1,y2,y5,y6,()) h18)
def zK (y0:TS A1) (y1:Int) (h:ae) (Q:VH):Prop:=
 aW h (.cells (aP A1 y0).toArray 62 (0,0)) fun b1 h2=>
 ah .i64 h2 ⟨b1,0,none⟩ fun n3=>
 aE P iQ #[(.int .i64 n3)] h2 fun b5 h4=>
 ah .i64 h4 ⟨b1,0,none⟩ fun n6=>
 aE P gn #[(.int .i64 n6)] h4 fun b8 h7=>
 ah .i64 h7 ⟨b1,3,none⟩ fun n9=>
 aE P eI #[(.int .i64 n9),(.int .i64 1),(.int .i64 8)] h7 fun b11 h10=>
 ∃J12:(Int×Addr×Bool×Bool×Unit)→ae→Prop,(∀s h,J12 s h→sN Q s.1 s.2.1 s.2.2.1 s.2.2.2.1 h)∧
 aL b5 (
 aL (!b11) (
 Q (.bool false) h10) (
 J12 (y1,⟨b1,0,none⟩,b5,b8,()) h10)) (
 ah .i64 h10 ⟨b1,0,none⟩ fun n72=>
 aL (n72==12) (
 aL (!b11) (
 Q (.bool false) h10) (
 J12 (y1,⟨b1,0,none⟩,b5,b8,()) h10)) (
 J12 (y1,⟨b1,0,none⟩,b5,b8,()) h10))
noncomputable def Ax:cz:=tb (ak .done [(10,(bD [0,1,2] (.alt 3 (bD [4,5,6] (.early 7 (.alt 8 (.alt 9 (bD [10,11,12,13] (.alt 14 (bD [15,16,17,18,20] (.early 19 (.alt 21 (bD [22,23,24] .done) .stop))) .stop)) .stop) .stop))) .stop))),(21,(bD [0,4,3] (.early 1 (bD [2] (.alt 5 (bD [6,7,8,11,9,10,12,13,14,15,16,17,18,19,20,21] .done) .stop)))))]) (ak [] []) (ak none [(6,some [(1,I6),(2,.sc (.adr)),(5,BO),(6,BO)]),(10,some [(1,I6),(2,.sc (.adr)),(5,BO),(6,BO)]),(12,some [(1,I6),(2,.sc (.adr)),(6,BO)]),(15,some [(1,I6),(2,.sc (.adr)),(6,BO)]),(19,some [(1,I6),(2,.sc (.adr)),(11,I6)]),(23,some [(2,.sc (.adr))])])
theorem yH (y0:TS A1) (y1:Int) {h:ae} {Q:VH} (H:zK y0 y1 h Q):aq P kS #[(bz A1 y0),(.int .i64 y1)] h Q:=
 @aA P kS Tryz.f207 Ax [(bz A1 y0),(.int .i64 y1)] h Q aR Tryz.func207 Tryz.call207 (by kernel_rfl) (Eq.mpr (by kernel_rfl) H)
def ri (Q:VH) (K1:(S3×Addr×Int×Int×Unit)→ae→Prop) (y1p:OA) (y1n y1c:Nat) (y2:Addr) (y11 y12:Int) (h28:ae):Prop:=
 aL (decide (y12<(y1n:Int))) (
 bl y1p y12 y1n fun a29=>
 ah .i64 h28 (a29.add (y12.toNat*1)) fun n30=>
 ah .i64 h28 y2 fun n31=>
 aL (n31==7) (
 bl y1p y12 y1n fun a32=>
 bl y1p 0 y1n fun a33=>
 ah .i64 h28 (a32.add (y12.toNat*1)) fun n34=>
 ah .i64 h28 (a33.add ((0:Int).toNat*1)) fun n35=>
 aL (n34 !=n35) (
 Q (.int .i64 14) h28) (
 K1 ((y1p,y1n,y1c),y2,(IntKind.wrap .i64 (y11+n30)),(IntKind.wrap .i64 (y12+1)),()) h28)) (
 K1 ((y1p,y1n,y1c),y2,(IntKind.wrap .i64 (y11+n30)),(IntKind.wrap .i64 (y12+1)),()) h28)) (
 ah .i64 h28 y2 fun n36=>
 aL (n36==8) (
 aL (decide (y11>16)) (
 Q (.int .i64 14) h28) (
 Q (.int .i64 0) h28)) (
 Q (.int .i64 0) h28))
def rq (Q:VH) (y1p:OA) (y1n y1c:Nat) (y2:Addr) (h19:ae):Prop:=
 aX A1 h19 y2 fun x20=>
 aE P kR #[(bz A1 x20)] h19 fun b22 h21=>
 aL (!b22) (
 Q (.int .i64 12) h21) (
 bl y1p 0 y1n fun a23=>
 aX A1 h21 y2 fun x24=>
 ah .i64 h21 (a23.add ((0:Int).toNat*1)) fun n25=>
 aE P kS #[(bz A1 x24),(.int .i64 n25)] h21 fun b27 h26=>
 aL (!b27) (
 Q (.int .i64 22) h26) (
 bB (S:=(S3×Addr×Int×Int×Unit)) (fun K1 s h=>ri Q K1 s.1.1 s.1.2.1 s.1.2.2 s.2.1 s.2.2.1 s.2.2.2.1 h) ((y1p,y1n,y1c),y2,(0:Int),(0:Int),()) h26))
def sO (Q:VH) (y1p:OA) (y1n y1c:Nat) (y2:Addr) (y8:Bool) (h17:ae):Prop:=
 ∃J18:(S3×Addr×Unit)→ae→Prop,(∀s h,J18 s h→rq Q s.1.1 s.1.2.1 s.1.2.2 s.2.1 h)∧
 ah .i64 h17 (y2.add 14) fun n37=>
 aL (decide (n37<0)) (
 Q (.int .i64 12) h17) (
 ah .i64 h17 (y2.add 14) fun n38=>
 aL (decide (n38>3)) (
 Q (.int .i64 12) h17) (
 ah .i64 h17 (y2.add 14) fun n39=>
 aL (n39 !=0) (
 aL (!y8) (
 Q (.int .i64 12) h17) (
 J18 ((y1p,y1n,y1c),y2,()) h17)) (
 J18 ((y1p,y1n,y1c),y2,()) h17)))
def sP (Q:VH) (y1p:OA) (y1n y1c:Nat) (y2:Addr) (h6:ae):Prop:=
 ah .i64 h6 y2 fun n7=>
 aE P eI #[(.int .i64 n7),(.int .i64 1),(.int .i64 12)] h6 fun b9 h8=>
 ah .i64 h8 y2 fun n10=>
 aE P md #[(.int .i64 n10)] h8 fun b12 h11=>
 ah .i64 h11 y2 fun n13=>
 aE P gn #[(.int .i64 n13)] h11 fun b15 h14=>
 ∃J16:(S3×Addr×Bool×Unit)→ae→Prop,(∀s h,J16 s h→sO Q s.1.1 s.1.2.1 s.1.2.2 s.2.1 s.2.2.1 h)∧
 aL (!b9) (
 Q (.int .i64 12) h14) (
 aL b12 (
 aL (decide ((y1n:Int)<2)) (
 Q (.int .i64 12) h14) (
 aL (decide ((y1n:Int)>4)) (
 Q (.int .i64 12) h14) (
 aL (!b12) (
 aL ((y1n:Int) !=1) (
 Q (.int .i64 12) h14) (
 J16 ((y1p,y1n,y1c),y2,b15,()) h14)) (
 J16 ((y1p,y1n,y1c),y2,b15,()) h14)))) (
 aL (!b12) (
 aL ((y1n:Int) !=1) (
 Q (.int .i64 12) h14) (
 J16 ((y1p,y1n,y1c),y2,b15,()) h14)) (
 J16 ((y1p,y1n,y1c),y2,b15,()) h14)))
def zM (y0:TS A1) (y1p:OA) (y1n y1c:Nat) (h:ae) (Q:VH):Prop:=
 aW h (.cells (aP A1 y0).toArray 62 (0,0)) fun b1 h2=>
 aE P jN #[(.slice y1p y1n y1c),(.int .i64 1),(.int .i64 16)] h2 fun b4 h3=>
 ∃J5:(S3×Addr×Unit)→ae→Prop,(∀s h,J5 s h→sP Q s.1.1 s.1.2.1 s.1.2.2 s.2.1 h)∧
 av h3 ⟨b1,1,none⟩ fun p40 l40 c40=>
 aL ((y1n:Int) !=(l40:Int)) (
 Q (.int .i64 1) h3) (
 aL (!b4) (
 Q (.int .i64 1) h3) (
 J5 ((y1p,y1n,y1c),⟨b1,0,none⟩,()) h3))
noncomputable def Ay:cz:=tb (ak .done [(14,(bD [1,2,0,3] (.alt 4 (bD [5] .done) .stop))),(22,(bD [0,1,2,3,4,5,6,8,9,7,10,11,12] .done))]) (ak [] [(19,[(1,SL),(2,.sc (.adr)),(11,I6),(12,I6)])]) (ak none [(4,some [(1,SL),(2,.sc (.adr))]),(9,some [(1,SL),(2,.sc (.adr)),(8,BO)]),(11,some [(1,SL),(2,.sc (.adr))])])
theorem yI (y0:TS A1) (y1p:OA) (y1n y1c:Nat) {h:ae} {Q:VH} (H:zM y0 y1p y1n y1c h Q):aq P kU #[(bz A1 y0),(.slice y1p y1n y1c)] h Q:=
 @aA P kU Tryz.f149 Ay [(bz A1 y0),(.slice y1p y1n y1c)] h Q aR Tryz.func149 Tryz.call149 (by kernel_rfl) (Eq.mpr (by kernel_rfl) H)
def ru (Q:VH) (K1:(S3×Int×Int×Unit)→ae→Prop) (y1p:OA) (y1n y1c:Nat) (y5 y6:Int) (h12:ae):Prop:=
 aL (decide (y6<(y1n:Int))) (
 bl y1p y6 y1n fun a13=>
 ah .i64 h12 (a13.add (y6.toNat*1)) fun n14=>
 K1 ((y1p,y1n,y1c),(IntKind.wrap .i64 (y5+n14)),(IntKind.wrap .i64 (y6+1)),()) h12) (
 Q (.int .i64 y5) h12)
def sQ (Q:VH) (y1p:OA) (y1n y1c:Nat) (y2:Addr) (h7:ae):Prop:=
 ah .i64 h7 y2 fun n8=>
 aL (n8==11) (
 Q (.int .i64 1) h7) (
 ah .i64 h7 y2 fun n9=>
 aL (n9 !=8) (
 bl y1p 0 y1n fun a10=>
 ah .i64 h7 (a10.add ((0:Int).toNat*1)) fun n11=>
 Q (.int .i64 n11) h7) (
 bB (S:=(S3×Int×Int×Unit)) (fun K1 s h=>ru Q K1 s.1.1 s.1.2.1 s.1.2.2 s.2.1 s.2.2.1 h) ((y1p,y1n,y1c),(0:Int),(0:Int),()) h7))
def zN (y0:TS A1) (y1p:OA) (y1n y1c:Nat) (h:ae) (Q:VH):Prop:=
 aW h (.cells (aP A1 y0).toArray 62 (0,0)) fun b1 h2=>
 aX A1 h2 ⟨b1,0,none⟩ fun x3=>
 aI P .i64 kU #[(bz A1 x3),(.slice y1p y1n y1c)] h2 fun n5 h4=>
 aL (n5 !=0) (
 Q (.int .i64 0) h4) (
 ∃J6:(S3×Addr×Unit)→ae→Prop,(∀s h,J6 s h→sQ Q s.1.1 s.1.2.1 s.1.2.2 s.2.1 h)∧
 ah .i64 h4 ⟨b1,0,none⟩ fun n15=>
 aL (n15==1) (
 ah .i64 h4 ⟨b1,2,none⟩ fun n16=>
 Q (.int .i64 n16) h4) (
 ah .i64 h4 ⟨b1,0,none⟩ fun n17=>
 aL (n17==6) (
 ah .i64 h4 ⟨b1,2,none⟩ fun n18=>
 Q (.int .i64 n18) h4) (
 J6 ((y1p,y1n,y1c),⟨b1,0,none⟩,()) h4)))
noncomputable def Az:cz:=tb (ak .done []) (ak [] [(11,[(1,SL),(5,I6),(6,I6)])]) (ak none [(5,some [(1,SL),(2,.sc (.adr))])])
theorem yJ (y0:TS A1) (y1p:OA) (y1n y1c:Nat) {h:ae} {Q:VH} (H:zN y0 y1p y1n y1c h Q):aq P kV #[(bz A1 y0),(.slice y1p y1n y1c)] h Q:=
 @aA P kV Tryz.f150 Az [(bz A1 y0),(.slice y1p y1n y1c)] h Q aR Tryz.func150 Tryz.call150 (by kernel_rfl) (Eq.mpr (by kernel_rfl) H)
def BX (y0:TS A1) (h:ae) (Q:VH):Prop:=
 aW h (.cells (aP A1 y0).toArray 62 (0,0)) fun b1 h2=>
 ah .i64 h2 ⟨b1,0,none⟩ fun n3=>
 aE P iQ #[(.int .i64 n3)] h2 fun b5 h4=>
 aL b5 (
 ah .i64 h4 ⟨b1,4,none⟩ fun n6=>
 Q (.int .i64 n6) h4) (
 Q (.int .i64 1) h4)
noncomputable def BZ:cz:=tb (ak .done []) (ak [] []) (ak none [])
theorem AA (y0:TS A1) {h:ae} {Q:VH} (H:BX y0 h Q):aq P iR #[(bz A1 y0)] h Q:=
 @aA P iR Tryz.f208 BZ [(bz A1 y0)] h Q aR Tryz.func208 Tryz.call208 (by kernel_rfl) (Eq.mpr (by kernel_rfl) H)
def va (Q:VH) (K1:(S3×Addr×Int×Int×Unit)→ae→Prop) (y1p:OA) (y1n y1c:Nat) (y2:Addr) (y5 y6:Int) (h5:ae):Prop:=
 aL (decide (y6<(y1n:Int))) (
 bl y1p y6 y1n fun a6=>
 ah .i64 h5 (a6.add (y6.toNat*1)) fun n7=>
 aL (n7 !=y5) (
 Q (.int .i64 (-1:Int)) h5) (
 K1 ((y1p,y1n,y1c),y2,y5,(IntKind.wrap .i64 (y6+1)),()) h5)) (
 ah .i64 h5 y2 fun n8=>
 aE P gR #[(.int .i64 n8)] h5 fun b10 h9=>
 aL (y5==0) (
 aL b10 (
 Q (.int .i64 (-1:Int)) h9) (
 ah .i64 h9 y2 fun n11=>
 aL (n11==5) (
 Q (.int .i64 (-1:Int)) h9) (
 ah .i64 h9 y2 fun n12=>
 aL (n12==5) (
 Q (.int .i64 0) h9) (
 aX A1 h9 y2 fun x13=>
 aI P .i64 iR #[(bz A1 x13)] h9 fun n15 h14=>
 Q (.int .i64 (IntKind.wrap .i64 (y5*n15))) h14)))) (
 ah .i64 h9 y2 fun n16=>
 aL (n16==5) (
 Q (.int .i64 0) h9) (
 aX A1 h9 y2 fun x17=>
 aI P .i64 iR #[(bz A1 x17)] h9 fun n19 h18=>
 Q (.int .i64 (IntKind.wrap .i64 (y5*n19))) h18)))
def B0 (y0:TS A1) (y1p:OA) (y1n y1c:Nat) (h:ae) (Q:VH):Prop:=
 aW h (.cells (aP A1 y0).toArray 62 (0,0)) fun b1 h2=>
 bl y1p 0 y1n fun a3=>
 ah .i64 h2 (a3.add ((0:Int).toNat*1)) fun n4=>
 bB (S:=(S3×Addr×Int×Int×Unit)) (fun K1 s h=>va Q K1 s.1.1 s.1.2.1 s.1.2.2 s.2.1 s.2.2.1 s.2.2.2.1 h) ((y1p,y1n,y1c),⟨b1,0,none⟩,n4,(0:Int),()) h2
noncomputable def B1:cz:=tb (ak .done []) (ak [] [(3,[(1,SL),(2,.sc (.adr)),(5,I6),(6,I6)])]) (ak none [])
theorem AB (y0:TS A1) (y1p:OA) (y1n y1c:Nat) {h:ae} {Q:VH} (H:B0 y0 y1p y1n y1c h Q):aq P me #[(bz A1 y0),(.slice y1p y1n y1c)] h Q:=
 @aA P me Tryz.f175 B1 [(bz A1 y0),(.slice y1p y1n y1c)] h Q aR Tryz.func175 Tryz.call175 (by kernel_rfl) (Eq.mpr (by kernel_rfl) H)
def rv (Q:VH) (K1:(Addr×Addr×Int×Addr×Int×Unit)→ae→Prop) (K2:YH RV) (y1 t2:Addr) (y3:Int) (y4:Addr) (y5:Int) (y6:Addr) (y7p:OA) (y7n y7c:Nat) (y8:Int) (h25:ae):Prop:=
 aL (decide (y8<(y7n:Int))) (
 bl y7p y8 y7n fun a26=>
 ah .i64 h25 (a26.add (y8.toNat*1)) fun n27=>
 aL (decide (n27>0)) (
 bl y7p y8 y7n fun a28=>
 ah .i64 h25 (a28.add (y8.toNat*1)) fun n29=>
 bl y7p y8 y7n fun a30=>
 bu h25 (a30.add (y8.toNat*1)) (.int .i64 (IntKind.wrap .i64 ((IntKind.wrap .i64 (y3+1))-n29))) fun h31=>
 K2 (y1,t2,y3,y4,y5,y6,(y7p,y7n,y7c),(IntKind.wrap .i64 (y8+1)),()) h31) (
 K2 (y1,t2,y3,y4,y5,y6,(y7p,y7n,y7c),(IntKind.wrap .i64 (y8+1)),()) h25)) (
 bu h25 (y6.add 1) (.slice y7p y7n y7c) fun h32=>
 av h32 (y4.add 3) fun p33 l33 c33=>
 aX A1 h32 y6 fun x34=>
 aW h32 (.cells (aP A1 x34).toArray 62 (0,0)) fun b35 h36=>
 jm 62 15 168 (bz A1 (zT A1)) p33 l33 c33 (some ⟨b35,0,none⟩) 1 h36 fun p37 l37 c37 h38=>
 bu h38 (y4.add 3) (.slice p37 l37 c37) fun h39=>
 K1 (y1,t2,y3,y4,(IntKind.wrap .i64 (y5-1)),()) h39)
def rz (Q:VH) (K1:(Addr×Addr×Int×Addr×Int×Unit)→ae→Prop) (y1 t2:Addr) (y3:Int) (y4:Addr) (y5:Int) (h13:ae):Prop:=
 aL (decide (y5≥1)) (
 av h13 (y1.add 3) fun p14 l14 c14=>
 bl p14 (IntKind.wrap .i64 (y5-1)) l14 fun a15=>
 aX A1 h13 (a15.add ((IntKind.wrap .i64 (y5-1)).toNat*15)) fun x16=>
 aW h13 (.cells (aP A1 (zT A1)).toArray 62 (0,0)) fun b17 h18=>
 bt (aP A1 x16) h18 ⟨b17,0,none⟩ 0 fun h19=>
 aW h19 (.cells #[] 3 (0,0)) fun b20 h21=>
 av h21 ⟨b17,1,none⟩ fun p22 l22 c22=>
 jm 3 1 8 (.int .i64 0) (some ⟨b20,0,none⟩) 0 0 p22 l22 h21 fun p23 l23 c23 h24=>
 bB (S:=RV) (fun K2 s h=>rv Q K1 K2 s.1 s.2.1 s.2.2.1 s.2.2.2.1 s.2.2.2.2.1 s.2.2.2.2.2.1 s.2.2.2.2.2.2.1.1 s.2.2.2.2.2.2.1.2.1 s.2.2.2.2.2.2.1.2.2 s.2.2.2.2.2.2.2.1 h) (y1,t2,y3,y4,y5,⟨b17,0,none⟩,(p23,l23,c23),(0:Int),()) h24) (
 aX A2 h13 y4 fun x40=>
 bt (aP A2 x40) h13 t2 0 fun h41=>
 aX A2 h41 t2 fun x42=>
 Q (bz A2 x42) h41)
def w5 (y0:TS A2) (h:ae) (Q:VH):Prop:=
 aW h (.cells (aP A2 y0).toArray 32 (0,0)) fun b1 h2=>
 aW h2 (.cells (aP A2 (zT A2)).toArray 32 (0,0)) fun b3 h4=>
 av h4 ⟨b1,3,none⟩ fun p5 l5 c5=>
 ah .i64 h4 ⟨b1,0,none⟩ fun n6=>
 ah .i64 h4 ⟨b1,1,none⟩ fun n7=>
 ah .i64 h4 ⟨b1,2,none⟩ fun n8=>
 ah .i64 h4 ⟨b1,4,none⟩ fun n9=>
 aW h4 (.cells (aP A2 (zT A2)).toArray 32 (0,0)) fun b10 h11=>
 bt [(.int .i64 n6),(.int .i64 n7),(.int .i64 n8),(.slice none 0 0),(.int .i64 (IntKind.wrap .i64 ((IntKind.wrap .i64 ((l5:Int)+1))-n9)))] h11 ⟨b10,0,none⟩ 0 fun h12=>
 bB (S:=(Addr×Addr×Int×Addr×Int×Unit)) (fun K1 s h=>rz Q K1 s.1 s.2.1 s.2.2.1 s.2.2.2.1 s.2.2.2.2.1 h) (⟨b1,0,none⟩,⟨b3,0,none⟩,(l5:Int),⟨b10,0,none⟩,(l5:Int),()) h12
noncomputable def yK:cz:=tb (ak .done []) (ak [] [(4,[(1,.sc (.adr)),(2,.sc (.adr)),(3,I6),(4,.sc (.adr)),(5,I6)]),(9,[(1,.sc (.adr)),(2,.sc (.adr)),(3,I6),(4,.sc (.adr)),(5,I6),(6,.sc (.adr)),(7,SL),(8,I6)])]) (ak none [])
theorem w6 (y0:TS A2) {h:ae} {Q:VH} (H:w5 y0 h Q):aq P go #[(bz A2 y0)] h Q:=
 @aA P go Tryz.f176 yK [(bz A2 y0)] h Q aR Tryz.func176 Tryz.call176 (by kernel_rfl) (Eq.mpr (by kernel_rfl) H)
def mY (Q:VH) (K1:YH Q7) (t2 y3 y4:Addr) (y5:Bool) (y6:Int) (y7p:OA) (y7n y7c:Nat) (y8p:OA) (y8n y8c:Nat) (y9 y10:Int) (y11p:OA) (y11n y11c:Nat) (y12p:OA) (y12n y12c:Nat) (h39:ae):Prop:=
 bl y8p y10 y8n fun a40=>
 ah .i64 h39 (a40.add (y10.toNat*1)) fun n41=>
 aq P mc #[(.pointer (some y3)),(.slice y11p y11n y11c),(.slice y12p y12n y12c),(.bool (n41==0))] h39 fun v43 h42=>
 E3 A1 fun x44=>v43=(bz A1 x44)∧
 aW h42 (.cells (aP A1 (zT A1)).toArray 62 (0,0)) fun b45 h46=>
 bt (aP A1 x44) h46 ⟨b45,0,none⟩ 0 fun h47=>
 av h47 (y4.add 3) fun p48 l48 c48=>
 aX A1 h47 ⟨b45,0,none⟩ fun x49=>
 aW h47 (.cells (aP A1 x49).toArray 62 (0,0)) fun b50 h51=>
 jm 62 15 168 (bz A1 (zT A1)) p48 l48 c48 (some ⟨b50,0,none⟩) 1 h51 fun p52 l52 c52 h53=>
 bu h53 (y4.add 3) (.slice p52 l52 c52) fun h54=>
 aX A1 h54 ⟨b45,0,none⟩ fun x55=>
 av h54 ⟨b45,1,none⟩ fun p56 l56 c56=>
 qy (l56:Int) y12c fun l57=>
 aI P .i64 kV #[(bz A1 x55),(.slice (if y12c=0 then y12p else Option.map (fun a=>a.add (0*1)) y12p) (l57-0) (y12c-0))] h54 fun n59 h58=>
 aW h58 (.cells #[(.int .i64 n59)] 3 (0,0)) fun b60 h61=>
 jm 3 1 8 (.int .i64 0) y7p y7n y7c (some ⟨b60,0,none⟩) 1 h61 fun p62 l62 c62 h63=>
 gC (df 0 ⟨b45,0,none⟩ (aP A1 x55) 0) h63 (
 bl y8p y10 y8n fun a64=>
 aX A1 h63 ⟨b45,0,none⟩ fun x65=>
 ah .i64 h63 (a64.add (y10.toNat*1)) fun n66=>
 aW h63 (.cells #[(.int .i64 n66)] 3 (0,0)) fun b67 h68=>
 aI P .i64 me #[(bz A1 x65),(.slice (some ⟨b67,0,none⟩) 1 1)] h68 fun n70 h69=>
 aW h69 (.cells #[(.int .i64 n70)] 3 (0,0)) fun b71 h72=>
 jm 3 1 8 (.int .i64 0) y8p y8n y8c (some ⟨b71,0,none⟩) 1 h72 fun p73 l73 c73 h74=>
 gC (df 0 ⟨b45,0,none⟩ (aP A1 x65) 0) h74 (
 K1 (t2,y3,y4,y5,y6,(p62,l62,c62),(p73,l73,c73),(IntKind.wrap .i64 (y9+1)),()) h74))
def mZ (Q:VH) (K1:YH Q7) (t2 y3 y4:Addr) (y5:Bool) (y6:Int) (y7p:OA) (y7n y7c:Nat) (y8p:OA) (y8n y8c:Nat) (y9 y10:Int) (h29:ae):Prop:=
 aW h29 (.cells #[(.int .i64 y10)] 3 (0,0)) fun b30 h31=>
 bl y7p y10 y7n fun a32=>
 ah .i64 h31 (a32.add (y10.toNat*1)) fun n33=>
 aW h31 (.cells #[(.int .i64 n33)] 3 (0,0)) fun b34 h35=>
 aI P .i64 aV #[(.pointer (some y3)),(.int .i64 y9)] h35 fun n37 h36=>
 ∃J38:YH Sj,(∀s h,J38 s h→mY Q K1 s.1 s.2.1 s.2.2.1 s.2.2.2.1 s.2.2.2.2.1 s.2.2.2.2.2.1.1 s.2.2.2.2.2.1.2.1 s.2.2.2.2.2.1.2.2 s.2.2.2.2.2.2.1.1 s.2.2.2.2.2.2.1.2.1 s.2.2.2.2.2.2.1.2.2 s.2.2.2.2.2.2.2.1 s.2.2.2.2.2.2.2.2.1 s.2.2.2.2.2.2.2.2.2.1.1 s.2.2.2.2.2.2.2.2.2.1.2.1 s.2.2.2.2.2.2.2.2.2.1.2.2 s.2.2.2.2.2.2.2.2.2.2.1.1 s.2.2.2.2.2.2.2.2.2.2.1.2.1 s.2.2.2.2.2.2.2.2.2.2.1.2.2 h)∧
 aI P .i64 aV #[(.pointer (some y3)),(.int .i64 3)] h36 fun n76 h75=>
 aL (n76==0) (
 bl y8p n37 y8n fun a77=>
 bl y8p y10 y8n fun a78=>
 ah .i64 h75 (a77.add (n37.toNat*1)) fun n79=>
 ah .i64 h75 (a78.add (y10.toNat*1)) fun n80=>
 aL (n79==n80) (
 aW h75 (.cells #[(.int .i64 n37)] 3 (0,0)) fun b81 h82=>
 jm 3 1 8 (.int .i64 0) (some ⟨b30,0,none⟩) 1 1 (some ⟨b81,0,none⟩) 1 h82 fun p83 l83 c83 h84=>
 bl y7p n37 y7n fun a85=>
 ah .i64 h84 (a85.add (n37.toNat*1)) fun n86=>
 aW h84 (.cells #[(.int .i64 n86)] 3 (0,0)) fun b87 h88=>
 jm 3 1 8 (.int .i64 0) (some ⟨b34,0,none⟩) 1 1 (some ⟨b87,0,none⟩) 1 h88 fun p89 l89 c89 h90=>
 J38 (t2,y3,y4,y5,y6,(y7p,y7n,y7c),(y8p,y8n,y8c),y9,y10,(p83,l83,c83),(p89,l89,c89),()) h90) (
 J38 (t2,y3,y4,y5,y6,(y7p,y7n,y7c),(y8p,y8n,y8c),y9,y10,(some ⟨b30,0,none⟩,1,1),(some ⟨b34,0,none⟩,1,1),()) h75)) (
 J38 (t2,y3,y4,y5,y6,(y7p,y7n,y7c),(y8p,y8n,y8c),y9,y10,(some ⟨b30,0,none⟩,1,1),(some ⟨b34,0,none⟩,1,1),()) h75)
def sR (Q:VH) (K1:YH Q7) (t2 y3 y4:Addr) (y5:Bool) (y6:Int) (y7p:OA) (y7n y7c:Nat) (y8p:OA) (y8n y8c:Nat) (y9:Int) (h27:ae):Prop:=
 aL (decide (y9≤y6)) (
 ∃J28:YH Si,(∀s h,J28 s h→mZ Q K1 s.1 s.2.1 s.2.2.1 s.2.2.2.1 s.2.2.2.2.1 s.2.2.2.2.2.1.1 s.2.2.2.2.2.1.2.1 s.2.2.2.2.2.1.2.2 s.2.2.2.2.2.2.1.1 s.2.2.2.2.2.2.1.2.1 s.2.2.2.2.2.2.1.2.2 s.2.2.2.2.2.2.2.1 s.2.2.2.2.2.2.2.2.1 h)∧
 aI P .i64 aV #[(.pointer (some y3)),(.int .i64 3)] h27 fun n92 h91=>
 aL (n92==0) (
 aI P .i64 aV #[(.pointer (some y3)),(.int .i64 y9)] h91 fun n94 h93=>
 J28 (t2,y3,y4,y5,y6,(y7p,y7n,y7c),(y8p,y8n,y8c),y9,n94,()) h93) (
 J28 (t2,y3,y4,y5,y6,(y7p,y7n,y7c),(y8p,y8n,y8c),y9,(IntKind.wrap .i64 (y9-1)),()) h91)) (
 bu h27 (y4.add 4) (.int .i64 y6) fun h95=>
 aI P .i64 aV #[(.pointer (some y3)),(.int .i64 5)] h95 fun n97 h96=>
 aL (n97==0) (
 aI P .i64 aV #[(.pointer (some y3)),(.int .i64 y6)] h96 fun n99 h98=>
 bu h98 (y4.add 4) (.int .i64 (IntKind.wrap .i64 ((1:Int)+n99))) fun h100=>
 aL y5 (
 aX A2 h100 y4 fun x101=>
 aq P go #[(bz A2 x101)] h100 fun v103 h102=>
 E3 A2 fun x104=>v103=(bz A2 x104)∧
 bt (aP A2 x104) h102 t2 0 fun h105=>
 aX A2 h105 t2 fun x106=>
 Q (bz A2 x106) h105) (
 aX A2 h100 y4 fun x107=>
 bt (aP A2 x107) h100 t2 0 fun h108=>
 aX A2 h108 t2 fun x109=>
 Q (bz A2 x109) h108)) (
 aL y5 (
 aX A2 h96 y4 fun x110=>
 aq P go #[(bz A2 x110)] h96 fun v112 h111=>
 E3 A2 fun x113=>v112=(bz A2 x113)∧
 bt (aP A2 x113) h111 t2 0 fun h114=>
 aX A2 h114 t2 fun x115=>
 Q (bz A2 x115) h114) (
 aX A2 h96 y4 fun x116=>
 bt (aP A2 x116) h96 t2 0 fun h117=>
 aX A2 h117 t2 fun x118=>
 Q (bz A2 x118) h117)))
def oL (Q:VH) (y0p:OA) (y0n y0c:Nat) (t2:Addr) (h4:ae):Prop:=
 aW h4 (.cells #[(.slice y0p y0n y0c),(.int .i64 0)] 216 (0,0)) fun b5 h6=>
 aI P .i64 aV #[(.pointer (some ⟨b5,0,none⟩)),(.int .i64 3)] h6 fun n8 h7=>
 aW h7 (.cells (aP A2 (zT A2)).toArray 32 (0,0)) fun b9 h10=>
 bt [(.int .i64 (IntKind.wrap .i64 ((1:Int)+n8))),(.int .i64 0),(.int .i64 0),(.slice none 0 0),(.int .i64 0)] h10 ⟨b9,0,none⟩ 0 fun h11=>
 aI P .i64 aV #[(.pointer (some ⟨b5,0,none⟩)),(.int .i64 200)] h11 fun n13 h12=>
 bu h12 ⟨b9,1,none⟩ (.int .i64 (IntKind.wrap .i64 ((0:Int)-n13))) fun h14=>
 aI P .i64 aV #[(.pointer (some ⟨b5,0,none⟩)),(.int .i64 200)] h14 fun n16 h15=>
 bu h15 ⟨b9,2,none⟩ (.int .i64 n16) fun h17=>
 aI P .i64 aV #[(.pointer (some ⟨b5,0,none⟩)),(.int .i64 2)] h17 fun n19 h18=>
 aI P .i64 aV #[(.pointer (some ⟨b5,0,none⟩)),(.int .i64 6)] h18 fun n21 h20=>
 ah .i64 h20 ⟨b9,0,none⟩ fun n22=>
 aW h20 (.cells #[(.int .i64 n22)] 3 (0,0)) fun b23 h24=>
 aW h24 (.cells #[(.int .i64 1)] 3 (0,0)) fun b25 h26=>
 bB (S:=Q7) (fun K1 s h=>sR Q K1 s.1 s.2.1 s.2.2.1 s.2.2.2.1 s.2.2.2.2.1 s.2.2.2.2.2.1.1 s.2.2.2.2.2.1.2.1 s.2.2.2.2.2.1.2.2 s.2.2.2.2.2.2.1.1 s.2.2.2.2.2.2.1.2.1 s.2.2.2.2.2.2.1.2.2 s.2.2.2.2.2.2.2.1 h) (t2,⟨b5,0,none⟩,⟨b9,0,none⟩,(n19==1),(IntKind.wrap .i64 ((1:Int)+n21)),(some ⟨b23,0,none⟩,1,1),(some ⟨b25,0,none⟩,1,1),(1:Int),()) h26
def B2 (y0p:OA) (y0n y0c:Nat) (h:ae) (Q:VH):Prop:=
 aW h (.cells (aP A2 (zT A2)).toArray 32 (0,0)) fun b1 h2=>
 ∃J3:(S3×Addr×Unit)→ae→Prop,(∀s h,J3 s h→oL Q s.1.1 s.1.2.1 s.1.2.2 s.2.1 h)∧
 aL (decide ((y0n:Int)>240)) (
 qy 240 y0c fun l119=>
 J3 (((if y0c=0 then y0p else Option.map (fun a=>a.add (0*1)) y0p),(l119-0),(y0c-0)),⟨b1,0,none⟩,()) h2) (
 J3 ((y0p,y0n,y0c),⟨b1,0,none⟩,()) h2)
noncomputable def B3:cz:=tb (ak .done [(20,(bD [0] (.alt 1 (bD [2,3,4,5,6,8,9,10,7,11,12,13] .done) .stop))),(25,(bD [0,2,3] (.early 1 (.alt 4 (bD [5,6] (.alt 7 (.alt 8 (.alt 9 (bD [10] .done) .stop) .stop) .stop)) .stop)))),(26,(bD [0,2,3,4] (.early 1 (.alt 5 (.alt 6 (.alt 7 (.alt 8 (.alt 9 (bD [10] .done) .stop) .stop) .stop) .stop) .stop))))]) (ak [] [(12,[(2,.sc (.adr)),(3,.sc (.adr)),(4,.sc (.adr)),(5,BO),(6,I6),(7,SL),(8,SL),(9,I6)])]) (ak none [(3,some [(0,SL),(2,.sc (.adr))]),(17,some [(2,.sc (.adr)),(3,.sc (.adr)),(4,.sc (.adr)),(5,BO),(6,I6),(7,SL),(8,SL),(9,I6),(10,I6)]),(23,some [(2,.sc (.adr)),(3,.sc (.adr)),(4,.sc (.adr)),(5,BO),(6,I6),(7,SL),(8,SL),(9,I6),(10,I6),(11,SL),(12,SL)])])
theorem AC (y0p:OA) (y0n y0c:Nat) {h:ae} {Q:VH} (H:B2 y0p y0n y0c h Q):aq P mf #[(.slice y0p y0n y0c)] h Q:=
 @aA P mf Tryz.f114 B3 [(.slice y0p y0n y0c)] h Q aR Tryz.func114 Tryz.call114 (by kernel_rfl) (Eq.mpr (by kernel_rfl) H)
def B4 (y0p:OA) (y0n y0c:Nat) (h:ae) (Q:VH):Prop:=
 aW h (.cells (aP A2 (zT A2)).toArray 32 (0,0)) fun b1 h2=>
 aq P mf #[(.slice y0p y0n y0c)] h2 fun v4 h3=>
 E3 A2 fun x5=>v4=(bz A2 x5)∧
 bt (aP A2 x5) h3 ⟨b1,0,none⟩ 0 fun h6=>
 aX A2 h6 ⟨b1,0,none⟩ fun x7=>
 Q (bz A2 x7) h6
noncomputable def B5:cz:=tb (ak .done []) (ak [] []) (ak none [])
theorem AD (y0p:OA) (y0n y0c:Nat) {h:ae} {Q:VH} (H:B4 y0p y0n y0c h Q):aq P mh #[(.slice y0p y0n y0c)] h Q:=
 @aA P mh Tryz.f64 B5 [(.slice y0p y0n y0c)] h Q aR Tryz.func64 Tryz.call64 (by kernel_rfl) (Eq.mpr (by kernel_rfl) H)
def vb (Q:VH) (K1:(Int×Addr×Addr×Int×Unit)→ae→Prop) (y1:Int) (t4 y5:Addr) (y6:Int) (h15:ae):Prop:=
 aL (decide (y6<(cS .i64 (gz y1 1) 3))) (
 ah .i64 h15 (y5.add 4) fun n16=>
 aW h15 (.cells #[(.int .i64 n16)] 3 (0,0)) fun b17 h18=>
 aW h18 (.cells (aP A1 (zT A1)).toArray 62 (0,0)) fun b19 h20=>
 bt [(.int .i64 9),(.slice (some ⟨b17,0,none⟩) 1 1),(.int .i64 0),(.int .i64 0),(.int .i64 0),(.int .i64 0),(.int .i64 0),(.int .i64 0),(.slice none 0 0),(.slice none 0 0),(.int .i64 0),(.int .i64 0),(.int .i64 (-90:Int)),(.int .i64 700),(.int .i64 0)] h20 ⟨b19,0,none⟩ 0 fun h21=>
 Be (IntKind.wrap .u64 (IntKind.wrap .i64 ((3:Int)+y6))) fun _=>
 aL ((cS .i64 (gz y1 (min (IntKind.wrap .u64 (IntKind.wrap .i64 ((3:Int)+y6))).toNat 64)) 1)==1) (
 ah .i64 h21 (y5.add 4) fun n22=>
 aW h21 (.cells #[(.int .i64 n22)] 3 (0,0)) fun b23 h24=>
 bt [(.int .i64 10),(.slice (some ⟨b23,0,none⟩) 1 1),(.int .i64 0),(.int .i64 0),(.int .i64 0),(.int .i64 0),(.int .i64 0),(.int .i64 0),(.slice none 0 0),(.slice none 0 0),(.int .i64 21000),(.int .i64 14),(.int .i64 0),(.int .i64 0),(.int .i64 0)] h24 ⟨b19,0,none⟩ 0 fun h25=>
 av h25 (y5.add 3) fun p26 l26 c26=>
 aX A1 h25 ⟨b19,0,none⟩ fun x27=>
 aW h25 (.cells (aP A1 x27).toArray 62 (0,0)) fun b28 h29=>
 jm 62 15 168 (bz A1 (zT A1)) p26 l26 c26 (some ⟨b28,0,none⟩) 1 h29 fun p30 l30 c30 h31=>
 bu h31 (y5.add 3) (.slice p30 l30 c30) fun h32=>
 av h32 (y5.add 3) fun p33 l33 c33=>
 bu h32 (y5.add 4) (.int .i64 (l33:Int)) fun h34=>
 K1 (y1,t4,y5,(IntKind.wrap .i64 (y6+1)),()) h34) (
 av h21 (y5.add 3) fun p35 l35 c35=>
 aX A1 h21 ⟨b19,0,none⟩ fun x36=>
 aW h21 (.cells (aP A1 x36).toArray 62 (0,0)) fun b37 h38=>
 jm 62 15 168 (bz A1 (zT A1)) p35 l35 c35 (some ⟨b37,0,none⟩) 1 h38 fun p39 l39 c39 h40=>
 bu h40 (y5.add 3) (.slice p39 l39 c39) fun h41=>
 av h41 (y5.add 3) fun p42 l42 c42=>
 bu h41 (y5.add 4) (.int .i64 (l42:Int)) fun h43=>
 K1 (y1,t4,y5,(IntKind.wrap .i64 (y6+1)),()) h43)) (
 aL ((cS .i64 y1 1)==1) (
 av h15 (y5.add 3) fun p44 l44 c44=>
 ah .i64 h15 (y5.add 4) fun n45=>
 aW h15 (.cells #[(.int .i64 n45)] 3 (0,0)) fun b46 h47=>
 aW h47 (.cells #[(.int .i64 11),(.slice (some ⟨b46,0,none⟩) 1 1),(.int .i64 0),(.int .i64 0),(.int .i64 0),(.int .i64 0),(.int .i64 0),(.int .i64 0),(.slice none 0 0),(.slice none 0 0),(.int .i64 0),(.int .i64 0),(.int .i64 0),(.int .i64 0),(.int .i64 0)] 62 (0,0)) fun b48 h49=>
 jm 62 15 168 (bz A1 (zT A1)) p44 l44 c44 (some ⟨b48,0,none⟩) 1 h49 fun p50 l50 c50 h51=>
 bu h51 (y5.add 3) (.slice p50 l50 c50) fun h52=>
 aX A2 h52 y5 fun x53=>
 bt (aP A2 x53) h52 t4 0 fun h54=>
 aX A2 h54 t4 fun x55=>
 Q (bz A2 x55) h54) (
 aX A2 h15 y5 fun x56=>
 bt (aP A2 x56) h15 t4 0 fun h57=>
 aX A2 h57 t4 fun x58=>
 Q (bz A2 x58) h57))
def B6 (y0p:OA) (y0n y0c:Nat) (y1:Int) (h:ae) (Q:VH):Prop:=
 aW h (.cells (aP A2 (zT A2)).toArray 32 (0,0)) fun b1 h2=>
 aq P mh #[(.slice y0p y0n y0c)] h2 fun v4 h3=>
 E3 A2 fun x5=>v4=(bz A2 x5)∧
 aW h3 (.cells (aP A2 (zT A2)).toArray 32 (0,0)) fun b6 h7=>
 bt (aP A2 x5) h7 ⟨b6,0,none⟩ 0 fun h8=>
 aW h8 (.cells #[] 62 (0,0)) fun b9 h10=>
 av h10 ⟨b6,3,none⟩ fun p11 l11 c11=>
 jm 62 15 168 (bz A1 (zT A1)) (some ⟨b9,0,none⟩) 0 0 p11 l11 h10 fun p12 l12 c12 h13=>
 bu h13 ⟨b6,3,none⟩ (.slice p12 l12 c12) fun h14=>
 bB (S:=(Int×Addr×Addr×Int×Unit)) (fun K1 s h=>vb Q K1 s.1 s.2.1 s.2.2.1 s.2.2.2.1 h) (y1,⟨b1,0,none⟩,⟨b6,0,none⟩,(0:Int),()) h14
noncomputable def B7:cz:=tb (ak .done []) (ak [] [(4,[(1,I6),(4,.sc (.adr)),(5,.sc (.adr)),(6,I6)])]) (ak none [])
theorem AE (y0p:OA) (y0n y0c:Nat) (y1:Int) {h:ae} {Q:VH} (H:B6 y0p y0n y0c y1 h Q):aq P mi #[(.slice y0p y0n y0c),(.int .i64 y1)] h Q:=
 @aA P mi Tryz.f25 B7 [(.slice y0p y0n y0c),(.int .i64 y1)] h Q aR Tryz.func25 Tryz.call25 (by kernel_rfl) (Eq.mpr (by kernel_rfl) H)
def B8 (y0p:OA) (y0n y0c:Nat) (y1:Int) (h:ae) (Q:VH):Prop:=
 aq P mi #[(.slice y0p y0n y0c),(.int .i64 y1)] h fun v2 h1=>
 E3 A2 fun x3=>v2=(bz A2 x3)∧
 aq P iy #[(bz A2 x3)] h1 fun v5 h4=>
 ∃s6:ByteArray,∃n7:Int,v5=(.tuple #[(.string s6),(.int .i64 n7)])∧
 Q (.string s6) h4
noncomputable def B9:cz:=tb (ak .done []) (ak [] []) (ak none [])
theorem AF (y0p:OA) (y0n y0c:Nat) (y1:Int) {h:ae} {Q:VH} (H:B8 y0p y0n y0c y1 h Q):aq P mj #[(.slice y0p y0n y0c),(.int .i64 y1)] h Q:=
 @aA P mj Tryz.f9 B9 [(.slice y0p y0n y0c),(.int .i64 y1)] h Q aR Tryz.func9 Tryz.call9 (by kernel_rfl) (Eq.mpr (by kernel_rfl) H)
def w7 (s_0:ByteArray) (q_1_0 q_1_1:Int) (h:ae) (Q:VH):Prop:=
 aW h (.cells #[(.int .i64 q_1_0),(.int .i64 q_1_1)] 27 (0,0)) fun b1 h2=>
 aL (((s_0.size:Nat):Int)==0) (
 Q (.string s_0) h2) (
 si 0 2 fun _=>
 ah .i64 h2 (Addr.add ⟨b1,0,none⟩ ((0:Int).toNat*1)) fun n3=>
 Ob ((s_0.size:Nat):Int) fun _=>
 Ob ((s_0.size:Nat):Int) fun _=>
 si 1 2 fun _=>
 ah .i64 h2 (Addr.add ⟨b1,0,none⟩ ((1:Int).toNat*1)) fun n4=>
 aL (decide (n4<0)) (
 qy (Int.tmod (IntKind.wrap .i64 ((Int.tmod n3 ((s_0.size:Nat):Int))+((s_0.size:Nat):Int))) ((s_0.size:Nat):Int)) s_0.size fun l5=>
 Q (.string (s_0.extract 0 l5)) h2) (
 qy (Int.tmod (IntKind.wrap .i64 ((Int.tmod n3 ((s_0.size:Nat):Int))+((s_0.size:Nat):Int))) ((s_0.size:Nat):Int)) s_0.size fun l6=>
 si 1 2 fun _=>
 qy (IntKind.wrap .i64 ((Int.tmod (IntKind.wrap .i64 ((Int.tmod n3 ((s_0.size:Nat):Int))+((s_0.size:Nat):Int))) ((s_0.size:Nat):Int))+1)) s_0.size fun l7=>
 ah .i64 h2 (Addr.add ⟨b1,0,none⟩ ((1:Int).toNat*1)) fun n8=>
 aW h2 (.cells #[(.int .u8 (IntKind.wrap .u8 n8))] 5 (0,0)) fun b9 h10=>
 ME (some ⟨b9,0,none⟩) 1 h10 fun s11=>
 ∃s12:ByteArray,Value.string s11=Value.string s12∧
 ov (s_0.extract 0 l6) s12 fun _=>
 ov ((s_0.extract 0 l6)++s12) (s_0.extract l7 s_0.size) fun _=>
 Q (.string (((s_0.extract 0 l6)++s12)++(s_0.extract l7 s_0.size))) h10))
noncomputable def yL:cz:=tb (ak .done [(6,(bD [0,1,2,3,9,10,11,12] (.alt 4 (bD [5] (.alt 6 (.alt 7 (bD [8,13,14] .done) .stop) .stop)) .stop)))]) (ak [] []) (ak none [])
theorem w8 (s_0:ByteArray) (q_1_0 q_1_1:Int) {h:ae} {Q:VH} (H:w7 s_0 q_1_0 q_1_1 h Q):aq P iz #[(.string s_0),(.agg #[(.int .i64 q_1_0),(.int .i64 q_1_1)])] h Q:=
 @aA P iz Tryz.f10 yL [(.string s_0),(.agg #[(.int .i64 q_1_0),(.int .i64 q_1_1)])] h Q aR Tryz.func10 Tryz.call10 (by kernel_rfl) (Eq.mpr (by kernel_rfl) H)
def vM (y0:TS A2) (h:ae) (Q:VH):Prop:=
 aW h (.cells (aP A2 y0).toArray 32 (0,0)) fun b1 h2=>
 aX A2 h2 ⟨b1,0,none⟩ fun x3=>
 aq P gm #[(bz A2 x3)] h2 fun v5 h4=>
 ∃p6:Option Addr,∃l6:Nat,∃c6:Nat,∃n7:Int,v5=(.tuple #[(.slice p6 l6 c6),(.int .i64 n7)])∧
 Q (.bool (n7==0)) h4
noncomputable def Ca:cz:=tb (ak .done []) (ak [] []) (ak none [])
theorem rA (y0:TS A2) {h:ae} {Q:VH} (H:vM y0 h Q):aq P ml #[(bz A2 y0)] h Q:=
 @aA P ml Tryz.f51 Ca [(bz A2 y0)] h Q aR Tryz.func51 Tryz.call51 (by kernel_rfl) (Eq.mpr (by kernel_rfl) H)
def qm (free0:Addr) (h:ae) (Q:VH):Prop:=
 aX A2 h free0 fun x1=>
 aE P ml #[(bz A2 x1)] h fun b3 h2=>
 Q (.bool b3) h2
noncomputable def yM:cz:=tb (ak .done []) (ak [] []) (ak none [])
theorem nU (free0:Addr) {h:ae} {Q:VH} (H:qm free0 h Q):aq P fo #[(.pointer (some free0))] h Q:=
 @aA P fo Tryz.f50 yM [(.pointer (some free0))] h Q aR Tryz.func50 Tryz.call50 (by kernel_rfl) (Eq.mpr (by kernel_rfl) H)
def w9 (free0:Addr) (h:ae) (Q:VH):Prop:=
 ah .i64 h (free0.add 7) fun n1=>
 aL (decide (n1≥0)) (
 ah .i64 h (free0.add 7) fun n2=>
 Q (.bool (decide (n2≤4096))) h) (
 Q (.bool false) h)
noncomputable def yN:cz:=tb (ak .done []) (ak [] []) (ak none [])
theorem xa (free0:Addr) {h:ae} {Q:VH} (H:w9 free0 h Q):aq P iA #[(.pointer (some free0))] h Q:=
 @aA P iA Tryz.f52 yN [(.pointer (some free0))] h Q aR Tryz.func52 Tryz.call52 (by kernel_rfl) (Eq.mpr (by kernel_rfl) H)
def sS (y0:Int) (free0:Addr) (h:ae) (Q:VH):Prop:=
 tn h free0 fun m1=>
 lG .i64 (.int .i64 0) m1 y0 h fun v3 b4=>
 ∃n5:Int,v3=(.int .i64 n5)∧
 Q (.bool (n5==0)) h
noncomputable def vN:cz:=tb (ak .done []) (ak [] []) (ak none [])
theorem uG (y0:Int) (free0:Addr) {h:ae} {Q:VH} (H:sS y0 free0 h Q):aq P cg #[(.int .i64 y0),(.pointer (some free0))] h Q:=
 @aA P cg Tryz.f104 vN [(.int .i64 y0),(.pointer (some free0))] h Q aR Tryz.func104 Tryz.call104 (by kernel_rfl) (Eq.mpr (by kernel_rfl) H)
def rB (Q:VH) (K1:YH RW) (y0p:OA) (y0n y0c:Nat) (y1p:OA) (y1n y1c:Nat) (y5:Addr) (t10_p:OA) (t10_n t10_c:Nat) (t11 t12:Int) (h7:ae):Prop:=
 aL (decide (t12<t11)) (
 bl t10_p t12 t10_n fun a8=>
 ah .i64 h7 (a8.add (t12.toNat*1)) fun n9=>
 aL (decide (n9<1)) (
 Q (.bool false) h7) (
 aL (decide (n9>(y0n:Int))) (
 Q (.bool false) h7) (
 tn h7 y5 fun m10=>
 lG .i64 (.int .i64 0) m10 n9 h7 fun v12 b13=>
 ∃n14:Int,v12=(.int .i64 n14)∧
 aL (decide (n14>0)) (
 Q (.bool false) h7) (
 bl y0p (IntKind.wrap .i64 (n9-1)) y0n fun a15=>
 av h7 (Addr.add (a15.add ((IntKind.wrap .i64 (n9-1)).toNat*15)) 1) fun p16 l16 c16=>
 aE P bh #[(.slice p16 l16 c16),(.func (.func cg) #[] #[(.pointer (some y5))])] h7 fun b18 h17=>
 aL b18 (
 Q (.bool false) h17) (
 tn h17 y5 fun m19=>
 updB .i64 m19 n9 (.int .i64 1) h17 fun h20=>
 K1 ((y0p,y0n,y0c),(y1p,y1n,y1c),y5,(t10_p,t10_n,t10_c),t11,(IntKind.wrap .i64 (t12+1)),()) h20))))) (
 Q (.bool ((y1n:Int)==(y0n:Int))) h7)
def xc (y0p:OA) (y0n y0c:Nat) (y1p:OA) (y1n y1c:Nat) (h:ae) (Q:VH):Prop:=
 aW h (.map #[] 0) fun r2 h1=>
 updB .i64 (some r2) 0 (.int .i64 1) h1 fun h3=>
 aW h3 (.cells #[(.map none)] 125 (0,0)) fun b4 h5=>
 bu h5 ⟨b4,0,none⟩ (.map (some r2)) fun h6=>
 bB (S:=RW) (fun K1 s h=>rB Q K1 s.1.1 s.1.2.1 s.1.2.2 s.2.1.1 s.2.1.2.1 s.2.1.2.2 s.2.2.1 s.2.2.2.1.1 s.2.2.2.1.2.1 s.2.2.2.1.2.2 s.2.2.2.2.1 s.2.2.2.2.2.1 h) ((y0p,y0n,y0c),(y1p,y1n,y1c),⟨b4,0,none⟩,(y1p,y1n,y1c),(y1n:Int),(0:Int),()) h6
noncomputable def yO:cz:=tb (ak .done []) (ak [] [(3,[(0,SL),(1,SL),(5,.sc (.adr)),(10,SL),(11,I6),(12,I6)])]) (ak none [])
theorem xd (y0p:OA) (y0n y0c:Nat) (y1p:OA) (y1n y1c:Nat) {h:ae} {Q:VH} (H:xc y0p y0n y0c y1p y1n y1c h Q):aq P j9 #[(.slice y0p y0n y0c),(.slice y1p y1n y1c)] h Q:=
 @aA P j9 Tryz.f54 yO [(.slice y0p y0n y0c),(.slice y1p y1n y1c)] h Q aR Tryz.func54 Tryz.call54 (by kernel_rfl) (Eq.mpr (by kernel_rfl) H)
def xe (free0:Addr) (h:ae) (Q:VH):Prop:=
 av h (free0.add 3) fun p1 l1 c1=>
 av h (free0.add 5) fun p2 l2 c2=>
 aE P j9 #[(.slice p1 l1 c1),(.slice p2 l2 c2)] h fun b4 h3=>
 Q (.bool b4) h3
noncomputable def yP:cz:=tb (ak .done []) (ak [] []) (ak none [])
theorem xf (free0:Addr) {h:ae} {Q:VH} (H:xe free0 h Q):aq P iB #[(.pointer (some free0))] h Q:=
 @aA P iB Tryz.f53 yP [(.pointer (some free0))] h Q aR Tryz.func53 Tryz.call53 (by kernel_rfl) (Eq.mpr (by kernel_rfl) H)
def xg (Q:VH) (K1:YH Y5) (y5p:OA) (y5n y5c:Nat) (y6p:OA) (y6n y6c:Nat) (t18_p:OA) (t18_n t18_c:Nat) (t19 t20:Int) (h9:ae):Prop:=
 aL (decide (t20<t19)) (
 bl t18_p t20 t18_n fun a10=>
 ah .i64 h9 (a10.add (t20.toNat*3)) fun n11=>
 ah .i64 h9 (Addr.add (a10.add (t20.toNat*3)) 1) fun n12=>
 ah .i64 h9 (Addr.add (a10.add (t20.toNat*3)) 2) fun n13=>
 aW h9 (.cells #[(.int .i64 0),(.int .i64 0),(.int .i64 0)] 52 (0,0)) fun b14 h15=>
 bu h15 ⟨b14,0,none⟩ (.int .i64 n11) fun h16=>
 bu h16 ⟨b14,1,none⟩ (.int .i64 n12) fun h17=>
 bu h17 ⟨b14,2,none⟩ (.int .i64 n13) fun h18=>
 bl y5p t20 y5n fun a19=>
 ah .i64 h18 ⟨b14,1,none⟩ fun n20=>
 ah .i64 h18 (a19.add (t20.toNat*1)) fun n21=>
 aL (n20 !=n21) (
 Q (.bool false) h18) (
 bl y6p t20 y6n fun a22=>
 ah .i64 h18 ⟨b14,2,none⟩ fun n23=>
 ah .i64 h18 (a22.add (t20.toNat*1)) fun n24=>
 aL (decide (n23<n24)) (
 Q (.bool false) h18) (
 K1 ((y5p,y5n,y5c),(y6p,y6n,y6c),(t18_p,t18_n,t18_c),t19,(IntKind.wrap .i64 (t20+1)),()) h18))) (
 Q (.bool true) h9)
def ES (y0:TS A2) (y1p:OA) (y1n y1c:Nat) (h:ae) (Q:VH):Prop:=
 aW h (.cells (aP A2 y0).toArray 32 (0,0)) fun b1 h2=>
 aX A2 h2 ⟨b1,0,none⟩ fun x3=>
 aX A2 h2 ⟨b1,0,none⟩ fun x4=>
 bM P dS #[(bz A2 x3)] h2 fun p6 l6 c6 h5=>
 gC (df 0 ⟨b1,0,none⟩ (aP A2 x4) 0) h5 (
 bM P hO #[(bz A2 x4)] h5 fun p8 l8 c8 h7=>
 gC (df 0 ⟨b1,0,none⟩ (aP A2 x3) 0) h7 (
 aL ((y1n:Int) !=(l6:Int)) (
 Q (.bool false) h7) (
 bB (S:=Y5) (fun K1 s h=>xg Q K1 s.1.1 s.1.2.1 s.1.2.2 s.2.1.1 s.2.1.2.1 s.2.1.2.2 s.2.2.1.1 s.2.2.1.2.1 s.2.2.1.2.2 s.2.2.2.1 s.2.2.2.2.1 h) ((p6,l6,c6),(p8,l8,c8),(y1p,y1n,y1c),(y1n:Int),(0:Int),()) h7)))
noncomputable def Eb:cz:=tb (ak .done [(1,(.early 0 (.early 2 (.alt 1 (.alt 3 (bD [4,5] .done) .stop) .stop)))),(7,(bD [0,2,3,4,1,5,6,7,8,10,11,12,9,13,14,15] .done))]) (ak [] [(5,[(5,SL),(6,SL),(18,SL),(19,I6),(20,I6)])]) (ak none [])
theorem Cb (y0:TS A2) (y1p:OA) (y1n y1c:Nat) {h:ae} {Q:VH} (H:ES y0 y1p y1n y1c h Q):aq P og #[(bz A2 y0),(.slice y1p y1n y1c)] h Q:=
 @aA P og Tryz.f56 Eb [(bz A2 y0),(.slice y1p y1n y1c)] h Q aR Tryz.func56 Tryz.call56 (by kernel_rfl) (Eq.mpr (by kernel_rfl) H)
def xh (free0:Addr) (h:ae) (Q:VH):Prop:=
 aX A2 h free0 fun x1=>
 av h (free0.add 6) fun p2 l2 c2=>
 aE P og #[(bz A2 x1),(.slice p2 l2 c2)] h fun b4 h3=>
 Q (.bool b4) h3
noncomputable def yQ:cz:=tb (ak .done []) (ak [] []) (ak none [])
theorem xi (free0:Addr) {h:ae} {Q:VH} (H:xh free0 h Q):aq P iC #[(.pointer (some free0))] h Q:=
 @aA P iC Tryz.f55 yQ [(.pointer (some free0))] h Q aR Tryz.func55 Tryz.call55 (by kernel_rfl) (Eq.mpr (by kernel_rfl) H)
def iY (Q:VH) (K1:(S3×Bool×Int×Int×Unit)→ae→Prop) (y0p:OA) (y0n y0c:Nat) (y1:Bool) (t7 t8:Int) (h1:ae):Prop:=
 aL (decide (t8<t7)) (
 bl y0p t8 y0n fun a2=>
 qx h1 (a2.add (t8.toNat*1)) fun b3=>
 aL (y1==b3) (
 Q (.int .i64 t8) h1) (
 K1 ((y0p,y0n,y0c),y1,t7,(IntKind.wrap .i64 (t8+1)),()) h1)) (
 Q (.int .i64 (-1:Int)) h1)
def jZ (y0p:OA) (y0n y0c:Nat) (y1:Bool) (h:ae) (Q:VH):Prop:=
 bB (S:=(S3×Bool×Int×Int×Unit)) (fun K1 s h=>iY Q K1 s.1.1 s.1.2.1 s.1.2.2 s.2.1 s.2.2.1 s.2.2.2.1 h) ((y0p,y0n,y0c),y1,(y0n:Int),(0:Int),()) h
noncomputable def m0:cz:=tb (ak .done []) (ak [] [(2,[(0,SL),(1,BO),(7,I6),(8,I6)])]) (ak none [])
theorem lV (y0p:OA) (y0n y0c:Nat) (y1:Bool) {h:ae} {Q:VH} (H:jZ y0p y0n y0c y1 h Q):aq P dO #[(.slice y0p y0n y0c),(.bool y1)] h Q:=
 @aA P dO Tryz.f170 m0 [(.slice y0p y0n y0c),(.bool y1)] h Q aR Tryz.func170 Tryz.call170 (by kernel_rfl) (Eq.mpr (by kernel_rfl) H)
def iZ (y0p:OA) (y0n y0c:Nat) (y1:Bool) (h:ae) (Q:VH):Prop:=
 aI P .i64 dO #[(.slice y0p y0n y0c),(.bool y1)] h fun n2 h1=>
 Q (.bool (decide (n2≥0))) h1
noncomputable def lm:cz:=tb (ak .done []) (ak [] []) (ak none [])
theorem kF (y0p:OA) (y0n y0c:Nat) (y1:Bool) {h:ae} {Q:VH} (H:iZ y0p y0n y0c y1 h Q):aq P dq #[(.slice y0p y0n y0c),(.bool y1)] h Q:=
 @aA P dq Tryz.f105 lm [(.slice y0p y0n y0c),(.bool y1)] h Q aR Tryz.func105 Tryz.call105 (by kernel_rfl) (Eq.mpr (by kernel_rfl) H)
def sT (Q:VH) (K1:YH Q8) (K2:YH RX) (y0:Int) (y5p:OA) (y5n y5c:Nat) (y8p:OA) (y8n y8c:Nat) (t12_p:OA) (t12_n t12_c:Nat) (t13 t14 t64 t65:Int) (h23:ae):Prop:=
 aL (decide (t65<t64)) (
 bl y8p t65 y8n fun a24=>
 bu h23 (a24.add (t65.toNat*1)) (.bool true) fun h25=>
 K2 (y0,(y5p,y5n,y5c),(y8p,y8n,y8c),(t12_p,t12_n,t12_c),t13,t14,t64,(IntKind.wrap .i64 (t65+1)),()) h25) (
 K1 (y0,(y5p,y5n,y5c),(t12_p,t12_n,t12_c),t13,(IntKind.wrap .i64 (t14+1)),()) h23)
def vc (Q:VH) (K1:YH Q8) (y0:Int) (y5p:OA) (y5n y5c:Nat) (y7:Addr) (t12_p:OA) (t12_n t12_c:Nat) (t13 t14:Int) (h14:ae):Prop:=
 ah .i64 h14 y7 fun n15=>
 ah .i64 h14 y7 fun n16=>
 ah .i64 h14 (y7.add 2) fun n17=>
 ah .i64 h14 (y7.add 1) fun n18=>
 qy (IntKind.wrap .i64 (n16+(IntKind.wrap .i64 (n17*n18)))) y5c fun l19=>
 qy n15 l19 fun l20=>
 aE P dq #[(.slice (if y5c=l20 then y5p else Option.map (fun a=>a.add (l20*1)) y5p) (l19-l20) (y5c-l20)),(.bool true)] h14 fun b22 h21=>
 aL b22 (
 Q (.bool false) h21) (
 bB (S:=RX) (fun K2 s h=>sT Q K1 K2 s.1 s.2.1.1 s.2.1.2.1 s.2.1.2.2 s.2.2.1.1 s.2.2.1.2.1 s.2.2.1.2.2 s.2.2.2.1.1 s.2.2.2.1.2.1 s.2.2.2.1.2.2 s.2.2.2.2.1 s.2.2.2.2.2.1 s.2.2.2.2.2.2.1 s.2.2.2.2.2.2.2.1 h) (y0,(y5p,y5n,y5c),((if y5c=l20 then y5p else Option.map (fun a=>a.add (l20*1)) y5p),(l19-l20),(y5c-l20)),(t12_p,t12_n,t12_c),t13,t14,(((l19-l20):Nat):Int),(0:Int),()) h21)
def vd (Q:VH) (K1:YH Q8) (y0:Int) (y5p:OA) (y5n y5c:Nat) (t12_p:OA) (t12_n t12_c:Nat) (t13 t14:Int) (h3:ae):Prop:=
 aL (decide (t14<t13)) (
 bl t12_p t14 t12_n fun a4=>
 ah .i64 h3 (a4.add (t14.toNat*3)) fun n5=>
 ah .i64 h3 (Addr.add (a4.add (t14.toNat*3)) 1) fun n6=>
 ah .i64 h3 (Addr.add (a4.add (t14.toNat*3)) 2) fun n7=>
 aW h3 (.cells #[(.int .i64 0),(.int .i64 0),(.int .i64 0)] 52 (0,0)) fun b8 h9=>
 bu h9 ⟨b8,0,none⟩ (.int .i64 n5) fun h10=>
 bu h10 ⟨b8,1,none⟩ (.int .i64 n6) fun h11=>
 bu h11 ⟨b8,2,none⟩ (.int .i64 n7) fun h12=>
 ∃J13:YH Sk,(∀s h,J13 s h→vc Q K1 s.1 s.2.1.1 s.2.1.2.1 s.2.1.2.2 s.2.2.1 s.2.2.2.1.1 s.2.2.2.1.2.1 s.2.2.2.1.2.2 s.2.2.2.2.1 s.2.2.2.2.2.1 h)∧
 ah .i64 h12 ⟨b8,0,none⟩ fun n26=>
 aL (decide (n26<0)) (
 Q (.bool false) h12) (
 ah .i64 h12 ⟨b8,0,none⟩ fun n27=>
 aL (decide (n27>y0)) (
 Q (.bool false) h12) (
 ah .i64 h12 ⟨b8,2,none⟩ fun n28=>
 aL (decide (n28<0)) (
 Q (.bool false) h12) (
 ah .i64 h12 ⟨b8,2,none⟩ fun n29=>
 aL (decide (n29>4096)) (
 Q (.bool false) h12) (
 ah .i64 h12 ⟨b8,2,none⟩ fun n30=>
 ah .i64 h12 ⟨b8,1,none⟩ fun n31=>
 ah .i64 h12 ⟨b8,0,none⟩ fun n32=>
 aL (decide ((IntKind.wrap .i64 (n30*n31))>(IntKind.wrap .i64 (y0-n32)))) (
 Q (.bool false) h12) (
 J13 (y0,(y5p,y5n,y5c),⟨b8,0,none⟩,(t12_p,t12_n,t12_c),t13,t14,()) h12)))))) (
 Q (.bool true) h3)
def Cc (y0:Int) (y1p:OA) (y1n y1c:Nat) (h:ae) (Q:VH):Prop:=
 zW 4 1 1 (.bool false) y0 y0 h fun b1 h2=>
 bB (S:=Q8) (fun K1 s h=>vd Q K1 s.1 s.2.1.1 s.2.1.2.1 s.2.1.2.2 s.2.2.1.1 s.2.2.1.2.1 s.2.2.1.2.2 s.2.2.2.1 s.2.2.2.2.1 h) (y0,(some ⟨b1,0,none⟩,y0.toNat,y0.toNat),(y1p,y1n,y1c),(y1n:Int),(0:Int),()) h2
noncomputable def Cd:cz:=tb (ak .done []) (ak [] [(3,[(0,I6),(5,SL),(12,SL),(13,I6),(14,I6)]),(11,[(0,I6),(5,SL),(8,SL),(12,SL),(13,I6),(14,I6),(64,I6),(65,I6)])]) (ak none [(7,some [(0,I6),(5,SL),(7,.sc (.adr)),(12,SL),(13,I6),(14,I6)])])
theorem AG (y0:Int) (y1p:OA) (y1n y1c:Nat) {h:ae} {Q:VH} (H:Cc y0 y1p y1n y1c h Q):aq P mn #[(.int .i64 y0),(.slice y1p y1n y1c)] h Q:=
 @aA P mn Tryz.f58 Cd [(.int .i64 y0),(.slice y1p y1n y1c)] h Q aR Tryz.func58 Tryz.call58 (by kernel_rfl) (Eq.mpr (by kernel_rfl) H)
def xj (free0:Addr) (h:ae) (Q:VH):Prop:=
 ah .i64 h (free0.add 7) fun n1=>
 av h (free0.add 6) fun p2 l2 c2=>
 aE P mn #[(.int .i64 n1),(.slice p2 l2 c2)] h fun b4 h3=>
 Q (.bool b4) h3
noncomputable def yR:cz:=tb (ak .done []) (ak [] []) (ak none [])
theorem xk (free0:Addr) {h:ae} {Q:VH} (H:xj free0 h Q):aq P iD #[(.pointer (some free0))] h Q:=
 @aA P iD Tryz.f57 yR [(.pointer (some free0))] h Q aR Tryz.func57 Tryz.call57 (by kernel_rfl) (Eq.mpr (by kernel_rfl) H)
def xl (free0:Addr) (h:ae) (Q:VH):Prop:=
 ah .i64 h (free0.add 8) fun n1=>
 aX A2 h free0 fun x2=>
 aI P .i64 j7 #[(bz A2 x2)] h fun n4 h3=>
 aD h3 (free0.add 8)=some (.int .i64 n1)∧
 aL (n1==n4) (
 aX A2 h3 free0 fun x5=>
 ah .u32 h3 (free0.add 9) fun n6=>
 aI P .u32 lr #[(bz A2 x5)] h3 fun n8 h7=>
 aD h7 (free0.add 9)=some (.int .u32 n6)∧
 aD h7 (free0.add 8)=some (.int .i64 n1)∧
 Q (.bool (n6==n8)) h7) (
 aD h3 (free0.add 8)=some (.int .i64 n1)∧
 Q (.bool false) h3)
noncomputable def yS:cz:=tb (ak .done [(1,(bD [0,2] (.early 1 (.alt 3 (.alt 4 (bD [5,6,7,9,10] (.early 8 (.alt 11 (bD [12,13,14] .done) .stop))) .stop) .stop))))]) (ak [] []) (ak none [])
theorem xm (free0:Addr) {h:ae} {Q:VH} (H:xl free0 h Q):aq P iE #[(.pointer (some free0))] h Q:=
 @aA P iE Tryz.f59 yS [(.pointer (some free0))] h Q aR Tryz.func59 Tryz.call59 (by kernel_rfl) (Eq.mpr (by kernel_rfl) H)
def oM (Q:VH) (K1:(TS A5×Int×Unit)→ae→Prop) (t11:TS A5) (t12:Int) (h3:ae):Prop:=
 aL (decide (t12<6)) (
 si t12 6 fun _=> ∃v4:Value,(#[t11.1,t11.2.1,t11.2.2.1,t11.2.2.2.1,t11.2.2.2.2.1,t11.2.2.2.2.2.1]:Array Value)[t12.toNat*1]? =some v4∧
 fw P v4 [] h3 fun v5 h6=>
 ∃b7:Bool,v5=(.bool b7)∧
 aL (!b7) (
 Q (.bool false) h6) (
 K1 (t11,(IntKind.wrap .i64 (t12+1)),()) h6)) (
 Q (.bool true) h3)
def vO (y0:TS A4) (h:ae) (Q:VH):Prop:=
 aW h (.cells (aP A4 y0).toArray 39 (0,0)) fun b1 h2=>
 bB (S:=(TS A5×Int×Unit)) (fun K1 s h=>oM Q K1 s.1 s.2.1 h) (((.func (.func fo) #[] #[(.pointer (some ⟨b1,0,none⟩))]),(.func (.func iA) #[] #[(.pointer (some ⟨b1,0,none⟩))]),(.func (.func iB) #[] #[(.pointer (some ⟨b1,0,none⟩))]),(.func (.func iC) #[] #[(.pointer (some ⟨b1,0,none⟩))]),(.func (.func iD) #[] #[(.pointer (some ⟨b1,0,none⟩))]),(.func (.func iE) #[] #[(.pointer (some ⟨b1,0,none⟩))]),()),(0:Int),()) h2
noncomputable def Ce:cz:=tb (ak .done []) (ak [] [(2,[(11,.ag A5),(12,I6)])]) (ak none [])
theorem rC (y0:TS A4) {h:ae} {Q:VH} (H:vO y0 h Q):aq P iS #[(bz A4 y0)] h Q:=
 @aA P iS Tryz.f22 Ce [(bz A4 y0)] h Q aR Tryz.func22 Tryz.call22 (by kernel_rfl) (Eq.mpr (by kernel_rfl) H)
def sU (Q:VH) (K1:(Addr×Addr×Addr×Int×Unit)→ae→Prop) (K2:YH RY) (y2 y3 y5:Addr) (y6:Int) (y7p:OA) (y7n y7c:Nat) (y8p:OA) (y8n y8c:Nat) (y9:Int) (h17:ae):Prop:=
 aL (decide (y9<(y7n:Int))) (
 bl y7p y9 y7n fun a18=>
 bl y8p y9 y8n fun a19=>
 ah .i64 h17 (a18.add (y9.toNat*1)) fun n20=>
 ah .i64 h17 (a19.add (y9.toNat*1)) fun n21=>
 aL (n20 !=n21) (
 Q (.bool false) h17) (
 K2 (y2,y3,y5,y6,(y7p,y7n,y7c),(y8p,y8n,y8c),(IntKind.wrap .i64 (y9+1)),()) h17)) (
 K1 (y2,y3,y5,(IntKind.wrap .i64 (y6+1)),()) h17)
def ve (Q:VH) (K1:(Addr×Addr×Addr×Int×Unit)→ae→Prop) (y2 y3 y5:Addr) (y6:Int) (h14:ae):Prop:=
 aL (decide (y6<3)) (
 si y6 3 fun _=>
 si 0 2 fun _=>
 av h14 (Addr.add (y5.add (y6.toNat*2)) ((0:Int).toNat*1)) fun p15 l15 c15=>
 si y6 3 fun _=>
 si 1 2 fun _=>
 av h14 (Addr.add (y5.add (y6.toNat*2)) ((1:Int).toNat*1)) fun p16 l16 c16=>
 aL ((l15:Int) !=(l16:Int)) (
 Q (.bool false) h14) (
 bB (S:=RY) (fun K2 s h=>sU Q K1 K2 s.1 s.2.1 s.2.2.1 s.2.2.2.1 s.2.2.2.2.1.1 s.2.2.2.2.1.2.1 s.2.2.2.2.1.2.2 s.2.2.2.2.2.1.1 s.2.2.2.2.2.1.2.1 s.2.2.2.2.2.1.2.2 s.2.2.2.2.2.2.1 h) (y2,y3,y5,y6,(p15,l15,c15),(p16,l16,c16),(0:Int),()) h14)) (
 ah .i64 h14 y2 fun n22=>
 ah .i64 h14 y3 fun n23=>
 aL (n22==n23) (
 ah .i64 h14 (y2.add 2) fun n24=>
 ah .i64 h14 (y3.add 2) fun n25=>
 aL (n24==n25) (
 ah .i64 h14 (y2.add 3) fun n26=>
 ah .i64 h14 (y3.add 3) fun n27=>
 aL (n26==n27) (
 ah .i64 h14 (y2.add 4) fun n28=>
 ah .i64 h14 (y3.add 4) fun n29=>
 aL (n28==n29) (
 ah .i64 h14 (y2.add 5) fun n30=>
 ah .i64 h14 (y3.add 5) fun n31=>
 aL (n30==n31) (
 ah .i64 h14 (y2.add 6) fun n32=>
 ah .i64 h14 (y3.add 6) fun n33=>
 aL (n32==n33) (
 ah .i64 h14 (y2.add 7) fun n34=>
 ah .i64 h14 (y3.add 7) fun n35=>
 aL (n34==n35) (
 ah .i64 h14 (y2.add 10) fun n36=>
 ah .i64 h14 (y3.add 10) fun n37=>
 aL (n36==n37) (
 ah .i64 h14 (y2.add 11) fun n38=>
 ah .i64 h14 (y3.add 11) fun n39=>
 aL (n38==n39) (
 ah .i64 h14 (y2.add 12) fun n40=>
 ah .i64 h14 (y3.add 12) fun n41=>
 aL (n40==n41) (
 ah .i64 h14 (y2.add 13) fun n42=>
 ah .i64 h14 (y3.add 13) fun n43=>
 aL (n42==n43) (
 ah .i64 h14 (y2.add 14) fun n44=>
 ah .i64 h14 (y3.add 14) fun n45=>
 Q (.bool (n44==n45)) h14) (
 Q (.bool false) h14)) (
 Q (.bool false) h14)) (
 Q (.bool false) h14)) (
 Q (.bool false) h14)) (
 Q (.bool false) h14)) (
 Q (.bool false) h14)) (
 Q (.bool false) h14)) (
 Q (.bool false) h14)) (
 Q (.bool false) h14)) (
 Q (.bool false) h14)) (
 Q (.bool false) h14))
def Cf (y0 y1:TS A1) (h:ae) (Q:VH):Prop:=
 aW h (.cells (aP A1 y0).toArray 62 (0,0)) fun b1 h2=>
 aW h2 (.cells (aP A1 y1).toArray 62 (0,0)) fun b3 h4=>
 av h4 ⟨b1,1,none⟩ fun p5 l5 c5=>
 av h4 ⟨b3,1,none⟩ fun p6 l6 c6=>
 av h4 ⟨b1,8,none⟩ fun p7 l7 c7=>
 av h4 ⟨b3,8,none⟩ fun p8 l8 c8=>
 av h4 ⟨b1,9,none⟩ fun p9 l9 c9=>
 av h4 ⟨b3,9,none⟩ fun p10 l10 c10=>
 aW h4 (.cells #[(.slice none 0 0),(.slice none 0 0),(.slice none 0 0),(.slice none 0 0),(.slice none 0 0),(.slice none 0 0)] 205 (0,0)) fun b11 h12=>
 bt [(.slice p5 l5 c5),(.slice p6 l6 c6),(.slice p7 l7 c7),(.slice p8 l8 c8),(.slice p9 l9 c9),(.slice p10 l10 c10)] h12 ⟨b11,0,none⟩ 0 fun h13=>
 bB (S:=(Addr×Addr×Addr×Int×Unit)) (fun K1 s h=>ve Q K1 s.1 s.2.1 s.2.2.1 s.2.2.2.1 h) (⟨b1,0,none⟩,⟨b3,0,none⟩,⟨b11,0,none⟩,(0:Int),()) h13
noncomputable def Cg:cz:=tb (ak .done [(12,(bD [0,1,2,4,5,6,3,7,8] .done))]) (ak [] [(3,[(2,.sc (.adr)),(3,.sc (.adr)),(5,.sc (.adr)),(6,I6)]),(10,[(2,.sc (.adr)),(3,.sc (.adr)),(5,.sc (.adr)),(6,I6),(7,SL),(8,SL),(9,I6)])]) (ak none [])
theorem AH (y0 y1:TS A1) {h:ae} {Q:VH} (H:Cf y0 y1 h Q):aq P mo #[(bz A1 y0),(bz A1 y1)] h Q:=
 @aA P mo Tryz.f95 Cg [(bz A1 y0),(bz A1 y1)] h Q aR Tryz.func95 Tryz.call95 (by kernel_rfl) (Eq.mpr (by kernel_rfl) H)
def vf (Q:VH) (K1:(Addr×Addr×Int×Unit)→ae→Prop) (y2 y3:Addr) (y5:Int) (h7:ae):Prop:=
 av h7 (y2.add 3) fun p8 l8 c8=>
 aL (decide (y5<(l8:Int))) (
 av h7 (y2.add 3) fun p9 l9 c9=>
 bl p9 y5 l9 fun a10=>
 aX A1 h7 (a10.add (y5.toNat*15)) fun x11=>
 av h7 (y3.add 3) fun p12 l12 c12=>
 bl p12 y5 l12 fun a13=>
 aX A1 h7 (a13.add (y5.toNat*15)) fun x14=>
 aE P mo #[(bz A1 x11),(bz A1 x14)] h7 fun b16 h15=>
 aD h15 (y2.add 3)=some (.slice p9 l9 c9)∧
 aL (!b16) (
 Q (.bool false) h15) (
 K1 (y2,y3,(IntKind.wrap .i64 (y5+1)),()) h15)) (
 Q (.bool true) h7)
def vg (Q:VH) (y2 y3:Addr) (h6:ae):Prop:=
 bB (S:=(Addr×Addr×Int×Unit)) (fun K1 s h=>vf Q K1 s.1 s.2.1 s.2.2.1 h) (y2,y3,(0:Int),()) h6
def Ch (y0 y1:TS A2) (h:ae) (Q:VH):Prop:=
 aW h (.cells (aP A2 y0).toArray 32 (0,0)) fun b1 h2=>
 aW h2 (.cells (aP A2 y1).toArray 32 (0,0)) fun b3 h4=>
 ∃J5:(Addr×Addr×Unit)→ae→Prop,(∀s h,J5 s h→vg Q s.1 s.2.1 h)∧
 ah .i64 h4 ⟨b1,0,none⟩ fun n17=>
 ah .i64 h4 ⟨b3,0,none⟩ fun n18=>
 aL (n17 !=n18) (
 Q (.bool false) h4) (
 ah .i64 h4 ⟨b1,1,none⟩ fun n19=>
 ah .i64 h4 ⟨b3,1,none⟩ fun n20=>
 aL (n19 !=n20) (
 Q (.bool false) h4) (
 ah .i64 h4 ⟨b1,2,none⟩ fun n21=>
 ah .i64 h4 ⟨b3,2,none⟩ fun n22=>
 aL (n21 !=n22) (
 Q (.bool false) h4) (
 ah .i64 h4 ⟨b1,4,none⟩ fun n23=>
 ah .i64 h4 ⟨b3,4,none⟩ fun n24=>
 aL (n23 !=n24) (
 Q (.bool false) h4) (
 av h4 ⟨b1,3,none⟩ fun p25 l25 c25=>
 av h4 ⟨b3,3,none⟩ fun p26 l26 c26=>
 aL ((l25:Int) !=(l26:Int)) (
 Q (.bool false) h4) (
 J5 (⟨b1,0,none⟩,⟨b3,0,none⟩,()) h4)))))
noncomputable def Ci:cz:=tb (ak .done [(6,(bD [0,2,5,7] (.early 1 (bD [3,4] (.alt 6 (bD [8,9] (.alt 10 (bD [11] .done) .stop)) .stop)))))]) (ak [] [(4,[(2,.sc (.adr)),(3,.sc (.adr)),(5,I6)])]) (ak none [(3,some [(2,.sc (.adr)),(3,.sc (.adr))])])
theorem AJ (y0 y1:TS A2) {h:ae} {Q:VH} (H:Ch y0 y1 h Q):aq P mq #[(bz A2 y0),(bz A2 y1)] h Q:=
 @aA P mq Tryz.f45 Ci [(bz A2 y0),(bz A2 y1)] h Q aR Tryz.func45 Tryz.call45 (by kernel_rfl) (Eq.mpr (by kernel_rfl) H)
def vh (Q:VH) (K1:YH RZ) (y0p:OA) (y0n y0c:Nat) (y1p:OA) (y1n y1c:Nat) (y5:Int) (h1:ae):Prop:=
 aL (decide (y5<(y0n:Int))) (
 bl y0p y5 y0n fun a2=>
 bl y1p y5 y1n fun a3=>
 ah .i64 h1 (a2.add (y5.toNat*1)) fun n4=>
 ah .i64 h1 (a3.add (y5.toNat*1)) fun n5=>
 aL (n4 !=n5) (
 Q (.bool false) h1) (
 K1 ((y0p,y0n,y0c),(y1p,y1n,y1c),(IntKind.wrap .i64 (y5+1)),()) h1)) (
 Q (.bool true) h1)
def Cj (y0p:OA) (y0n y0c:Nat) (y1p:OA) (y1n y1c:Nat) (h:ae) (Q:VH):Prop:=
 aL ((y0n:Int) !=(y1n:Int)) (
 Q (.bool false) h) (
 bB (S:=RZ) (fun K1 s h=>vh Q K1 s.1.1 s.1.2.1 s.1.2.2 s.2.1.1 s.2.1.2.1 s.2.1.2.2 s.2.2.1 h) ((y0p,y0n,y0c),(y1p,y1n,y1c),(0:Int),()) h)
noncomputable def Ck:cz:=tb (ak .done [(6,(bD [0,1,2,4,5,6,3,7,8] .done))]) (ak [] [(4,[(0,SL),(1,SL),(5,I6)])]) (ak none [])
theorem AK (y0p:OA) (y0n y0c:Nat) (y1p:OA) (y1n y1c:Nat) {h:ae} {Q:VH} (H:Cj y0p y0n y0c y1p y1n y1c h Q):aq P mr #[(.slice y0p y0n y0c),(.slice y1p y1n y1c)] h Q:=
 @aA P mr Tryz.f46 Ck [(.slice y0p y0n y0c),(.slice y1p y1n y1c)] h Q aR Tryz.func46 Tryz.call46 (by kernel_rfl) (Eq.mpr (by kernel_rfl) H)
def vi (Q:VH) (K1:(Addr×Addr×Int×Unit)→ae→Prop) (y2 y3:Addr) (y7:Int) (h15:ae):Prop:=
 av h15 (y2.add 6) fun p16 l16 c16=>
 aL (decide (y7<(l16:Int))) (
 av h15 (y2.add 6) fun p17 l17 c17=>
 bl p17 y7 l17 fun a18=>
 ah .i64 h15 (a18.add (y7.toNat*3)) fun n19=>
 ah .i64 h15 (Addr.add (a18.add (y7.toNat*3)) 1) fun n20=>
 ah .i64 h15 (Addr.add (a18.add (y7.toNat*3)) 2) fun n21=>
 av h15 (y3.add 6) fun p22 l22 c22=>
 bl p22 y7 l22 fun a23=>
 ah .i64 h15 (a23.add (y7.toNat*3)) fun n24=>
 ah .i64 h15 (Addr.add (a23.add (y7.toNat*3)) 1) fun n25=>
 ah .i64 h15 (Addr.add (a23.add (y7.toNat*3)) 2) fun n26=>
 aL (!((n19==n24)&&((n20==n25)&&((n21==n26)&&true)))) (
 Q (.bool false) h15) (
 K1 (y2,y3,(IntKind.wrap .i64 (y7+1)),()) h15)) (
 ah .i64 h15 (y2.add 7) fun n27=>
 ah .i64 h15 (y3.add 7) fun n28=>
 aL (n27==n28) (
 ah .i64 h15 (y2.add 8) fun n29=>
 ah .i64 h15 (y3.add 8) fun n30=>
 aL (n29==n30) (
 ah .u32 h15 (y2.add 9) fun n31=>
 ah .u32 h15 (y3.add 9) fun n32=>
 Q (.bool (n31==n32)) h15) (
 Q (.bool false) h15)) (
 Q (.bool false) h15))
def vj (Q:VH) (y2 y3:Addr) (h14:ae):Prop:=
 bB (S:=(Addr×Addr×Int×Unit)) (fun K1 s h=>vi Q K1 s.1 s.2.1 s.2.2.1 h) (y2,y3,(0:Int),()) h14
def Cl (y0 y1:TS A4) (h:ae) (Q:VH):Prop:=
 aW h (.cells (aP A4 y0).toArray 39 (0,0)) fun b1 h2=>
 aW h2 (.cells (aP A4 y1).toArray 39 (0,0)) fun b3 h4=>
 aX A2 h4 ⟨b1,0,none⟩ fun x5=>
 aX A2 h4 ⟨b3,0,none⟩ fun x6=>
 aE P mq #[(bz A2 x5),(bz A2 x6)] h4 fun b8 h7=>
 av h7 ⟨b1,5,none⟩ fun p9 l9 c9=>
 av h7 ⟨b3,5,none⟩ fun p10 l10 c10=>
 aE P mr #[(.slice p9 l9 c9),(.slice p10 l10 c10)] h7 fun b12 h11=>
 ∃J13:(Addr×Addr×Unit)→ae→Prop,(∀s h,J13 s h→vj Q s.1 s.2.1 h)∧
 aL (!b8) (
 Q (.bool false) h11) (
 aL (!b12) (
 Q (.bool false) h11) (
 av h11 ⟨b1,6,none⟩ fun p33 l33 c33=>
 av h11 ⟨b3,6,none⟩ fun p34 l34 c34=>
 aL ((l33:Int) !=(l34:Int)) (
 Q (.bool false) h11) (
 J13 (⟨b1,0,none⟩,⟨b3,0,none⟩,()) h11)))
noncomputable def Cm:cz:=tb (ak .done [(8,(bD [0,2,5,7,1,3,4,6,8,9,10] .done))]) (ak [] [(6,[(2,.sc (.adr)),(3,.sc (.adr)),(7,I6)])]) (ak none [(5,some [(2,.sc (.adr)),(3,.sc (.adr))])])
theorem AL (y0 y1:TS A4) {h:ae} {Q:VH} (H:Cl y0 y1 h Q):aq P mt #[(bz A4 y0),(bz A4 y1)] h Q:=
 @aA P mt Tryz.f19 Cm [(bz A4 y0),(bz A4 y1)] h Q aR Tryz.func19 Tryz.call19 (by kernel_rfl) (Eq.mpr (by kernel_rfl) H)
def zO (y0:ByteArray) (h:ae) (Q:VH):Prop:=
 aq P fO #[(.string y0)] h fun v2 h1=>
 E3 A4 fun x3=> ∃n4:Int,v2=(.tuple #[(bz A4 x3),(.int .i64 n4)])∧
 aW h1 (.cells (aP A4 (zT A4)).toArray 39 (0,0)) fun b5 h6=>
 bt (aP A4 x3) h6 ⟨b5,0,none⟩ 0 fun h7=>
 aX A4 h7 ⟨b5,0,none⟩ fun x8=>
 aE P iS #[(bz A4 x8)] h7 fun b10 h9=>
 aX A4 h9 ⟨b5,0,none⟩ fun x11=>
 aE P mt #[(bz A4 x11),(.agg #[(.int .i64 0),(.int .i64 0),(.int .i64 0),(.slice none 0 0),(.int .i64 0),(.slice none 0 0),(.slice none 0 0),(.int .i64 0),(.int .i64 0),(.int .u32 0)])] h9 fun b13 h12=>
 aL ((n4==0)==b10) (
 Q (.bool (!((n4==0)==b13))) h12) (
 Q (.bool false) h12)
noncomputable def AM:cz:=tb (ak .done []) (ak [] []) (ak none [])
theorem yT (y0:ByteArray) {h:ae} {Q:VH} (H:zO y0 h Q):aq P fU #[(.string y0)] h Q:=
 @aA P fU Tryz.f20 AM [(.string y0)] h Q aR Tryz.func20 Tryz.call20 (by kernel_rfl) (Eq.mpr (by kernel_rfl) H)
def jA (Q:VH) (y0:ByteArray) (y1p:OA) (y1n y1c:Nat) (y5:Addr) (y7:Bool) (h6:ae):Prop:=
 si 4 5 fun _=>
 ah .i64 h6 (y5.add ((4:Int).toNat*1)) fun n7=>
 tW P mj #[(.slice y1p y1n y1c),(.int .i64 n7)] h6 fun s9 h8=>
 si 0 5 fun _=>
 ah .i64 h8 (y5.add ((0:Int).toNat*1)) fun n10=>
 si 1 5 fun _=>
 ah .i64 h8 (y5.add ((1:Int).toNat*1)) fun n11=>
 tW P iz #[(.string s9),(.agg #[(.int .i64 n10),(.int .i64 n11)])] h8 fun s13 h12=>
 aL y7 (
 ov (ByteArray.mk #[69,65,82,49]) y0 fun _=>
 aE P fU #[(.string ((ByteArray.mk #[69,65,82,49])++y0))] h12 fun b15 h14=>
 aL b15 (
 aE P fU #[(.string s9)] h14 fun b17 h16=>
 aL b17 (
 aE P fU #[(.string s13)] h16 fun b19 h18=>
 aL b19 (
 si 2 5 fun _=>
 ah .i64 h18 (y5.add ((2:Int).toNat*1)) fun n20=>
 si 3 5 fun _=>
 ah .i64 h18 (y5.add ((3:Int).toNat*1)) fun n21=>
 tW P iz #[(.string s13),(.agg #[(.int .i64 n20),(.int .i64 n21)])] h18 fun s23 h22=>
 aE P fU #[(.string s23)] h22 fun b25 h24=>
 Q (.bool b25) h24) (
 Q (.bool false) h18)) (
 Q (.bool false) h16)) (
 Q (.bool false) h14)) (
 Q (.bool false) h12)
def rD (y0:ByteArray) (y1p:OA) (y1n y1c:Nat) (y2:TS A6) (h:ae) (Q:VH):Prop:=
 aW h (.cells (aP A6 y2).toArray 23 (0,0)) fun b1 h2=>
 aE P kQ #[] h2 fun b4 h3=>
 ∃J5:YH Sm,(∀s h,J5 s h→jA Q s.1 s.2.1.1 s.2.1.2.1 s.2.1.2.2 s.2.2.1 s.2.2.2.1 h)∧
 aL (decide (((y0.size:Nat):Int)>60)) (
 qy 60 y0.size fun l26=>
 J5 ((y0.extract 0 l26),(y1p,y1n,y1c),⟨b1,0,none⟩,b4,()) h3) (
 J5 (y0,(y1p,y1n,y1c),⟨b1,0,none⟩,b4,()) h3)
noncomputable def uH:cz:=tb (ak .done []) (ak [] []) (ak none [(4,some [(0,.sc (.str)),(1,SL),(5,.sc (.adr)),(7,BO)])])
theorem sV (y0:ByteArray) (y1p:OA) (y1n y1c:Nat) (y2:TS A6) {h:ae} {Q:VH} (H:rD y0 y1p y1n y1c y2 h Q):aq P kc #[(.string y0),(.slice y1p y1n y1c),(bz A6 y2)] h Q:=
 @aA P kc Tryz.f6 uH [(.string y0),(.slice y1p y1n y1c),(bz A6 y2)] h Q aR Tryz.func6 Tryz.call6 (by kernel_rfl) (Eq.mpr (by kernel_rfl) H)
end Go.Proofs.YtdhpmegbmjoekaaGreatDoor.G
