/- Printed by shp.py out of the program's own print: for each Go function a typed formula over heaps, and the proof that a call does just that. -/
import Derived.Test.YtbgplllcjhgdhaaGreatDoorGenA
set_option linter.unusedVariables false
set_option maxRecDepth 100000
namespace Go.Proofs.YtbgplllcjhgdhaaGreatDoor.G
open Go Go.Sh
def ref14_all_l2 (Q:VH) (K1:(S3×Int×Int×Int×Unit)→Heap→Prop) (y0p:OA) (y0n y0c:Nat) (y1 y2 y7:Int) (h1:Heap):Prop:=
 ifB (decide (y7<(y0n:Int))) (
 idxI y0p y7 y0n fun a2=>
 ldInt .i64 h1 (a2.add (y7.toNat*1)) fun n3=>
 ifB (decide (n3<y1)) (
 Q (.bool false) h1) (
 idxI y0p y7 y0n fun a4=>
 ldInt .i64 h1 (a4.add (y7.toNat*1)) fun n5=>
 ifB (decide (n5>y2)) (
 Q (.bool false) h1) (
 K1 ((y0p,y0n,y0c),y1,y2,(IntKind.wrap .i64 (y7+1)),()) h1))) (
 Q (.bool true) h1)
def ref14_all (y0p:OA) (y0n y0c:Nat) (y1 y2:Int) (h:Heap) (Q:VH):Prop:=
 LoopS (S:=(S3×Int×Int×Int×Unit)) (fun K1 s h=>ref14_all_l2 Q K1 s.1.1 s.1.2.1 s.1.2.2 s.2.1 s.2.2.1 s.2.2.2.1 h) ((y0p,y0n,y0c),y1,y2,(0:Int),()) h
noncomputable def tab_ref14_all:Tab:=tb (lookT .done []) (lookT [] [(2,[(0,SL),(1,I6),(2,I6),(7,I6)])]) (lookT none [])
theorem call_ref14_all (y0p:OA) (y0n y0c:Nat) (y1 y2:Int) {h:Heap} {Q:VH} (H:ref14_all y0p y0n y0c y1 y2 h Q):callP P n_ref14_all #[(.slice y0p y0n y0c),(.int .i64 y1),(.int .i64 y2)] h Q:=
 @callP_of P n_ref14_all Tryz.f35 tab_ref14_all [(.slice y0p y0n y0c),(.int .i64 y1),(.int .i64 y2)] h Q mixed Tryz.func35 Tryz.call35 (by kernel_rfl) (Eq.mpr (by kernel_rfl) H)
def ref14_in (y0 y1 y2:Int) (h:Heap) (Q:VH):Prop:=
 ifB (decide (y0≥y1)) (
 Q (.bool (decide (y0≤y2))) h) (
 Q (.bool false) h)
noncomputable def tab_ref14_in:Tab:=tb (lookT .done []) (lookT [] []) (lookT none [])
theorem call_ref14_in (y0 y1 y2:Int) {h:Heap} {Q:VH} (H:ref14_in y0 y1 y2 h Q):callP P n_ref14_in #[(.int .i64 y0),(.int .i64 y1),(.int .i64 y2)] h Q:=
 @callP_of P n_ref14_in Tryz.f36 tab_ref14_in [(.int .i64 y0),(.int .i64 y1),(.int .i64 y2)] h Q mixed Tryz.func36 Tryz.call36 (by kernel_rfl) (Eq.mpr (by kernel_rfl) H)
def ref14_Many (y0:Int) (h:Heap) (Q:VH):Prop:=
 ifB (y0==7) (
 Q (.bool true) h) (
 Q (.bool (y0==8)) h)
noncomputable def tab_ref14_Many:Tab:=tb (lookT .done []) (lookT [] []) (lookT none [])
theorem call_ref14_Many (y0:Int) {h:Heap} {Q:VH} (H:ref14_Many y0 h Q):callP P n_ref14_Many #[(.int .i64 y0)] h Q:=
 @callP_of P n_ref14_Many Tryz.f37 tab_ref14_Many [(.int .i64 y0)] h Q mixed Tryz.func37 Tryz.call37 (by kernel_rfl) (Eq.mpr (by kernel_rfl) H)
def ref14_weighs (y0:Int) (h:Heap) (Q:VH):Prop:=
 ifB (y0==1) (
 Q (.bool true) h) (
 ifB (y0==2) (
 Q (.bool true) h) (
 Q (.bool (y0==6)) h))
noncomputable def tab_ref14_weighs:Tab:=tb (lookT .done []) (lookT [] []) (lookT none [])
theorem call_ref14_weighs (y0:Int) {h:Heap} {Q:VH} (H:ref14_weighs y0 h Q):callP P n_ref14_weighs #[(.int .i64 y0)] h Q:=
 @callP_of P n_ref14_weighs Tryz.f38 tab_ref14_weighs [(.int .i64 y0)] h Q mixed Tryz.func38 Tryz.call38 (by kernel_rfl) (Eq.mpr (by kernel_rfl) H)
def ref14_four (y0:Int) (h:Heap) (Q:VH):Prop:=
 ifB (y0==1) (
 Q (.bool true) h) (
 ifB (y0==2) (
 Q (.bool true) h) (
 ifB (y0==3) (
 Q (.bool true) h) (
 Q (.bool (y0==4)) h)))
noncomputable def tab_ref14_four:Tab:=tb (lookT .done []) (lookT [] []) (lookT none [])
theorem call_ref14_four (y0:Int) {h:Heap} {Q:VH} (H:ref14_four y0 h Q):callP P n_ref14_four #[(.int .i64 y0)] h Q:=
 @callP_of P n_ref14_four Tryz.f59 tab_ref14_four [(.int .i64 y0)] h Q mixed Tryz.func59 Tryz.call59 (by kernel_rfl) (Eq.mpr (by kernel_rfl) H)
def ref14_else0_j12 (Q:VH) (y1:Addr) (y6 y7:Bool) (h20:Heap):Prop:=
 ifB y6 (
 ifB y7 (
 Q (.bool true) h20) (
 ldInt .i64 h20 (y1.add 12) fun n21=>
 ifB (n21==0) (
 ldInt .i64 h20 (y1.add 13) fun n22=>
 Q (.bool (n22==0)) h20) (
 Q (.bool false) h20))) (
 ldInt .i64 h20 (y1.add 10) fun n23=>
 ifB (n23==0) (
 ldInt .i64 h20 (y1.add 11) fun n24=>
 ifB (n24==0) (
 ifB y7 (
 Q (.bool true) h20) (
 ldInt .i64 h20 (y1.add 12) fun n25=>
 ifB (n25==0) (
 ldInt .i64 h20 (y1.add 13) fun n26=>
 Q (.bool (n26==0)) h20) (
 Q (.bool false) h20))) (
 Q (.bool false) h20)) (
 Q (.bool false) h20))
def ref14_else0_j10 (Q:VH) (y1:Addr) (y4 y6 y7:Bool) (h18:Heap):Prop:=
 ∃J19:(Addr×Bool×Bool×Unit)→Heap→Prop,(∀s h,J19 s h→ref14_else0_j12 Q s.1 s.2.1 s.2.2.1 h)∧
 ifB (!y4) (
 ldSlice h18 (y1.add 8) fun p27 l27 c27=>
 ifB (decide ((l27:Int)>0)) (
 Q (.bool false) h18) (
 ldSlice h18 (y1.add 9) fun p28 l28 c28=>
 ifB (decide ((l28:Int)>0)) (
 Q (.bool false) h18) (
 J19 (y1,y6,y7,()) h18))) (
 J19 (y1,y6,y7,()) h18)
def ref14_else0_j8 (Q:VH) (y1:Addr) (y3 y4 y5 y6 y7:Bool) (h16:Heap):Prop:=
 ∃J17:(Addr×Bool×Bool×Bool×Unit)→Heap→Prop,(∀s h,J17 s h→ref14_else0_j10 Q s.1 s.2.1 s.2.2.1 s.2.2.2.1 h)∧
 ifB (!y3) (
 ldInt .i64 h16 y1 fun n29=>
 ifB (n29 !=12) (
 ldInt .i64 h16 (y1.add 3) fun n30=>
 ifB (n30 !=0) (
 Q (.bool false) h16) (
 ifB (!y5) (
 ldInt .i64 h16 (y1.add 2) fun n31=>
 ifB (n31 !=0) (
 Q (.bool false) h16) (
 J17 (y1,y4,y6,y7,()) h16)) (
 J17 (y1,y4,y6,y7,()) h16))) (
 ifB (!y5) (
 ldInt .i64 h16 (y1.add 2) fun n32=>
 ifB (n32 !=0) (
 Q (.bool false) h16) (
 J17 (y1,y4,y6,y7,()) h16)) (
 J17 (y1,y4,y6,y7,()) h16))) (
 ifB (!y5) (
 ldInt .i64 h16 (y1.add 2) fun n33=>
 ifB (n33 !=0) (
 Q (.bool false) h16) (
 J17 (y1,y4,y6,y7,()) h16)) (
 J17 (y1,y4,y6,y7,()) h16))
def ref14_else0_j6 (Q:VH) (y1:Addr) (y3 y4 y5 y6 y7:Bool) (h14:Heap):Prop:=
 ∃J15:(Addr×Bool×Bool×Bool×Bool×Bool×Unit)→Heap→Prop,(∀s h,J15 s h→ref14_else0_j8 Q s.1 s.2.1 s.2.2.1 s.2.2.2.1 s.2.2.2.2.1 s.2.2.2.2.2.1 h)∧
 ifB (!y3) (
 ldInt .i64 h14 (y1.add 4) fun n34=>
 ifB (n34 !=0) (
 Q (.bool false) h14) (
 ldInt .i64 h14 (y1.add 5) fun n35=>
 ifB (n35 !=0) (
 Q (.bool false) h14) (
 ldInt .i64 h14 (y1.add 6) fun n36=>
 ifB (n36 !=0) (
 Q (.bool false) h14) (
 ldInt .i64 h14 (y1.add 7) fun n37=>
 ifB (n37 !=0) (
 Q (.bool false) h14) (
 J15 (y1,y3,y4,y5,y6,y7,()) h14))))) (
 J15 (y1,y3,y4,y5,y6,y7,()) h14)
def ref14_else0_j5 (Q:VH) (y1:Addr) (y3 y4 y5 y6:Bool) (h12:Heap):Prop:=
 ∃J13:(Addr×Bool×Bool×Bool×Bool×Bool×Unit)→Heap→Prop,(∀s h,J13 s h→ref14_else0_j6 Q s.1 s.2.1 s.2.2.1 s.2.2.2.1 s.2.2.2.2.1 s.2.2.2.2.2.1 h)∧
 ldInt .i64 h12 y1 fun n38=>
 ifB (n38==9) (
 J13 (y1,y3,y4,y5,y6,true,()) h12) (
 ldInt .i64 h12 (y1.add 14) fun n39=>
 J13 (y1,y3,y4,y5,y6,((andI .i64 n39 2)==2),()) h12)
def ref14_else0_j4 (Q:VH) (y1:Addr) (y3 y4 y5:Bool) (h10:Heap):Prop:=
 ∃J11:(Addr×Bool×Bool×Bool×Bool×Unit)→Heap→Prop,(∀s h,J11 s h→ref14_else0_j5 Q s.1 s.2.1 s.2.2.1 s.2.2.2.1 s.2.2.2.2.1 h)∧
 ldInt .i64 h10 y1 fun n40=>
 ifB (n40==10) (
 J11 (y1,y3,y4,y5,true,()) h10) (
 ldInt .i64 h10 (y1.add 14) fun n41=>
 J11 (y1,y3,y4,y5,((andI .i64 n41 1)==1),()) h10)
def ref14_else0 (y0:TS A2) (h:Heap) (Q:VH):Prop:=
 newI h (.cells (mkS' A2 y0).toArray 40 (0,0)) fun b1 h2=>
 ldInt .i64 h2 ⟨b1,0,none⟩ fun n3=>
 callBool P n_ref14_four #[(.int .i64 n3)] h2 fun b5 h4=>
 ldInt .i64 h4 ⟨b1,0,none⟩ fun n6=>
 callBool P n_ref14_weighs #[(.int .i64 n6)] h4 fun b8 h7=>
 ∃J9:(Addr×Bool×Bool×Bool×Unit)→Heap→Prop,(∀s h,J9 s h→ref14_else0_j4 Q s.1 s.2.1 s.2.2.1 s.2.2.2.1 h)∧
 ldInt .i64 h7 ⟨b1,0,none⟩ fun n42=>
 ifB (n42==1) (
 J9 (⟨b1,0,none⟩,b5,b8,true,()) h7) (
 ldInt .i64 h7 ⟨b1,0,none⟩ fun n43=>
 J9 (⟨b1,0,none⟩,b5,b8,(n43==6),()) h7)
noncomputable def tab_ref14_else0:Tab:=tb (lookT .done []) (lookT [] []) (lookT none [(4,some [(1,.sc (.adr)),(3,BO),(4,BO),(5,BO)]),(5,some [(1,.sc (.adr)),(3,BO),(4,BO),(5,BO),(6,BO)]),(6,some [(1,.sc (.adr)),(3,BO),(4,BO),(5,BO),(6,BO),(7,BO)]),(8,some [(1,.sc (.adr)),(3,BO),(4,BO),(5,BO),(6,BO),(7,BO)]),(10,some [(1,.sc (.adr)),(4,BO),(6,BO),(7,BO)]),(12,some [(1,.sc (.adr)),(6,BO),(7,BO)])])
theorem call_ref14_else0 (y0:TS A2) {h:Heap} {Q:VH} (H:ref14_else0 y0 h Q):callP P n_ref14_else0 #[(agS A2 y0)] h Q:=
 @callP_of P n_ref14_else0 Tryz.f39 tab_ref14_else0 [(agS A2 y0)] h Q mixed Tryz.func39 Tryz.call39 (by kernel_rfl) (Eq.mpr (by kernel_rfl) H)
def ref14_weights (y0:TS A2) (y1:Int) (h:Heap) (Q:VH):Prop:=
 newI h (.cells (mkS' A2 y0).toArray 40 (0,0)) fun b1 h2=>
 ldInt .i64 h2 ⟨b1,0,none⟩ fun n3=>
 ifB (n3==1) (
 ldInt .i64 h2 ⟨b1,2,none⟩ fun n4=>
 ldInt .i64 h2 ⟨b1,3,none⟩ fun n5=>
 Q (.int .i64 (IntKind.wrap .i64 ((IntKind.wrap .i64 (n4*n5))*y1))) h2) (
 ldInt .i64 h2 ⟨b1,0,none⟩ fun n6=>
 ifB (n6==2) (
 ldInt .i64 h2 ⟨b1,3,none⟩ fun n7=>
 Q (.int .i64 (IntKind.wrap .i64 (y1*n7))) h2) (
 ldInt .i64 h2 ⟨b1,2,none⟩ fun n8=>
 Q (.int .i64 (IntKind.wrap .i64 (n8*y1))) h2))
noncomputable def tab_ref14_weights:Tab:=tb (lookT .done []) (lookT [] []) (lookT none [])
theorem call_ref14_weights (y0:TS A2) (y1:Int) {h:Heap} {Q:VH} (H:ref14_weights y0 y1 h Q):callP P n_ref14_weights #[(agS A2 y0),(.int .i64 y1)] h Q:=
 @callP_of P n_ref14_weights Tryz.f61 tab_ref14_weights [(agS A2 y0),(.int .i64 y1)] h Q mixed Tryz.func61 Tryz.call61 (by kernel_rfl) (Eq.mpr (by kernel_rfl) H)
def ref14_sized_j23 (Q:VH) (y2:Addr) (h30:Heap):Prop:=
 ldInt .i64 h30 (y2.add 10) fun n31=>
 callBool P n_ref14_in #[(.int .i64 n31),(.int .i64 0),(.int .i64 32767)] h30 fun b33 h32=>
 ldInt .i64 h32 (y2.add 11) fun n34=>
 callBool P n_ref14_in #[(.int .i64 n34),(.int .i64 0),(.int .i64 30)] h32 fun b36 h35=>
 ldInt .i64 h35 (y2.add 12) fun n37=>
 callBool P n_ref14_in #[(.int .i64 n37),(.int .i64 (-2147483648:Int)),(.int .i64 2147483647)] h35 fun b39 h38=>
 ldInt .i64 h38 (y2.add 13) fun n40=>
 callBool P n_ref14_in #[(.int .i64 n40),(.int .i64 (-2147483648:Int)),(.int .i64 2147483647)] h38 fun b42 h41=>
 ifB b33 (
 ifB b36 (
 ifB b39 (
 ifB b42 (
 ldInt .i64 h41 (y2.add 12) fun n43=>
 ldInt .i64 h41 (y2.add 13) fun n44=>
 Q (.bool (decide (n43≤n44))) h41) (
 Q (.bool false) h41)) (
 Q (.bool false) h41)) (
 Q (.bool false) h41)) (
 Q (.bool false) h41)
def ref14_sized_j19 (Q:VH) (J29:(Addr×Unit)→Heap→Prop) (y1:Int) (y2:Addr) (y11:Int) (h47:Heap):Prop:=
 ldSlice h47 (y2.add 8) fun p48 l48 c48=>
 callBool P n_ref14_all #[(.slice p48 l48 c48),(.int .i64 (-128:Int)),(.int .i64 127)] h47 fun b50 h49=>
 ldSlice h49 (y2.add 9) fun p51 l51 c51=>
 callBool P n_ref14_all #[(.slice p51 l51 c51),(.int .i64 (-16777216:Int)),(.int .i64 16777216)] h49 fun b53 h52=>
 ldAg A2 h52 y2 fun x54=>
 ldSlice h52 (y2.add 8) fun p55 l55 c55=>
 callInt P .i64 n_ref14_weights #[(agS A2 x54),(.int .i64 y1)] h52 fun n57 h56=>
 cellH h56 (y2.add 8)=some (.slice p55 l55 c55)∧
 ifB ((l55:Int) !=n57) (
 Q (.bool false) h56) (
 ldSlice h56 (y2.add 9) fun p58 l58 c58=>
 ifB ((l58:Int) !=y11) (
 Q (.bool false) h56) (
 ifB (!b50) (
 Q (.bool false) h56) (
 ifB (!b53) (
 Q (.bool false) h56) (
 J29 (y2,()) h56))))
def ref14_sized_j15 (Q:VH) (y1:Int) (y2:Addr) (y6:Bool) (h28:Heap):Prop:=
 ∃J29:(Addr×Unit)→Heap→Prop,(∀s h,J29 s h→ref14_sized_j23 Q s.1 h)∧
 ifB y6 (
 ldInt .i64 h28 (y2.add 2) fun n45=>
 ∃J46:(Int×Addr×Int×Unit)→Heap→Prop,(∀s h,J46 s h→ref14_sized_j19 Q J29 s.1 s.2.1 s.2.2.1 h)∧
 ldInt .i64 h28 y2 fun n59=>
 ifB (n59==2) (
 J46 (y1,y2,y1,()) h28) (
 J46 (y1,y2,n45,()) h28)) (
 J29 (y2,()) h28)
def ref14_sized_j12 (Q:VH) (y1:Int) (y2:Addr) (y6:Bool) (h23:Heap):Prop:=
 ldInt .i64 h23 (y2.add 2) fun n24=>
 callBool P n_ref14_in #[(.int .i64 n24),(.int .i64 1),(.int .i64 16)] h23 fun b26 h25=>
 ∃J27:(Int×Addr×Bool×Unit)→Heap→Prop,(∀s h,J27 s h→ref14_sized_j15 Q s.1 s.2.1 s.2.2.1 h)∧
 ldInt .i64 h25 y2 fun n60=>
 ifB (n60==1) (
 ifB (!b26) (
 Q (.bool false) h25) (
 J27 (y1,y2,y6,()) h25)) (
 ldInt .i64 h25 y2 fun n61=>
 ifB (n61==6) (
 ifB (!b26) (
 Q (.bool false) h25) (
 J27 (y1,y2,y6,()) h25)) (
 J27 (y1,y2,y6,()) h25))
def ref14_sized_j10 (Q:VH) (y1:Int) (y2:Addr) (y5 y6:Bool) (h21:Heap):Prop:=
 ∃J22:(Int×Addr×Bool×Unit)→Heap→Prop,(∀s h,J22 s h→ref14_sized_j12 Q s.1 s.2.1 s.2.2.1 h)∧
 ifB y5 (
 ldInt .i64 h21 (y2.add 6) fun n62=>
 ifB (decide (n62<0)) (
 Q (.bool false) h21) (
 ldInt .i64 h21 (y2.add 6) fun n63=>
 ldAg A2 h21 y2 fun x64=>
 callInt P .i64 n_ref14_Span #[(agS A2 x64)] h21 fun n66 h65=>
 cellH h65 (y2.add 6)=some (.int .i64 n63)∧
 ifB (decide (n63≥n66)) (
 cellH h65 (y2.add 6)=some (.int .i64 n63)∧
 Q (.bool false) h65) (
 ldInt .i64 h65 (y2.add 7) fun n67=>
 ifB (decide (n67<0)) (
 cellH h65 (y2.add 6)=some (.int .i64 n63)∧
 Q (.bool false) h65) (
 ldAg A2 h65 y2 fun x68=>
 ldInt .i64 h65 (y2.add 7) fun n69=>
 callInt P .i64 n_ref14_Span #[(agS A2 x68)] h65 fun n71 h70=>
 cellH h70 (y2.add 7)=some (.int .i64 n69)∧
 cellH h70 (y2.add 6)=some (.int .i64 n63)∧
 ifB (decide (n69≥n71)) (
 Q (.bool false) h70) (
 J22 (y1,y2,y6,()) h70))))) (
 J22 (y1,y2,y6,()) h21)
def ref14_sized_j6 (Q:VH) (y1:Int) (y2:Addr) (y5 y6:Bool) (h13:Heap):Prop:=
 ldInt .i64 h13 (y2.add 4) fun n14=>
 callBool P n_ref14_in #[(.int .i64 n14),(.int .i64 1),(.int .i64 4)] h13 fun b16 h15=>
 ldInt .i64 h15 (y2.add 5) fun n17=>
 callBool P n_ref14_in #[(.int .i64 n17),(.int .i64 1),(.int .i64 4)] h15 fun b19 h18=>
 ∃J20:(Int×Addr×Bool×Bool×Unit)→Heap→Prop,(∀s h,J20 s h→ref14_sized_j10 Q s.1 s.2.1 s.2.2.1 s.2.2.2.1 h)∧
 ifB y5 (
 ifB (!b16) (
 Q (.bool false) h18) (
 ifB (!b19) (
 Q (.bool false) h18) (
 J20 (y1,y2,y5,y6,()) h18))) (
 J20 (y1,y2,y5,y6,()) h18)
def ref14_sized (y0:TS A2) (y1:Int) (h:Heap) (Q:VH):Prop:=
 newI h (.cells (mkS' A2 y0).toArray 40 (0,0)) fun b1 h2=>
 ldInt .i64 h2 ⟨b1,0,none⟩ fun n3=>
 callBool P n_ref14_four #[(.int .i64 n3)] h2 fun b5 h4=>
 ldInt .i64 h4 ⟨b1,0,none⟩ fun n6=>
 callBool P n_ref14_weighs #[(.int .i64 n6)] h4 fun b8 h7=>
 ldInt .i64 h7 ⟨b1,3,none⟩ fun n9=>
 callBool P n_ref14_in #[(.int .i64 n9),(.int .i64 1),(.int .i64 8)] h7 fun b11 h10=>
 ∃J12:(Int×Addr×Bool×Bool×Unit)→Heap→Prop,(∀s h,J12 s h→ref14_sized_j6 Q s.1 s.2.1 s.2.2.1 s.2.2.2.1 h)∧
 ifB b5 (
 ifB (!b11) (
 Q (.bool false) h10) (
 J12 (y1,⟨b1,0,none⟩,b5,b8,()) h10)) (
 ldInt .i64 h10 ⟨b1,0,none⟩ fun n72=>
 ifB (n72==12) (
 ifB (!b11) (
 Q (.bool false) h10) (
 J12 (y1,⟨b1,0,none⟩,b5,b8,()) h10)) (
 J12 (y1,⟨b1,0,none⟩,b5,b8,()) h10))
noncomputable def tab_ref14_sized:Tab:=tb (lookT .done [(10,(ones [0,1,2] (.alt 3 (ones [4,5,6] (.early 7 (.alt 8 (.alt 9 (ones [10,11,12,13] (.alt 14 (ones [15,16,17,18,20] (.early 19 (.alt 21 (ones [22,23,24] .done) .stop))) .stop)) .stop) .stop))) .stop))),(21,(ones [0,4,3] (.early 1 (ones [2] (.alt 5 (ones [6,7,8,11,9,10,12,13,14,15,16,17,18,19,20,21] .done) .stop)))))]) (lookT [] []) (lookT none [(6,some [(1,I6),(2,.sc (.adr)),(5,BO),(6,BO)]),(10,some [(1,I6),(2,.sc (.adr)),(5,BO),(6,BO)]),(12,some [(1,I6),(2,.sc (.adr)),(6,BO)]),(15,some [(1,I6),(2,.sc (.adr)),(6,BO)]),(19,some [(1,I6),(2,.sc (.adr)),(11,I6)]),(23,some [(2,.sc (.adr))])])
theorem call_ref14_sized (y0:TS A2) (y1:Int) {h:Heap} {Q:VH} (H:ref14_sized y0 y1 h Q):callP P n_ref14_sized #[(agS A2 y0),(.int .i64 y1)] h Q:=
 @callP_of P n_ref14_sized Tryz.f40 tab_ref14_sized [(agS A2 y0),(.int .i64 y1)] h Q mixed Tryz.func40 Tryz.call40 (by kernel_rfl) (Eq.mpr (by kernel_rfl) H)
def ref14_Check_l19 (Q:VH) (K1:(S3×Addr×Int×Int×Unit)→Heap→Prop) (y1p:OA) (y1n y1c:Nat) (y2:Addr) (y11 y12:Int) (h28:Heap):Prop:=
 ifB (decide (y12<(y1n:Int))) (
 idxI y1p y12 y1n fun a29=>
 ldInt .i64 h28 (a29.add (y12.toNat*1)) fun n30=>
 ldInt .i64 h28 y2 fun n31=>
 ifB (n31==7) (
 idxI y1p y12 y1n fun a32=>
 idxI y1p 0 y1n fun a33=>
 ldInt .i64 h28 (a32.add (y12.toNat*1)) fun n34=>
 ldInt .i64 h28 (a33.add ((0:Int).toNat*1)) fun n35=>
 ifB (n34 !=n35) (
 Q (.int .i64 14) h28) (
 K1 ((y1p,y1n,y1c),y2,(IntKind.wrap .i64 (y11+n30)),(IntKind.wrap .i64 (y12+1)),()) h28)) (
 K1 ((y1p,y1n,y1c),y2,(IntKind.wrap .i64 (y11+n30)),(IntKind.wrap .i64 (y12+1)),()) h28)) (
 ldInt .i64 h28 y2 fun n36=>
 ifB (n36==8) (
 ifB (decide (y11>16)) (
 Q (.int .i64 14) h28) (
 Q (.int .i64 0) h28)) (
 Q (.int .i64 0) h28))
def ref14_Check_j11 (Q:VH) (y1p:OA) (y1n y1c:Nat) (y2:Addr) (h19:Heap):Prop:=
 ldAg A2 h19 y2 fun x20=>
 callBool P n_ref14_else0 #[(agS A2 x20)] h19 fun b22 h21=>
 ifB (!b22) (
 Q (.int .i64 12) h21) (
 idxI y1p 0 y1n fun a23=>
 ldAg A2 h21 y2 fun x24=>
 ldInt .i64 h21 (a23.add ((0:Int).toNat*1)) fun n25=>
 callBool P n_ref14_sized #[(agS A2 x24),(.int .i64 n25)] h21 fun b27 h26=>
 ifB (!b27) (
 Q (.int .i64 22) h26) (
 LoopS (S:=(S3×Addr×Int×Int×Unit)) (fun K1 s h=>ref14_Check_l19 Q K1 s.1.1 s.1.2.1 s.1.2.2 s.2.1 s.2.2.1 s.2.2.2.1 h) ((y1p,y1n,y1c),y2,(0:Int),(0:Int),()) h26))
def ref14_Check_j9 (Q:VH) (y1p:OA) (y1n y1c:Nat) (y2:Addr) (y8:Bool) (h17:Heap):Prop:=
 ∃J18:(S3×Addr×Unit)→Heap→Prop,(∀s h,J18 s h→ref14_Check_j11 Q s.1.1 s.1.2.1 s.1.2.2 s.2.1 h)∧
 ldInt .i64 h17 (y2.add 14) fun n37=>
 ifB (decide (n37<0)) (
 Q (.int .i64 12) h17) (
 ldInt .i64 h17 (y2.add 14) fun n38=>
 ifB (decide (n38>3)) (
 Q (.int .i64 12) h17) (
 ldInt .i64 h17 (y2.add 14) fun n39=>
 ifB (n39 !=0) (
 ifB (!y8) (
 Q (.int .i64 12) h17) (
 J18 ((y1p,y1n,y1c),y2,()) h17)) (
 J18 ((y1p,y1n,y1c),y2,()) h17)))
def ref14_Check_j4 (Q:VH) (y1p:OA) (y1n y1c:Nat) (y2:Addr) (h6:Heap):Prop:=
 ldInt .i64 h6 y2 fun n7=>
 callBool P n_ref14_in #[(.int .i64 n7),(.int .i64 1),(.int .i64 12)] h6 fun b9 h8=>
 ldInt .i64 h8 y2 fun n10=>
 callBool P n_ref14_Many #[(.int .i64 n10)] h8 fun b12 h11=>
 ldInt .i64 h11 y2 fun n13=>
 callBool P n_ref14_weighs #[(.int .i64 n13)] h11 fun b15 h14=>
 ∃J16:(S3×Addr×Bool×Unit)→Heap→Prop,(∀s h,J16 s h→ref14_Check_j9 Q s.1.1 s.1.2.1 s.1.2.2 s.2.1 s.2.2.1 h)∧
 ifB (!b9) (
 Q (.int .i64 12) h14) (
 ifB b12 (
 ifB (decide ((y1n:Int)<2)) (
 Q (.int .i64 12) h14) (
 ifB (decide ((y1n:Int)>4)) (
 Q (.int .i64 12) h14) (
 ifB (!b12) (
 ifB ((y1n:Int) !=1) (
 Q (.int .i64 12) h14) (
 J16 ((y1p,y1n,y1c),y2,b15,()) h14)) (
 J16 ((y1p,y1n,y1c),y2,b15,()) h14)))) (
 ifB (!b12) (
 ifB ((y1n:Int) !=1) (
 Q (.int .i64 12) h14) (
 J16 ((y1p,y1n,y1c),y2,b15,()) h14)) (
 J16 ((y1p,y1n,y1c),y2,b15,()) h14)))
def ref14_Check (y0:TS A2) (y1p:OA) (y1n y1c:Nat) (h:Heap) (Q:VH):Prop:=
 newI h (.cells (mkS' A2 y0).toArray 40 (0,0)) fun b1 h2=>
 callBool P n_ref14_all #[(.slice y1p y1n y1c),(.int .i64 1),(.int .i64 16)] h2 fun b4 h3=>
 ∃J5:(S3×Addr×Unit)→Heap→Prop,(∀s h,J5 s h→ref14_Check_j4 Q s.1.1 s.1.2.1 s.1.2.2 s.2.1 h)∧
 ldSlice h3 ⟨b1,1,none⟩ fun p40 l40 c40=>
 ifB ((y1n:Int) !=(l40:Int)) (
 Q (.int .i64 1) h3) (
 ifB (!b4) (
 Q (.int .i64 1) h3) (
 J5 ((y1p,y1n,y1c),⟨b1,0,none⟩,()) h3))
noncomputable def tab_ref14_Check:Tab:=tb (lookT .done [(14,(ones [1,2,0,3] (.alt 4 (ones [5] .done) .stop))),(22,(ones [0,1,2,3,4,5,6,8,9,7,10,11,12] .done))]) (lookT [] [(19,[(1,SL),(2,.sc (.adr)),(11,I6),(12,I6)])]) (lookT none [(4,some [(1,SL),(2,.sc (.adr))]),(9,some [(1,SL),(2,.sc (.adr)),(8,BO)]),(11,some [(1,SL),(2,.sc (.adr))])])
theorem call_ref14_Check (y0:TS A2) (y1p:OA) (y1n y1c:Nat) {h:Heap} {Q:VH} (H:ref14_Check y0 y1p y1n y1c h Q):callP P n_ref14_Check #[(agS A2 y0),(.slice y1p y1n y1c)] h Q:=
 @callP_of P n_ref14_Check Tryz.f19 tab_ref14_Check [(agS A2 y0),(.slice y1p y1n y1c)] h Q mixed Tryz.func19 Tryz.call19 (by kernel_rfl) (Eq.mpr (by kernel_rfl) H)
def ref14_Width_l11 (Q:VH) (K1:(S3×Int×Int×Unit)→Heap→Prop) (y1p:OA) (y1n y1c:Nat) (y5 y6:Int) (h12:Heap):Prop:=
 ifB (decide (y6<(y1n:Int))) (
 idxI y1p y6 y1n fun a13=>
 ldInt .i64 h12 (a13.add (y6.toNat*1)) fun n14=>
 K1 ((y1p,y1n,y1c),(IntKind.wrap .i64 (y5+n14)),(IntKind.wrap .i64 (y6+1)),()) h12) (
 Q (.int .i64 y5) h12)
def ref14_Width_j5 (Q:VH) (y1p:OA) (y1n y1c:Nat) (y2:Addr) (h7:Heap):Prop:=
 ldInt .i64 h7 y2 fun n8=>
 ifB (n8==11) (
 Q (.int .i64 1) h7) (
 ldInt .i64 h7 y2 fun n9=>
 ifB (n9 !=8) (
 idxI y1p 0 y1n fun a10=>
 ldInt .i64 h7 (a10.add ((0:Int).toNat*1)) fun n11=>
 Q (.int .i64 n11) h7) (
 LoopS (S:=(S3×Int×Int×Unit)) (fun K1 s h=>ref14_Width_l11 Q K1 s.1.1 s.1.2.1 s.1.2.2 s.2.1 s.2.2.1 h) ((y1p,y1n,y1c),(0:Int),(0:Int),()) h7))
def ref14_Width (y0:TS A2) (y1p:OA) (y1n y1c:Nat) (h:Heap) (Q:VH):Prop:=
 newI h (.cells (mkS' A2 y0).toArray 40 (0,0)) fun b1 h2=>
 ldAg A2 h2 ⟨b1,0,none⟩ fun x3=>
 callInt P .i64 n_ref14_Check #[(agS A2 x3),(.slice y1p y1n y1c)] h2 fun n5 h4=>
 ifB (n5 !=0) (
 Q (.int .i64 0) h4) (
 ∃J6:(S3×Addr×Unit)→Heap→Prop,(∀s h,J6 s h→ref14_Width_j5 Q s.1.1 s.1.2.1 s.1.2.2 s.2.1 h)∧
 ldInt .i64 h4 ⟨b1,0,none⟩ fun n15=>
 ifB (n15==1) (
 ldInt .i64 h4 ⟨b1,2,none⟩ fun n16=>
 Q (.int .i64 n16) h4) (
 ldInt .i64 h4 ⟨b1,0,none⟩ fun n17=>
 ifB (n17==6) (
 ldInt .i64 h4 ⟨b1,2,none⟩ fun n18=>
 Q (.int .i64 n18) h4) (
 J6 ((y1p,y1n,y1c),⟨b1,0,none⟩,()) h4)))
noncomputable def tab_ref14_Width:Tab:=tb (lookT .done []) (lookT [] [(11,[(1,SL),(5,I6),(6,I6)])]) (lookT none [(5,some [(1,SL),(2,.sc (.adr))])])
theorem call_ref14_Width (y0:TS A2) (y1p:OA) (y1n y1c:Nat) {h:Heap} {Q:VH} (H:ref14_Width y0 y1p y1n y1c h Q):callP P n_ref14_Width #[(agS A2 y0),(.slice y1p y1n y1c)] h Q:=
 @callP_of P n_ref14_Width Tryz.f20 tab_ref14_Width [(agS A2 y0),(.slice y1p y1n y1c)] h Q mixed Tryz.func20 Tryz.call20 (by kernel_rfl) (Eq.mpr (by kernel_rfl) H)
def ref14_Step (y0:TS A2) (h:Heap) (Q:VH):Prop:=
 newI h (.cells (mkS' A2 y0).toArray 40 (0,0)) fun b1 h2=>
 ldInt .i64 h2 ⟨b1,0,none⟩ fun n3=>
 callBool P n_ref14_four #[(.int .i64 n3)] h2 fun b5 h4=>
 ifB b5 (
 ldInt .i64 h4 ⟨b1,4,none⟩ fun n6=>
 Q (.int .i64 n6) h4) (
 Q (.int .i64 1) h4)
noncomputable def tab_ref14_Step:Tab:=tb (lookT .done []) (lookT [] []) (lookT none [])
theorem call_ref14_Step (y0:TS A2) {h:Heap} {Q:VH} (H:ref14_Step y0 h Q):callP P n_ref14_Step #[(agS A2 y0)] h Q:=
 @callP_of P n_ref14_Step Tryz.f42 tab_ref14_Step [(agS A2 y0)] h Q mixed Tryz.func42 Tryz.call42 (by kernel_rfl) (Eq.mpr (by kernel_rfl) H)
def ref15_rate_l3 (Q:VH) (K1:(S3×Addr×Int×Int×Unit)→Heap→Prop) (y1p:OA) (y1n y1c:Nat) (y2:Addr) (y5 y6:Int) (h5:Heap):Prop:=
 ifB (decide (y6<(y1n:Int))) (
 idxI y1p y6 y1n fun a6=>
 ldInt .i64 h5 (a6.add (y6.toNat*1)) fun n7=>
 ifB (n7 !=y5) (
 Q (.int .i64 (-1:Int)) h5) (
 K1 ((y1p,y1n,y1c),y2,y5,(IntKind.wrap .i64 (y6+1)),()) h5)) (
 ldInt .i64 h5 y2 fun n8=>
 callBool P n_ref14_Windows #[(.int .i64 n8)] h5 fun b10 h9=>
 ifB (y5==0) (
 ifB b10 (
 Q (.int .i64 (-1:Int)) h9) (
 ldInt .i64 h9 y2 fun n11=>
 ifB (n11==5) (
 Q (.int .i64 (-1:Int)) h9) (
 ldInt .i64 h9 y2 fun n12=>
 ifB (n12==5) (
 Q (.int .i64 0) h9) (
 ldAg A2 h9 y2 fun x13=>
 callInt P .i64 n_ref14_Step #[(agS A2 x13)] h9 fun n15 h14=>
 Q (.int .i64 (IntKind.wrap .i64 (y5*n15))) h14)))) (
 ldInt .i64 h9 y2 fun n16=>
 ifB (n16==5) (
 Q (.int .i64 0) h9) (
 ldAg A2 h9 y2 fun x17=>
 callInt P .i64 n_ref14_Step #[(agS A2 x17)] h9 fun n19 h18=>
 Q (.int .i64 (IntKind.wrap .i64 (y5*n19))) h18)))
def ref15_rate (y0:TS A2) (y1p:OA) (y1n y1c:Nat) (h:Heap) (Q:VH):Prop:=
 newI h (.cells (mkS' A2 y0).toArray 40 (0,0)) fun b1 h2=>
 idxI y1p 0 y1n fun a3=>
 ldInt .i64 h2 (a3.add ((0:Int).toNat*1)) fun n4=>
 LoopS (S:=(S3×Addr×Int×Int×Unit)) (fun K1 s h=>ref15_rate_l3 Q K1 s.1.1 s.1.2.1 s.1.2.2 s.2.1 s.2.2.1 s.2.2.2.1 h) ((y1p,y1n,y1c),⟨b1,0,none⟩,n4,(0:Int),()) h2
noncomputable def tab_ref15_rate:Tab:=tb (lookT .done []) (lookT [] [(3,[(1,SL),(2,.sc (.adr)),(5,I6),(6,I6)])]) (lookT none [])
theorem call_ref15_rate (y0:TS A2) (y1p:OA) (y1n y1c:Nat) {h:Heap} {Q:VH} (H:ref15_rate y0 y1p y1n y1c h Q):callP P n_ref15_rate #[(agS A2 y0),(.slice y1p y1n y1c)] h Q:=
 @callP_of P n_ref15_rate Tryz.f47 tab_ref15_rate [(agS A2 y0),(.slice y1p y1n y1c)] h Q mixed Tryz.func47 Tryz.call47 (by kernel_rfl) (Eq.mpr (by kernel_rfl) H)
def ref15_turned_l9 (Q:VH) (K1:(Addr×Addr×Int×Addr×Int×Unit)→Heap→Prop) (K2:YH Y22) (y1 t2:Addr) (y3:Int) (y4:Addr) (y5:Int) (y6:Addr) (y7p:OA) (y7n y7c:Nat) (y8:Int) (h25:Heap):Prop:=
 ifB (decide (y8<(y7n:Int))) (
 idxI y7p y8 y7n fun a26=>
 ldInt .i64 h25 (a26.add (y8.toNat*1)) fun n27=>
 ifB (decide (n27>0)) (
 idxI y7p y8 y7n fun a28=>
 ldInt .i64 h25 (a28.add (y8.toNat*1)) fun n29=>
 idxI y7p y8 y7n fun a30=>
 stI h25 (a30.add (y8.toNat*1)) (.int .i64 (IntKind.wrap .i64 ((IntKind.wrap .i64 (y3+1))-n29))) fun h31=>
 K2 (y1,t2,y3,y4,y5,y6,(y7p,y7n,y7c),(IntKind.wrap .i64 (y8+1)),()) h31) (
 K2 (y1,t2,y3,y4,y5,y6,(y7p,y7n,y7c),(IntKind.wrap .i64 (y8+1)),()) h25)) (
 stI h25 (y6.add 1) (.slice y7p y7n y7c) fun h32=>
 ldSlice h32 (y4.add 3) fun p33 l33 c33=>
 ldAg A2 h32 y6 fun x34=>
 newI h32 (.cells (mkS' A2 x34).toArray 40 (0,0)) fun b35 h36=>
 appI 40 15 168 (agS A2 (zT A2)) p33 l33 c33 (some ⟨b35,0,none⟩) 1 h36 fun p37 l37 c37 h38=>
 stI h38 (y4.add 3) (.slice p37 l37 c37) fun h39=>
 K1 (y1,t2,y3,y4,(IntKind.wrap .i64 (y5-1)),()) h39)
def ref15_turned_l4 (Q:VH) (K1:(Addr×Addr×Int×Addr×Int×Unit)→Heap→Prop) (y1 t2:Addr) (y3:Int) (y4:Addr) (y5:Int) (h13:Heap):Prop:=
 ifB (decide (y5≥1)) (
 ldSlice h13 (y1.add 3) fun p14 l14 c14=>
 idxI p14 (IntKind.wrap .i64 (y5-1)) l14 fun a15=>
 ldAg A2 h13 (a15.add ((IntKind.wrap .i64 (y5-1)).toNat*15)) fun x16=>
 newI h13 (.cells (mkS' A2 (zT A2)).toArray 40 (0,0)) fun b17 h18=>
 storeL (mkS' A2 x16) h18 ⟨b17,0,none⟩ 0 fun h19=>
 newI h19 (.cells #[] 3 (0,0)) fun b20 h21=>
 ldSlice h21 ⟨b17,1,none⟩ fun p22 l22 c22=>
 appI 3 1 8 (.int .i64 0) (some ⟨b20,0,none⟩) 0 0 p22 l22 h21 fun p23 l23 c23 h24=>
 LoopS (S:=Y22) (fun K2 s h=>ref15_turned_l9 Q K1 K2 s.1 s.2.1 s.2.2.1 s.2.2.2.1 s.2.2.2.2.1 s.2.2.2.2.2.1 s.2.2.2.2.2.2.1.1 s.2.2.2.2.2.2.1.2.1 s.2.2.2.2.2.2.1.2.2 s.2.2.2.2.2.2.2.1 h) (y1,t2,y3,y4,y5,⟨b17,0,none⟩,(p23,l23,c23),(0:Int),()) h24) (
 ldAg A1 h13 y4 fun x40=>
 storeL (mkS' A1 x40) h13 t2 0 fun h41=>
 ldAg A1 h41 t2 fun x42=>
 Q (agS A1 x42) h41)
def ref15_turned (y0:TS A1) (h:Heap) (Q:VH):Prop:=
 newI h (.cells (mkS' A1 y0).toArray 26 (0,0)) fun b1 h2=>
 newI h2 (.cells (mkS' A1 (zT A1)).toArray 26 (0,0)) fun b3 h4=>
 ldSlice h4 ⟨b1,3,none⟩ fun p5 l5 c5=>
 ldInt .i64 h4 ⟨b1,0,none⟩ fun n6=>
 ldInt .i64 h4 ⟨b1,1,none⟩ fun n7=>
 ldInt .i64 h4 ⟨b1,2,none⟩ fun n8=>
 ldInt .i64 h4 ⟨b1,4,none⟩ fun n9=>
 newI h4 (.cells (mkS' A1 (zT A1)).toArray 26 (0,0)) fun b10 h11=>
 storeL [(.int .i64 n6),(.int .i64 n7),(.int .i64 n8),(.slice none 0 0),(.int .i64 (IntKind.wrap .i64 ((IntKind.wrap .i64 ((l5:Int)+1))-n9)))] h11 ⟨b10,0,none⟩ 0 fun h12=>
 LoopS (S:=(Addr×Addr×Int×Addr×Int×Unit)) (fun K1 s h=>ref15_turned_l4 Q K1 s.1 s.2.1 s.2.2.1 s.2.2.2.1 s.2.2.2.2.1 h) (⟨b1,0,none⟩,⟨b3,0,none⟩,(l5:Int),⟨b10,0,none⟩,(l5:Int),()) h12
noncomputable def tab_ref15_turned:Tab:=tb (lookT .done []) (lookT [] [(4,[(1,.sc (.adr)),(2,.sc (.adr)),(3,I6),(4,.sc (.adr)),(5,I6)]),(9,[(1,.sc (.adr)),(2,.sc (.adr)),(3,I6),(4,.sc (.adr)),(5,I6),(6,.sc (.adr)),(7,SL),(8,I6)])]) (lookT none [])
theorem call_ref15_turned (y0:TS A1) {h:Heap} {Q:VH} (H:ref15_turned y0 h Q):callP P n_ref15_turned #[(agS A1 y0)] h Q:=
 @callP_of P n_ref15_turned Tryz.f48 tab_ref15_turned [(agS A1 y0)] h Q mixed Tryz.func48 Tryz.call48 (by kernel_rfl) (Eq.mpr (by kernel_rfl) H)
def ref15_Made_j23 (Q:VH) (K1:YH Y23) (t2 y3 y4:Addr) (y5:Bool) (y6:Int) (y7p:OA) (y7n y7c:Nat) (y8p:OA) (y8n y8c:Nat) (y9 y10:Int) (y11p:OA) (y11n y11c:Nat) (y12p:OA) (y12n y12c:Nat) (h39:Heap):Prop:=
 idxI y8p y10 y8n fun a40=>
 ldInt .i64 h39 (a40.add (y10.toNat*1)) fun n41=>
 callP P n_ref14_Made #[(.pointer (some y3)),(.slice y11p y11n y11c),(.slice y12p y12n y12c),(.bool (n41==0))] h39 fun v43 h42=>
 exS A2 fun x44=>v43=(agS A2 x44)∧
 newI h42 (.cells (mkS' A2 (zT A2)).toArray 40 (0,0)) fun b45 h46=>
 storeL (mkS' A2 x44) h46 ⟨b45,0,none⟩ 0 fun h47=>
 ldSlice h47 (y4.add 3) fun p48 l48 c48=>
 ldAg A2 h47 ⟨b45,0,none⟩ fun x49=>
 newI h47 (.cells (mkS' A2 x49).toArray 40 (0,0)) fun b50 h51=>
 appI 40 15 168 (agS A2 (zT A2)) p48 l48 c48 (some ⟨b50,0,none⟩) 1 h51 fun p52 l52 c52 h53=>
 stI h53 (y4.add 3) (.slice p52 l52 c52) fun h54=>
 ldAg A2 h54 ⟨b45,0,none⟩ fun x55=>
 ldSlice h54 ⟨b45,1,none⟩ fun p56 l56 c56=>
 bndI (l56:Int) y12c fun l57=>
 callInt P .i64 n_ref14_Width #[(agS A2 x55),(.slice (if y12c=0 then y12p else Option.map (fun a=>a.add (0*1)) y12p) (l57-0) (y12c-0))] h54 fun n59 h58=>
 newI h58 (.cells #[(.int .i64 n59)] 3 (0,0)) fun b60 h61=>
 appI 3 1 8 (.int .i64 0) y7p y7n y7c (some ⟨b60,0,none⟩) 1 h61 fun p62 l62 c62 h63=>
 holdW (watchL 0 ⟨b45,0,none⟩ (mkS' A2 x55) 0) h63 (
 idxI y8p y10 y8n fun a64=>
 ldAg A2 h63 ⟨b45,0,none⟩ fun x65=>
 ldInt .i64 h63 (a64.add (y10.toNat*1)) fun n66=>
 newI h63 (.cells #[(.int .i64 n66)] 3 (0,0)) fun b67 h68=>
 callInt P .i64 n_ref15_rate #[(agS A2 x65),(.slice (some ⟨b67,0,none⟩) 1 1)] h68 fun n70 h69=>
 newI h69 (.cells #[(.int .i64 n70)] 3 (0,0)) fun b71 h72=>
 appI 3 1 8 (.int .i64 0) y8p y8n y8c (some ⟨b71,0,none⟩) 1 h72 fun p73 l73 c73 h74=>
 holdW (watchL 0 ⟨b45,0,none⟩ (mkS' A2 x65) 0) h74 (
 K1 (t2,y3,y4,y5,y6,(p62,l62,c62),(p73,l73,c73),(IntKind.wrap .i64 (y9+1)),()) h74))
def ref15_Made_j17 (Q:VH) (K1:YH Y23) (t2 y3 y4:Addr) (y5:Bool) (y6:Int) (y7p:OA) (y7n y7c:Nat) (y8p:OA) (y8n y8c:Nat) (y9 y10:Int) (h29:Heap):Prop:=
 newI h29 (.cells #[(.int .i64 y10)] 3 (0,0)) fun b30 h31=>
 idxI y7p y10 y7n fun a32=>
 ldInt .i64 h31 (a32.add (y10.toNat*1)) fun n33=>
 newI h31 (.cells #[(.int .i64 n33)] 3 (0,0)) fun b34 h35=>
 callInt P .i64 n_ref14_Row_Next #[(.pointer (some y3)),(.int .i64 y9)] h35 fun n37 h36=>
 ∃J38:YH Y25,(∀s h,J38 s h→ref15_Made_j23 Q K1 s.1 s.2.1 s.2.2.1 s.2.2.2.1 s.2.2.2.2.1 s.2.2.2.2.2.1.1 s.2.2.2.2.2.1.2.1 s.2.2.2.2.2.1.2.2 s.2.2.2.2.2.2.1.1 s.2.2.2.2.2.2.1.2.1 s.2.2.2.2.2.2.1.2.2 s.2.2.2.2.2.2.2.1 s.2.2.2.2.2.2.2.2.1 s.2.2.2.2.2.2.2.2.2.1.1 s.2.2.2.2.2.2.2.2.2.1.2.1 s.2.2.2.2.2.2.2.2.2.1.2.2 s.2.2.2.2.2.2.2.2.2.2.1.1 s.2.2.2.2.2.2.2.2.2.2.1.2.1 s.2.2.2.2.2.2.2.2.2.2.1.2.2 h)∧
 callInt P .i64 n_ref14_Row_Next #[(.pointer (some y3)),(.int .i64 3)] h36 fun n76 h75=>
 ifB (n76==0) (
 idxI y8p n37 y8n fun a77=>
 idxI y8p y10 y8n fun a78=>
 ldInt .i64 h75 (a77.add (n37.toNat*1)) fun n79=>
 ldInt .i64 h75 (a78.add (y10.toNat*1)) fun n80=>
 ifB (n79==n80) (
 newI h75 (.cells #[(.int .i64 n37)] 3 (0,0)) fun b81 h82=>
 appI 3 1 8 (.int .i64 0) (some ⟨b30,0,none⟩) 1 1 (some ⟨b81,0,none⟩) 1 h82 fun p83 l83 c83 h84=>
 idxI y7p n37 y7n fun a85=>
 ldInt .i64 h84 (a85.add (n37.toNat*1)) fun n86=>
 newI h84 (.cells #[(.int .i64 n86)] 3 (0,0)) fun b87 h88=>
 appI 3 1 8 (.int .i64 0) (some ⟨b34,0,none⟩) 1 1 (some ⟨b87,0,none⟩) 1 h88 fun p89 l89 c89 h90=>
 J38 (t2,y3,y4,y5,y6,(y7p,y7n,y7c),(y8p,y8n,y8c),y9,y10,(p83,l83,c83),(p89,l89,c89),()) h90) (
 J38 (t2,y3,y4,y5,y6,(y7p,y7n,y7c),(y8p,y8n,y8c),y9,y10,(some ⟨b30,0,none⟩,1,1),(some ⟨b34,0,none⟩,1,1),()) h75)) (
 J38 (t2,y3,y4,y5,y6,(y7p,y7n,y7c),(y8p,y8n,y8c),y9,y10,(some ⟨b30,0,none⟩,1,1),(some ⟨b34,0,none⟩,1,1),()) h75)
def ref15_Made_l12 (Q:VH) (K1:YH Y23) (t2 y3 y4:Addr) (y5:Bool) (y6:Int) (y7p:OA) (y7n y7c:Nat) (y8p:OA) (y8n y8c:Nat) (y9:Int) (h27:Heap):Prop:=
 ifB (decide (y9≤y6)) (
 ∃J28:YH Y24,(∀s h,J28 s h→ref15_Made_j17 Q K1 s.1 s.2.1 s.2.2.1 s.2.2.2.1 s.2.2.2.2.1 s.2.2.2.2.2.1.1 s.2.2.2.2.2.1.2.1 s.2.2.2.2.2.1.2.2 s.2.2.2.2.2.2.1.1 s.2.2.2.2.2.2.1.2.1 s.2.2.2.2.2.2.1.2.2 s.2.2.2.2.2.2.2.1 s.2.2.2.2.2.2.2.2.1 h)∧
 callInt P .i64 n_ref14_Row_Next #[(.pointer (some y3)),(.int .i64 3)] h27 fun n92 h91=>
 ifB (n92==0) (
 callInt P .i64 n_ref14_Row_Next #[(.pointer (some y3)),(.int .i64 y9)] h91 fun n94 h93=>
 J28 (t2,y3,y4,y5,y6,(y7p,y7n,y7c),(y8p,y8n,y8c),y9,n94,()) h93) (
 J28 (t2,y3,y4,y5,y6,(y7p,y7n,y7c),(y8p,y8n,y8c),y9,(IntKind.wrap .i64 (y9-1)),()) h91)) (
 stI h27 (y4.add 4) (.int .i64 y6) fun h95=>
 callInt P .i64 n_ref14_Row_Next #[(.pointer (some y3)),(.int .i64 5)] h95 fun n97 h96=>
 ifB (n97==0) (
 callInt P .i64 n_ref14_Row_Next #[(.pointer (some y3)),(.int .i64 y6)] h96 fun n99 h98=>
 stI h98 (y4.add 4) (.int .i64 (IntKind.wrap .i64 ((1:Int)+n99))) fun h100=>
 ifB y5 (
 ldAg A1 h100 y4 fun x101=>
 callP P n_ref15_turned #[(agS A1 x101)] h100 fun v103 h102=>
 exS A1 fun x104=>v103=(agS A1 x104)∧
 storeL (mkS' A1 x104) h102 t2 0 fun h105=>
 ldAg A1 h105 t2 fun x106=>
 Q (agS A1 x106) h105) (
 ldAg A1 h100 y4 fun x107=>
 storeL (mkS' A1 x107) h100 t2 0 fun h108=>
 ldAg A1 h108 t2 fun x109=>
 Q (agS A1 x109) h108)) (
 ifB y5 (
 ldAg A1 h96 y4 fun x110=>
 callP P n_ref15_turned #[(agS A1 x110)] h96 fun v112 h111=>
 exS A1 fun x113=>v112=(agS A1 x113)∧
 storeL (mkS' A1 x113) h111 t2 0 fun h114=>
 ldAg A1 h114 t2 fun x115=>
 Q (agS A1 x115) h114) (
 ldAg A1 h96 y4 fun x116=>
 storeL (mkS' A1 x116) h96 t2 0 fun h117=>
 ldAg A1 h117 t2 fun x118=>
 Q (agS A1 x118) h117)))
def ref15_Made_j3 (Q:VH) (y0p:OA) (y0n y0c:Nat) (t2:Addr) (h4:Heap):Prop:=
 newI h4 (.cells #[(.slice y0p y0n y0c),(.int .i64 0)] 80 (0,0)) fun b5 h6=>
 callInt P .i64 n_ref14_Row_Next #[(.pointer (some ⟨b5,0,none⟩)),(.int .i64 3)] h6 fun n8 h7=>
 newI h7 (.cells (mkS' A1 (zT A1)).toArray 26 (0,0)) fun b9 h10=>
 storeL [(.int .i64 (IntKind.wrap .i64 ((1:Int)+n8))),(.int .i64 0),(.int .i64 0),(.slice none 0 0),(.int .i64 0)] h10 ⟨b9,0,none⟩ 0 fun h11=>
 callInt P .i64 n_ref14_Row_Next #[(.pointer (some ⟨b5,0,none⟩)),(.int .i64 200)] h11 fun n13 h12=>
 stI h12 ⟨b9,1,none⟩ (.int .i64 (IntKind.wrap .i64 ((0:Int)-n13))) fun h14=>
 callInt P .i64 n_ref14_Row_Next #[(.pointer (some ⟨b5,0,none⟩)),(.int .i64 200)] h14 fun n16 h15=>
 stI h15 ⟨b9,2,none⟩ (.int .i64 n16) fun h17=>
 callInt P .i64 n_ref14_Row_Next #[(.pointer (some ⟨b5,0,none⟩)),(.int .i64 2)] h17 fun n19 h18=>
 callInt P .i64 n_ref14_Row_Next #[(.pointer (some ⟨b5,0,none⟩)),(.int .i64 6)] h18 fun n21 h20=>
 ldInt .i64 h20 ⟨b9,0,none⟩ fun n22=>
 newI h20 (.cells #[(.int .i64 n22)] 3 (0,0)) fun b23 h24=>
 newI h24 (.cells #[(.int .i64 1)] 3 (0,0)) fun b25 h26=>
 LoopS (S:=Y23) (fun K1 s h=>ref15_Made_l12 Q K1 s.1 s.2.1 s.2.2.1 s.2.2.2.1 s.2.2.2.2.1 s.2.2.2.2.2.1.1 s.2.2.2.2.2.1.2.1 s.2.2.2.2.2.1.2.2 s.2.2.2.2.2.2.1.1 s.2.2.2.2.2.2.1.2.1 s.2.2.2.2.2.2.1.2.2 s.2.2.2.2.2.2.2.1 h) (t2,⟨b5,0,none⟩,⟨b9,0,none⟩,(n19==1),(IntKind.wrap .i64 ((1:Int)+n21)),(some ⟨b23,0,none⟩,1,1),(some ⟨b25,0,none⟩,1,1),(1:Int),()) h26
def ref15_Made (y0p:OA) (y0n y0c:Nat) (h:Heap) (Q:VH):Prop:=
 newI h (.cells (mkS' A1 (zT A1)).toArray 26 (0,0)) fun b1 h2=>
 ∃J3:(S3×Addr×Unit)→Heap→Prop,(∀s h,J3 s h→ref15_Made_j3 Q s.1.1 s.1.2.1 s.1.2.2 s.2.1 h)∧
 ifB (decide ((y0n:Int)>240)) (
 bndI 240 y0c fun l119=>
 J3 (((if y0c=0 then y0p else Option.map (fun a=>a.add (0*1)) y0p),(l119-0),(y0c-0)),⟨b1,0,none⟩,()) h2) (
 J3 ((y0p,y0n,y0c),⟨b1,0,none⟩,()) h2)
noncomputable def tab_ref15_Made:Tab:=tb (lookT .done [(20,(ones [0] (.alt 1 (ones [2,3,4,5,6,8,9,10,7,11,12,13] .done) .stop))),(25,(ones [0,2,3] (.early 1 (.alt 4 (ones [5,6] (.alt 7 (.alt 8 (.alt 9 (ones [10] .done) .stop) .stop) .stop)) .stop)))),(26,(ones [0,2,3,4] (.early 1 (.alt 5 (.alt 6 (.alt 7 (.alt 8 (.alt 9 (ones [10] .done) .stop) .stop) .stop) .stop) .stop))))]) (lookT [] [(12,[(2,.sc (.adr)),(3,.sc (.adr)),(4,.sc (.adr)),(5,BO),(6,I6),(7,SL),(8,SL),(9,I6)])]) (lookT none [(3,some [(0,SL),(2,.sc (.adr))]),(17,some [(2,.sc (.adr)),(3,.sc (.adr)),(4,.sc (.adr)),(5,BO),(6,I6),(7,SL),(8,SL),(9,I6),(10,I6)]),(23,some [(2,.sc (.adr)),(3,.sc (.adr)),(4,.sc (.adr)),(5,BO),(6,I6),(7,SL),(8,SL),(9,I6),(10,I6),(11,SL),(12,SL)])])
theorem call_ref15_Made (y0p:OA) (y0n y0c:Nat) {h:Heap} {Q:VH} (H:ref15_Made y0p y0n y0c h Q):callP P n_ref15_Made #[(.slice y0p y0n y0c)] h Q:=
 @callP_of P n_ref15_Made Tryz.f24 tab_ref15_Made [(.slice y0p y0n y0c)] h Q mixed Tryz.func24 Tryz.call24 (by kernel_rfl) (Eq.mpr (by kernel_rfl) H)
def ref16_Made (y0p:OA) (y0n y0c:Nat) (h:Heap) (Q:VH):Prop:=
 newI h (.cells (mkS' A1 (zT A1)).toArray 26 (0,0)) fun b1 h2=>
 callP P n_ref15_Made #[(.slice y0p y0n y0c)] h2 fun v4 h3=>
 exS A1 fun x5=>v4=(agS A1 x5)∧
 storeL (mkS' A1 x5) h3 ⟨b1,0,none⟩ 0 fun h6=>
 ldAg A1 h6 ⟨b1,0,none⟩ fun x7=>
 Q (agS A1 x7) h6
noncomputable def tab_ref16_Made:Tab:=tb (lookT .done []) (lookT [] []) (lookT none [])
theorem call_ref16_Made (y0p:OA) (y0n y0c:Nat) {h:Heap} {Q:VH} (H:ref16_Made y0p y0n y0c h Q):callP P n_ref16_Made #[(.slice y0p y0n y0c)] h Q:=
 @callP_of P n_ref16_Made Tryz.f12 tab_ref16_Made [(.slice y0p y0n y0c)] h Q mixed Tryz.func12 Tryz.call12 (by kernel_rfl) (Eq.mpr (by kernel_rfl) H)
def ref21_Made_l4 (Q:VH) (K1:(Int×Addr×Addr×Int×Unit)→Heap→Prop) (y1:Int) (t4 y5:Addr) (y6:Int) (h15:Heap):Prop:=
 ifB (decide (y6<(andI .i64 (shrI y1 1) 3))) (
 ldInt .i64 h15 (y5.add 4) fun n16=>
 newI h15 (.cells #[(.int .i64 n16)] 3 (0,0)) fun b17 h18=>
 newI h18 (.cells (mkS' A2 (zT A2)).toArray 40 (0,0)) fun b19 h20=>
 storeL [(.int .i64 9),(.slice (some ⟨b17,0,none⟩) 1 1),(.int .i64 0),(.int .i64 0),(.int .i64 0),(.int .i64 0),(.int .i64 0),(.int .i64 0),(.slice none 0 0),(.slice none 0 0),(.int .i64 0),(.int .i64 0),(.int .i64 (-90:Int)),(.int .i64 700),(.int .i64 0)] h20 ⟨b19,0,none⟩ 0 fun h21=>
 nonnegI (IntKind.wrap .u64 (IntKind.wrap .i64 ((3:Int)+y6))) fun _=>
 ifB ((andI .i64 (shrI y1 (min (IntKind.wrap .u64 (IntKind.wrap .i64 ((3:Int)+y6))).toNat 64)) 1)==1) (
 ldInt .i64 h21 (y5.add 4) fun n22=>
 newI h21 (.cells #[(.int .i64 n22)] 3 (0,0)) fun b23 h24=>
 storeL [(.int .i64 10),(.slice (some ⟨b23,0,none⟩) 1 1),(.int .i64 0),(.int .i64 0),(.int .i64 0),(.int .i64 0),(.int .i64 0),(.int .i64 0),(.slice none 0 0),(.slice none 0 0),(.int .i64 21000),(.int .i64 14),(.int .i64 0),(.int .i64 0),(.int .i64 0)] h24 ⟨b19,0,none⟩ 0 fun h25=>
 ldSlice h25 (y5.add 3) fun p26 l26 c26=>
 ldAg A2 h25 ⟨b19,0,none⟩ fun x27=>
 newI h25 (.cells (mkS' A2 x27).toArray 40 (0,0)) fun b28 h29=>
 appI 40 15 168 (agS A2 (zT A2)) p26 l26 c26 (some ⟨b28,0,none⟩) 1 h29 fun p30 l30 c30 h31=>
 stI h31 (y5.add 3) (.slice p30 l30 c30) fun h32=>
 ldSlice h32 (y5.add 3) fun p33 l33 c33=>
 stI h32 (y5.add 4) (.int .i64 (l33:Int)) fun h34=>
 K1 (y1,t4,y5,(IntKind.wrap .i64 (y6+1)),()) h34) (
 ldSlice h21 (y5.add 3) fun p35 l35 c35=>
 ldAg A2 h21 ⟨b19,0,none⟩ fun x36=>
 newI h21 (.cells (mkS' A2 x36).toArray 40 (0,0)) fun b37 h38=>
 appI 40 15 168 (agS A2 (zT A2)) p35 l35 c35 (some ⟨b37,0,none⟩) 1 h38 fun p39 l39 c39 h40=>
 stI h40 (y5.add 3) (.slice p39 l39 c39) fun h41=>
 ldSlice h41 (y5.add 3) fun p42 l42 c42=>
 stI h41 (y5.add 4) (.int .i64 (l42:Int)) fun h43=>
 K1 (y1,t4,y5,(IntKind.wrap .i64 (y6+1)),()) h43)) (
 ifB ((andI .i64 y1 1)==1) (
 ldSlice h15 (y5.add 3) fun p44 l44 c44=>
 ldInt .i64 h15 (y5.add 4) fun n45=>
 newI h15 (.cells #[(.int .i64 n45)] 3 (0,0)) fun b46 h47=>
 newI h47 (.cells #[(.int .i64 11),(.slice (some ⟨b46,0,none⟩) 1 1),(.int .i64 0),(.int .i64 0),(.int .i64 0),(.int .i64 0),(.int .i64 0),(.int .i64 0),(.slice none 0 0),(.slice none 0 0),(.int .i64 0),(.int .i64 0),(.int .i64 0),(.int .i64 0),(.int .i64 0)] 40 (0,0)) fun b48 h49=>
 appI 40 15 168 (agS A2 (zT A2)) p44 l44 c44 (some ⟨b48,0,none⟩) 1 h49 fun p50 l50 c50 h51=>
 stI h51 (y5.add 3) (.slice p50 l50 c50) fun h52=>
 ldAg A1 h52 y5 fun x53=>
 storeL (mkS' A1 x53) h52 t4 0 fun h54=>
 ldAg A1 h54 t4 fun x55=>
 Q (agS A1 x55) h54) (
 ldAg A1 h15 y5 fun x56=>
 storeL (mkS' A1 x56) h15 t4 0 fun h57=>
 ldAg A1 h57 t4 fun x58=>
 Q (agS A1 x58) h57))
def ref21_Made (y0p:OA) (y0n y0c:Nat) (y1:Int) (h:Heap) (Q:VH):Prop:=
 newI h (.cells (mkS' A1 (zT A1)).toArray 26 (0,0)) fun b1 h2=>
 callP P n_ref16_Made #[(.slice y0p y0n y0c)] h2 fun v4 h3=>
 exS A1 fun x5=>v4=(agS A1 x5)∧
 newI h3 (.cells (mkS' A1 (zT A1)).toArray 26 (0,0)) fun b6 h7=>
 storeL (mkS' A1 x5) h7 ⟨b6,0,none⟩ 0 fun h8=>
 newI h8 (.cells #[] 40 (0,0)) fun b9 h10=>
 ldSlice h10 ⟨b6,3,none⟩ fun p11 l11 c11=>
 appI 40 15 168 (agS A2 (zT A2)) (some ⟨b9,0,none⟩) 0 0 p11 l11 h10 fun p12 l12 c12 h13=>
 stI h13 ⟨b6,3,none⟩ (.slice p12 l12 c12) fun h14=>
 LoopS (S:=(Int×Addr×Addr×Int×Unit)) (fun K1 s h=>ref21_Made_l4 Q K1 s.1 s.2.1 s.2.2.1 s.2.2.2.1 h) (y1,⟨b1,0,none⟩,⟨b6,0,none⟩,(0:Int),()) h14
noncomputable def tab_ref21_Made:Tab:=tb (lookT .done []) (lookT [] [(4,[(1,I6),(4,.sc (.adr)),(5,.sc (.adr)),(6,I6)])]) (lookT none [])
theorem call_ref21_Made (y0p:OA) (y0n y0c:Nat) (y1:Int) {h:Heap} {Q:VH} (H:ref21_Made y0p y0n y0c y1 h Q):callP P n_ref21_Made #[(.slice y0p y0n y0c),(.int .i64 y1)] h Q:=
 @callP_of P n_ref21_Made Tryz.f5 tab_ref21_Made [(.slice y0p y0n y0c),(.int .i64 y1)] h Q mixed Tryz.func5 Tryz.call5 (by kernel_rfl) (Eq.mpr (by kernel_rfl) H)
def ref18_Made_l7 (Q:VH) (K1:YH Y26) (K2:YH Y27) (y1:Int) (y2p:OA) (y2n y2c:Nat) (y3:Addr) (y7p:OA) (y7n y7c:Nat) (y8:Int) (y9p:OA) (y9n y9c:Nat) (y10:Int) (h7:Heap):Prop:=
 ldInt .i64 h7 y3 fun n8=>
 ifB (decide (y10<n8)) (
 ldInt .i64 h7 (y3.add 1) fun n9=>
 idxI y9p y10 y9n fun a10=>
 stI h7 (a10.add (y10.toNat*1)) (.int .i64 n9) fun h11=>
 ifB (decide ((y2n:Int)>0)) (
 ldInt .i64 h11 (y3.add 2) fun n12=>
 ldInt .i64 h11 (y3.add 1) fun n13=>
 ldInt .i64 h11 (y3.add 1) fun n14=>
 ldInt .i64 h11 y3 fun n15=>
 neI (y2n:Int) fun _=>
 idxI y2p (Int.tmod (IntKind.wrap .i64 ((IntKind.wrap .i64 (y8*n15))+y10)) (y2n:Int)) y2n fun a16=>
 ldInt .i64 h11 (a16.add ((Int.tmod (IntKind.wrap .i64 ((IntKind.wrap .i64 (y8*n15))+y10)) (y2n:Int)).toNat*1)) fun n17=>
 neI (IntKind.wrap .i64 ((IntKind.wrap .i64 (n12-n13))+1)) fun _=>
 neI (IntKind.wrap .i64 ((IntKind.wrap .i64 (n12-n13))+1)) fun _=>
 idxI y9p y10 y9n fun a18=>
 stI h11 (a18.add (y10.toNat*1)) (.int .i64 (IntKind.wrap .i64 (n14+(Int.tmod (IntKind.wrap .i64 ((IntKind.wrap .i64 ((Int.tmod n17 (IntKind.wrap .i64 ((IntKind.wrap .i64 (n12-n13))+1)))+(IntKind.wrap .i64 ((IntKind.wrap .i64 (n12-n13))+1))))+y8)) (IntKind.wrap .i64 ((IntKind.wrap .i64 (n12-n13))+1)))))) fun h19=>
 K2 (y1,(y2p,y2n,y2c),y3,(y7p,y7n,y7c),y8,(y9p,y9n,y9c),(IntKind.wrap .i64 (y10+1)),()) h19) (
 K2 (y1,(y2p,y2n,y2c),y3,(y7p,y7n,y7c),y8,(y9p,y9n,y9c),(IntKind.wrap .i64 (y10+1)),()) h11)) (
 newI h7 (.cells #[(.slice y9p y9n y9c)] 22 (0,0)) fun b20 h21=>
 appI 22 1 24 (.slice none 0 0) y7p y7n y7c (some ⟨b20,0,none⟩) 1 h21 fun p22 l22 c22 h23=>
 K1 (y1,(y2p,y2n,y2c),y3,(p22,l22,c22),(IntKind.wrap .i64 (y8+1)),()) h23)
def ref18_Made_l3 (Q:VH) (K1:YH Y26) (y1:Int) (y2p:OA) (y2n y2c:Nat) (y3:Addr) (y7p:OA) (y7n y7c:Nat) (y8:Int) (h3:Heap):Prop:=
 ifB (decide (y8<y1)) (
 ldInt .i64 h3 y3 fun n4=>
 mkI 3 1 8 (.int .i64 0) n4 n4 h3 fun b5 h6=>
 LoopS (S:=Y27) (fun K2 s h=>ref18_Made_l7 Q K1 K2 s.1 s.2.1.1 s.2.1.2.1 s.2.1.2.2 s.2.2.1 s.2.2.2.1.1 s.2.2.2.1.2.1 s.2.2.2.1.2.2 s.2.2.2.2.1 s.2.2.2.2.2.1.1 s.2.2.2.2.2.1.2.1 s.2.2.2.2.2.1.2.2 s.2.2.2.2.2.2.1 h) (y1,(y2p,y2n,y2c),y3,(y7p,y7n,y7c),y8,(some ⟨b5,0,none⟩,n4.toNat,n4.toNat),(0:Int),()) h6) (
 Q (.slice y7p y7n y7c) h3)
def ref18_Made (y0:TS A1) (y1:Int) (y2p:OA) (y2n y2c:Nat) (h:Heap) (Q:VH):Prop:=
 newI h (.cells (mkS' A1 y0).toArray 26 (0,0)) fun b1 h2=>
 LoopS (S:=Y26) (fun K1 s h=>ref18_Made_l3 Q K1 s.1 s.2.1.1 s.2.1.2.1 s.2.1.2.2 s.2.2.1 s.2.2.2.1.1 s.2.2.2.1.2.1 s.2.2.2.1.2.2 s.2.2.2.2.1 h) (y1,(y2p,y2n,y2c),⟨b1,0,none⟩,(none,0,0),(0:Int),()) h2
noncomputable def tab_ref18_Made:Tab:=tb (lookT .done [(12,(ones [0,1,2,4,5,6,9,11,12,16,18,20,22,3,7,8,10,13,14,15,17,19,21,23,24,25] (.alt 26 .done .stop)))]) (lookT [] [(3,[(1,I6),(2,SL),(3,.sc (.adr)),(7,SL),(8,I6)]),(7,[(1,I6),(2,SL),(3,.sc (.adr)),(7,SL),(8,I6),(9,SL),(10,I6)])]) (lookT none [])
theorem call_ref18_Made (y0:TS A1) (y1:Int) (y2p:OA) (y2n y2c:Nat) {h:Heap} {Q:VH} (H:ref18_Made y0 y1 y2p y2n y2c h Q):callP P n_ref18_Made #[(agS A1 y0),(.int .i64 y1),(.slice y2p y2n y2c)] h Q:=
 @callP_of P n_ref18_Made Tryz.f7 tab_ref18_Made [(agS A1 y0),(.int .i64 y1),(.slice y2p y2n y2c)] h Q mixed Tryz.func7 Tryz.call7 (by kernel_rfl) (Eq.mpr (by kernel_rfl) H)
def ref16_first_l10 (Q:VH) (K1:(Addr×Int×Int×Unit)→Heap→Prop) (K2:(Addr×Int×Int×Int×Unit)→Heap→Prop) (y1:Addr) (y3 y4 y5:Int) (h9:Heap):Prop:=
 ldSlice h9 (y1.add 3) fun p10 l10 c10=>
 idxI p10 y4 l10 fun a11=>
 ldSlice h9 (Addr.add (a11.add (y4.toNat*15)) 1) fun p12 l12 c12=>
 ifB (decide (y5<(l12:Int))) (
 ldSlice h9 (y1.add 3) fun p13 l13 c13=>
 idxI p13 y4 l13 fun a14=>
 ldSlice h9 (Addr.add (a14.add (y4.toNat*15)) 1) fun p15 l15 c15=>
 idxI p15 y5 l15 fun a16=>
 ldInt .i64 h9 (a16.add (y5.toNat*1)) fun n17=>
 ifB (decide (n17<0)) (
 Q (.int .i64 1) h9) (
 ldSlice h9 (y1.add 3) fun p18 l18 c18=>
 idxI p18 y4 l18 fun a19=>
 ldSlice h9 (Addr.add (a19.add (y4.toNat*15)) 1) fun p20 l20 c20=>
 idxI p20 y5 l20 fun a21=>
 ldInt .i64 h9 (a21.add (y5.toNat*1)) fun n22=>
 ifB (decide (n22>y3)) (
 Q (.int .i64 1) h9) (
 K2 (y1,y3,y4,(IntKind.wrap .i64 (y5+1)),()) h9))) (
 K1 (y1,y3,(IntKind.wrap .i64 (y4+1)),()) h9)
def ref16_first_l7 (Q:VH) (K1:(Addr×Int×Int×Unit)→Heap→Prop) (y1:Addr) (y3 y4:Int) (h8:Heap):Prop:=
 ifB (decide (y4<y3)) (
 LoopS (S:=(Addr×Int×Int×Int×Unit)) (fun K2 s h=>ref16_first_l10 Q K1 K2 s.1 s.2.1 s.2.2.1 s.2.2.2.1 h) (y1,y3,y4,(0:Int),()) h8) (
 Q (.int .i64 0) h8)
def ref16_first_j6 (Q:VH) (y1:Addr) (y3:Int) (h7:Heap):Prop:=
 LoopS (S:=(Addr×Int×Int×Unit)) (fun K1 s h=>ref16_first_l7 Q K1 s.1 s.2.1 s.2.2.1 h) (y1,y3,(0:Int),()) h7
def ref16_first_j4 (Q:VH) (y1:Addr) (y3:Int) (h5:Heap):Prop:=
 ∃J6:(Addr×Int×Unit)→Heap→Prop,(∀s h,J6 s h→ref16_first_j6 Q s.1 s.2.1 h)∧
 ldInt .i64 h5 y1 fun n23=>
 ifB (decide (n23<1)) (
 Q (.int .i64 1) h5) (
 ldInt .i64 h5 y1 fun n24=>
 ifB (decide (n24>16)) (
 Q (.int .i64 1) h5) (
 ldInt .i64 h5 (y1.add 1) fun n25=>
 ldInt .i64 h5 (y1.add 2) fun n26=>
 ifB (decide (n25>n26)) (
 Q (.int .i64 1) h5) (
 ldInt .i64 h5 (y1.add 1) fun n27=>
 ifB (decide (n27<(-32768:Int))) (
 Q (.int .i64 1) h5) (
 ldInt .i64 h5 (y1.add 2) fun n28=>
 ifB (decide (n28>32767)) (
 Q (.int .i64 1) h5) (
 ldInt .i64 h5 (y1.add 4) fun n29=>
 ifB (decide (n29<1)) (
 Q (.int .i64 1) h5) (
 ldInt .i64 h5 (y1.add 4) fun n30=>
 ifB (decide (n30>y3)) (
 Q (.int .i64 1) h5) (
 J6 (y1,y3,()) h5)))))))
def ref16_first (y0:TS A1) (h:Heap) (Q:VH):Prop:=
 newI h (.cells (mkS' A1 y0).toArray 26 (0,0)) fun b1 h2=>
 ldSlice h2 ⟨b1,3,none⟩ fun p3 l3 c3=>
 ∃J4:(Addr×Int×Unit)→Heap→Prop,(∀s h,J4 s h→ref16_first_j4 Q s.1 s.2.1 h)∧
 ifB (decide ((l3:Int)<1)) (
 Q (.int .i64 22) h2) (
 ifB (decide ((l3:Int)>12)) (
 Q (.int .i64 22) h2) (
 J4 (⟨b1,0,none⟩,(l3:Int),()) h2))
noncomputable def tab_ref16_first:Tab:=tb (lookT .done []) (lookT [] [(7,[(1,.sc (.adr)),(3,I6),(4,I6)]),(10,[(1,.sc (.adr)),(3,I6),(4,I6),(5,I6)])]) (lookT none [(4,some [(1,.sc (.adr)),(3,I6)]),(6,some [(1,.sc (.adr)),(3,I6)])])
theorem call_ref16_first (y0:TS A1) {h:Heap} {Q:VH} (H:ref16_first y0 h Q):callP P n_ref16_first #[(agS A1 y0)] h Q:=
 @callP_of P n_ref16_first Tryz.f17 tab_ref16_first [(agS A1 y0)] h Q mixed Tryz.func17 Tryz.call17 (by kernel_rfl) (Eq.mpr (by kernel_rfl) H)
def ref16_has_l2 (Q:VH) (K1:(S3×Int×Int×Unit)→Heap→Prop) (y0p:OA) (y0n y0c:Nat) (y1 y5:Int) (h1:Heap):Prop:=
 ifB (decide (y5<(y0n:Int))) (
 idxI y0p y5 y0n fun a2=>
 ldInt .i64 h1 (a2.add (y5.toNat*1)) fun n3=>
 ifB (n3==y1) (
 Q (.bool true) h1) (
 K1 ((y0p,y0n,y0c),y1,(IntKind.wrap .i64 (y5+1)),()) h1)) (
 Q (.bool false) h1)
def ref16_has (y0p:OA) (y0n y0c:Nat) (y1:Int) (h:Heap) (Q:VH):Prop:=
 LoopS (S:=(S3×Int×Int×Unit)) (fun K1 s h=>ref16_has_l2 Q K1 s.1.1 s.1.2.1 s.1.2.2 s.2.1 s.2.2.1 h) ((y0p,y0n,y0c),y1,(0:Int),()) h
noncomputable def tab_ref16_has:Tab:=tb (lookT .done []) (lookT [] [(2,[(0,SL),(1,I6),(5,I6)])]) (lookT none [])
theorem call_ref16_has (y0p:OA) (y0n y0c:Nat) (y1:Int) {h:Heap} {Q:VH} (H:ref16_has y0p y0n y0c y1 h Q):callP P n_ref16_has #[(.slice y0p y0n y0c),(.int .i64 y1)] h Q:=
 @callP_of P n_ref16_has Tryz.f34 tab_ref16_has [(.slice y0p y0n y0c),(.int .i64 y1)] h Q mixed Tryz.func34 Tryz.call34 (by kernel_rfl) (Eq.mpr (by kernel_rfl) H)
def ref16_order_l11 (Q:VH) (K1:(Addr×S3×Int×Unit)→Heap→Prop) (K2:(Addr×S3×Int×Int×Unit)→Heap→Prop) (K3:YH Y28) (y1:Addr) (y3p:OA) (y3n y3c:Nat) (y4 y5:Int) (y6:Bool) (y7p:OA) (y7n y7c:Nat) (y8:Int) (h14:Heap):Prop:=
 ifB (decide (y8<(y7n:Int))) (
 ifB y6 (
 idxI y7p y8 y7n fun a15=>
 ldInt .i64 h14 (a15.add (y8.toNat*1)) fun n16=>
 callBool P n_ref16_has #[(.slice y3p y3n y3c),(.int .i64 n16)] h14 fun b18 h17=>
 K3 (y1,(y3p,y3n,y3c),y4,y5,b18,(y7p,y7n,y7c),(IntKind.wrap .i64 (y8+1)),()) h17) (
 K3 (y1,(y3p,y3n,y3c),y4,y5,false,(y7p,y7n,y7c),(IntKind.wrap .i64 (y8+1)),()) h14)) (
 ifB y6 (
 newI h14 (.cells #[(.int .i64 y5)] 3 (0,0)) fun b19 h20=>
 appI 3 1 8 (.int .i64 0) y3p y3n y3c (some ⟨b19,0,none⟩) 1 h20 fun p21 l21 c21 h22=>
 K1 (y1,(p21,l21,c21),(IntKind.wrap .i64 (y4+1)),()) h22) (
 K2 (y1,(y3p,y3n,y3c),y4,(IntKind.wrap .i64 (y5+1)),()) h14))
def ref16_order_l6 (Q:VH) (K1:(Addr×S3×Int×Unit)→Heap→Prop) (K2:(Addr×S3×Int×Int×Unit)→Heap→Prop) (y1:Addr) (y3p:OA) (y3n y3c:Nat) (y4 y5:Int) (h7:Heap):Prop:=
 ldSlice h7 (y1.add 3) fun p8 l8 c8=>
 ifB (decide (y5≤(l8:Int))) (
 callBool P n_ref16_has #[(.slice y3p y3n y3c),(.int .i64 y5)] h7 fun b10 h9=>
 ldSlice h9 (y1.add 3) fun p11 l11 c11=>
 idxI p11 (IntKind.wrap .i64 (y5-1)) l11 fun a12=>
 ldSlice h9 (Addr.add (a12.add ((IntKind.wrap .i64 (y5-1)).toNat*15)) 1) fun p13 l13 c13=>
 LoopS (S:=Y28) (fun K3 s h=>ref16_order_l11 Q K1 K2 K3 s.1 s.2.1.1 s.2.1.2.1 s.2.1.2.2 s.2.2.1 s.2.2.2.1 s.2.2.2.2.1 s.2.2.2.2.2.1.1 s.2.2.2.2.2.1.2.1 s.2.2.2.2.2.1.2.2 s.2.2.2.2.2.2.1 h) (y1,(y3p,y3n,y3c),y4,y5,(!b10),(p13,l13,c13),(0:Int),()) h9) (
 K1 (y1,(y3p,y3n,y3c),(IntKind.wrap .i64 (y4+1)),()) h7)
def ref16_order_l3 (Q:VH) (K1:(Addr×S3×Int×Unit)→Heap→Prop) (y1:Addr) (y3p:OA) (y3n y3c:Nat) (y4:Int) (h5:Heap):Prop:=
 ldSlice h5 (y1.add 3) fun p6 l6 c6=>
 ifB (decide (y4<(l6:Int))) (
 LoopS (S:=(Addr×S3×Int×Int×Unit)) (fun K2 s h=>ref16_order_l6 Q K1 K2 s.1 s.2.1.1 s.2.1.2.1 s.2.1.2.2 s.2.2.1 s.2.2.2.1 h) (y1,(y3p,y3n,y3c),y4,(1:Int),()) h5) (
 bndI 1 y3n fun l23=>
 Q (.slice (if y3c=l23 then y3p else Option.map (fun a=>a.add (l23*1)) y3p) (y3n-l23) (y3c-l23)) h5)
def ref16_order (y0:TS A1) (h:Heap) (Q:VH):Prop:=
 newI h (.cells (mkS' A1 y0).toArray 26 (0,0)) fun b1 h2=>
 newI h2 (.cells #[(.int .i64 0)] 3 (0,0)) fun b3 h4=>
 LoopS (S:=(Addr×S3×Int×Unit)) (fun K1 s h=>ref16_order_l3 Q K1 s.1 s.2.1.1 s.2.1.2.1 s.2.1.2.2 s.2.2.1 h) (⟨b1,0,none⟩,(some ⟨b3,0,none⟩,1,1),(0:Int),()) h4
noncomputable def tab_ref16_order:Tab:=tb (lookT .done []) (lookT [] [(3,[(1,.sc (.adr)),(3,SL),(4,I6)]),(6,[(1,.sc (.adr)),(3,SL),(4,I6),(5,I6)]),(11,[(1,.sc (.adr)),(3,SL),(4,I6),(5,I6),(6,BO),(7,SL),(8,I6)])]) (lookT none [])
theorem call_ref16_order (y0:TS A1) {h:Heap} {Q:VH} (H:ref16_order y0 h Q):callP P n_ref16_order #[(agS A1 y0)] h Q:=
 @callP_of P n_ref16_order Tryz.f18 tab_ref16_order [(agS A1 y0)] h Q mixed Tryz.func18 Tryz.call18 (by kernel_rfl) (Eq.mpr (by kernel_rfl) H)
def ref16_rate_l3 (Q:VH) (K1:(S3×Addr×Int×Int×Unit)→Heap→Prop) (y1p:OA) (y1n y1c:Nat) (y2:Addr) (y5 y6:Int) (h5:Heap):Prop:=
 ifB (decide (y6<(y1n:Int))) (
 idxI y1p y6 y1n fun a6=>
 ldInt .i64 h5 (a6.add (y6.toNat*1)) fun n7=>
 ifB (n7 !=y5) (
 Q (.int .i64 (-1:Int)) h5) (
 K1 ((y1p,y1n,y1c),y2,y5,(IntKind.wrap .i64 (y6+1)),()) h5)) (
 ldInt .i64 h5 y2 fun n8=>
 callBool P n_ref14_Windows #[(.int .i64 n8)] h5 fun b10 h9=>
 ifB (y5==0) (
 ifB b10 (
 Q (.int .i64 (-1:Int)) h9) (
 ldInt .i64 h9 y2 fun n11=>
 ifB (n11==5) (
 Q (.int .i64 (-1:Int)) h9) (
 ldInt .i64 h9 y2 fun n12=>
 ifB (n12==5) (
 Q (.int .i64 0) h9) (
 ldAg A2 h9 y2 fun x13=>
 callInt P .i64 n_ref14_Step #[(agS A2 x13)] h9 fun n15 h14=>
 Q (.int .i64 (IntKind.wrap .i64 (y5*n15))) h14)))) (
 ldInt .i64 h9 y2 fun n16=>
 ifB (n16==5) (
 Q (.int .i64 0) h9) (
 ldAg A2 h9 y2 fun x17=>
 callInt P .i64 n_ref14_Step #[(agS A2 x17)] h9 fun n19 h18=>
 Q (.int .i64 (IntKind.wrap .i64 (y5*n19))) h18)))
def ref16_rate (y0:TS A2) (y1p:OA) (y1n y1c:Nat) (h:Heap) (Q:VH):Prop:=
 newI h (.cells (mkS' A2 y0).toArray 40 (0,0)) fun b1 h2=>
 idxI y1p 0 y1n fun a3=>
 ldInt .i64 h2 (a3.add ((0:Int).toNat*1)) fun n4=>
 LoopS (S:=(S3×Addr×Int×Int×Unit)) (fun K1 s h=>ref16_rate_l3 Q K1 s.1.1 s.1.2.1 s.1.2.2 s.2.1 s.2.2.1 s.2.2.2.1 h) ((y1p,y1n,y1c),⟨b1,0,none⟩,n4,(0:Int),()) h2
noncomputable def tab_ref16_rate:Tab:=tb (lookT .done []) (lookT [] [(3,[(1,SL),(2,.sc (.adr)),(5,I6),(6,I6)])]) (lookT none [])
theorem call_ref16_rate (y0:TS A2) (y1p:OA) (y1n y1c:Nat) {h:Heap} {Q:VH} (H:ref16_rate y0 y1p y1n y1c h Q):callP P n_ref16_rate #[(agS A2 y0),(.slice y1p y1n y1c)] h Q:=
 @callP_of P n_ref16_rate Tryz.f21 tab_ref16_rate [(agS A2 y0),(.slice y1p y1n y1c)] h Q mixed Tryz.func21 Tryz.call21 (by kernel_rfl) (Eq.mpr (by kernel_rfl) H)
def ref16_Look_l17 (Q:VH) (K1:YH Y29) (K2:YH Y30) (y1 t2:Addr) (y4p:OA) (y4n y4c:Nat) (y5:Addr) (y6:Int) (y7:Addr) (y8p:OA) (y8n y8c:Nat) (y9p:OA) (y9n y9c:Nat) (y10:Int) (h56:Heap):Prop:=
 ldSlice h56 (y7.add 1) fun p57 l57 c57=>
 ifB (decide (y10<(l57:Int))) (
 ldSlice h56 (y5.add 1) fun p58 l58 c58=>
 ldSlice h56 (y7.add 1) fun p59 l59 c59=>
 idxI p59 y10 l59 fun a60=>
 ldInt .i64 h56 (a60.add (y10.toNat*1)) fun n61=>
 idxI p58 n61 l58 fun a62=>
 ldInt .i64 h56 (a62.add (n61.toNat*1)) fun n63=>
 newI h56 (.cells #[(.int .i64 n63)] 3 (0,0)) fun b64 h65=>
 appI 3 1 8 (.int .i64 0) y8p y8n y8c (some ⟨b64,0,none⟩) 1 h65 fun p66 l66 c66 h67=>
 cellH h67 (y5.add 1)=some (.slice p58 l58 c58)∧
 ldSlice h67 (y5.add 2) fun p68 l68 c68=>
 ldSlice h67 (y7.add 1) fun p69 l69 c69=>
 idxI p69 y10 l69 fun a70=>
 ldInt .i64 h67 (a70.add (y10.toNat*1)) fun n71=>
 idxI p68 n71 l68 fun a72=>
 ldInt .i64 h67 (a72.add (n71.toNat*1)) fun n73=>
 newI h67 (.cells #[(.int .i64 n73)] 3 (0,0)) fun b74 h75=>
 appI 3 1 8 (.int .i64 0) y9p y9n y9c (some ⟨b74,0,none⟩) 1 h75 fun p76 l76 c76 h77=>
 cellH h77 (y5.add 2)=some (.slice p68 l68 c68)∧
 K2 (y1,t2,(y4p,y4n,y4c),y5,y6,y7,(p66,l66,c66),(p76,l76,c76),(IntKind.wrap .i64 (y10+1)),()) h77) (
 ldAg A2 h56 y7 fun x78=>
 callInt P .i64 n_ref14_Check #[(agS A2 x78),(.slice y8p y8n y8c)] h56 fun n80 h79=>
 ifB (n80 !=0) (
 stI h79 t2 (.slice none 0 0) fun h81=>
 stI h81 (t2.add 1) (.slice none 0 0) fun h82=>
 stI h82 (t2.add 2) (.slice none 0 0) fun h83=>
 stI h83 (t2.add 3) (.int .i64 n80) fun h84=>
 ldSlice h84 t2 fun p85 l85 c85=>
 ldSlice h84 (t2.add 1) fun p86 l86 c86=>
 ldSlice h84 (t2.add 2) fun p87 l87 c87=>
 ldInt .i64 h84 (t2.add 3) fun n88=>
 Q (.agg #[(.slice p85 l85 c85),(.slice p86 l86 c86),(.slice p87 l87 c87),(.int .i64 n88)]) h84) (
 idxI y4p y6 y4n fun a89=>
 ldAg A2 h79 y7 fun x90=>
 ldSlice h79 (y5.add 1) fun p91 l91 c91=>
 ldInt .i64 h79 (a89.add (y6.toNat*1)) fun n92=>
 callInt P .i64 n_ref14_Width #[(agS A2 x90),(.slice y8p y8n y8c)] h79 fun n94 h93=>
 cellH h93 (a89.add (y6.toNat*1))=some (.int .i64 n92)∧
 cellH h93 (y5.add 1)=some (.slice p91 l91 c91)∧
 idxI p91 n92 l91 fun a95=>
 stI h93 (a95.add (n92.toNat*1)) (.int .i64 n94) fun h96=>
 idxI y4p y6 y4n fun a97=>
 ldAg A2 h96 y7 fun x98=>
 ldSlice h96 (y5.add 2) fun p99 l99 c99=>
 ldInt .i64 h96 (a97.add (y6.toNat*1)) fun n100=>
 callInt P .i64 n_ref16_rate #[(agS A2 x98),(.slice y9p y9n y9c)] h96 fun n102 h101=>
 cellH h101 (a97.add (y6.toNat*1))=some (.int .i64 n100)∧
 cellH h101 (y5.add 2)=some (.slice p99 l99 c99)∧
 idxI p99 n100 l99 fun a103=>
 stI h101 (a103.add (n100.toNat*1)) (.int .i64 n102) fun h104=>
 idxI y4p y6 y4n fun a105=>
 ldSlice h104 (y5.add 2) fun p106 l106 c106=>
 ldInt .i64 h104 (a105.add (y6.toNat*1)) fun n107=>
 idxI p106 n107 l106 fun a108=>
 ldInt .i64 h104 (a108.add (n107.toNat*1)) fun n109=>
 ifB (decide (n109<0)) (
 stI h104 t2 (.slice none 0 0) fun h110=>
 stI h110 (t2.add 1) (.slice none 0 0) fun h111=>
 stI h111 (t2.add 2) (.slice none 0 0) fun h112=>
 stI h112 (t2.add 3) (.int .i64 15) fun h113=>
 ldSlice h113 t2 fun p114 l114 c114=>
 ldSlice h113 (t2.add 1) fun p115 l115 c115=>
 ldSlice h113 (t2.add 2) fun p116 l116 c116=>
 ldInt .i64 h113 (t2.add 3) fun n117=>
 Q (.agg #[(.slice p114 l114 c114),(.slice p115 l115 c115),(.slice p116 l116 c116),(.int .i64 n117)]) h113) (
 K1 (y1,t2,(y4p,y4n,y4c),y5,(IntKind.wrap .i64 (y6+1)),()) h104)))
def ref16_Look_l11 (Q:VH) (K1:YH Y29) (y1 t2:Addr) (y4p:OA) (y4n y4c:Nat) (y5:Addr) (y6:Int) (h47:Heap):Prop:=
 ifB (decide (y6<(y4n:Int))) (
 idxI y4p y6 y4n fun a48=>
 ldSlice h47 (y1.add 3) fun p49 l49 c49=>
 ldInt .i64 h47 (a48.add (y6.toNat*1)) fun n50=>
 idxI p49 (IntKind.wrap .i64 (n50-1)) l49 fun a51=>
 ldAg A2 h47 (a51.add ((IntKind.wrap .i64 (n50-1)).toNat*15)) fun x52=>
 newI h47 (.cells (mkS' A2 (zT A2)).toArray 40 (0,0)) fun b53 h54=>
 storeL (mkS' A2 x52) h54 ⟨b53,0,none⟩ 0 fun h55=>
 LoopS (S:=Y30) (fun K2 s h=>ref16_Look_l17 Q K1 K2 s.1 s.2.1 s.2.2.1.1 s.2.2.1.2.1 s.2.2.1.2.2 s.2.2.2.1 s.2.2.2.2.1 s.2.2.2.2.2.1 s.2.2.2.2.2.2.1.1 s.2.2.2.2.2.2.1.2.1 s.2.2.2.2.2.2.1.2.2 s.2.2.2.2.2.2.2.1.1 s.2.2.2.2.2.2.2.1.2.1 s.2.2.2.2.2.2.2.1.2.2 s.2.2.2.2.2.2.2.2.1 h) (y1,t2,(y4p,y4n,y4c),y5,y6,⟨b53,0,none⟩,(none,0,0),(none,0,0),(0:Int),()) h55) (
 ldSlice h47 y5 fun p118 l118 c118=>
 ldSlice h47 (y5.add 1) fun p119 l119 c119=>
 ldSlice h47 (y5.add 2) fun p120 l120 c120=>
 ldInt .i64 h47 (y5.add 3) fun n121=>
 stI h47 t2 (.slice p118 l118 c118) fun h122=>
 stI h122 (t2.add 1) (.slice p119 l119 c119) fun h123=>
 stI h123 (t2.add 2) (.slice p120 l120 c120) fun h124=>
 stI h124 (t2.add 3) (.int .i64 n121) fun h125=>
 ldSlice h125 t2 fun p126 l126 c126=>
 ldSlice h125 (t2.add 1) fun p127 l127 c127=>
 ldSlice h125 (t2.add 2) fun p128 l128 c128=>
 ldInt .i64 h125 (t2.add 3) fun n129=>
 Q (.agg #[(.slice p126 l126 c126),(.slice p127 l127 c127),(.slice p128 l128 c128),(.int .i64 n129)]) h125)
def ref16_Look (y0:TS A1) (h:Heap) (Q:VH):Prop:=
 newI h (.cells (mkS' A1 y0).toArray 26 (0,0)) fun b1 h2=>
 newI h2 (.cells #[(.slice none 0 0),(.slice none 0 0),(.slice none 0 0),(.int .i64 0)] 34 (0,0)) fun b3 h4=>
 ldAg A1 h4 ⟨b1,0,none⟩ fun x5=>
 callInt P .i64 n_ref16_first #[(agS A1 x5)] h4 fun n7 h6=>
 ifB (n7 !=0) (
 stI h6 ⟨b3,0,none⟩ (.slice none 0 0) fun h8=>
 stI h8 ⟨b3,1,none⟩ (.slice none 0 0) fun h9=>
 stI h9 ⟨b3,2,none⟩ (.slice none 0 0) fun h10=>
 stI h10 ⟨b3,3,none⟩ (.int .i64 n7) fun h11=>
 ldSlice h11 ⟨b3,0,none⟩ fun p12 l12 c12=>
 ldSlice h11 ⟨b3,1,none⟩ fun p13 l13 c13=>
 ldSlice h11 ⟨b3,2,none⟩ fun p14 l14 c14=>
 ldInt .i64 h11 ⟨b3,3,none⟩ fun n15=>
 Q (.agg #[(.slice p12 l12 c12),(.slice p13 l13 c13),(.slice p14 l14 c14),(.int .i64 n15)]) h11) (
 ldAg A1 h6 ⟨b1,0,none⟩ fun x16=>
 callSlice P n_ref16_order #[(agS A1 x16)] h6 fun p18 l18 c18 h17=>
 ldSlice h17 ⟨b1,3,none⟩ fun p19 l19 c19=>
 ifB (decide ((l18:Int)<(l19:Int))) (
 stI h17 ⟨b3,0,none⟩ (.slice none 0 0) fun h20=>
 stI h20 ⟨b3,1,none⟩ (.slice none 0 0) fun h21=>
 stI h21 ⟨b3,2,none⟩ (.slice none 0 0) fun h22=>
 stI h22 ⟨b3,3,none⟩ (.int .i64 13) fun h23=>
 ldSlice h23 ⟨b3,0,none⟩ fun p24 l24 c24=>
 ldSlice h23 ⟨b3,1,none⟩ fun p25 l25 c25=>
 ldSlice h23 ⟨b3,2,none⟩ fun p26 l26 c26=>
 ldInt .i64 h23 ⟨b3,3,none⟩ fun n27=>
 Q (.agg #[(.slice p24 l24 c24),(.slice p25 l25 c25),(.slice p26 l26 c26),(.int .i64 n27)]) h23) (
 ldSlice h17 ⟨b1,3,none⟩ fun p28 l28 c28=>
 ldSlice h17 ⟨b1,3,none⟩ fun p29 l29 c29=>
 (
 mkI 3 1 8 (.int .i64 0) (IntKind.wrap .i64 ((l28:Int)+1)) (IntKind.wrap .i64 ((l28:Int)+1)) h17 fun b30 h31=>
 cellH h31 ⟨b1,3,none⟩=some (.slice p29 l29 c29)∧
 cellH h31 ⟨b1,3,none⟩=some (.slice p28 l28 c28)∧
 (
 mkI 3 1 8 (.int .i64 0) (IntKind.wrap .i64 ((l29:Int)+1)) (IntKind.wrap .i64 ((l29:Int)+1)) h31 fun b32 h33=>
 cellH h33 ⟨b1,3,none⟩=some (.slice p29 l29 c29)∧
 cellH h33 ⟨b1,3,none⟩=some (.slice p28 l28 c28)∧
 newI h33 (.cells #[(.slice none 0 0),(.slice none 0 0),(.slice none 0 0),(.int .i64 0)] 34 (0,0)) fun b34 h35=>
 stI h35 ⟨b34,0,none⟩ (.slice p18 l18 c18) fun h36=>
 stI h36 ⟨b34,1,none⟩ (.slice (some ⟨b30,0,none⟩) ((IntKind.wrap .i64 ((l28:Int)+1)).toNat) ((IntKind.wrap .i64 ((l28:Int)+1)).toNat)) fun h37=>
 stI h37 ⟨b34,2,none⟩ (.slice (some ⟨b32,0,none⟩) ((IntKind.wrap .i64 ((l29:Int)+1)).toNat) ((IntKind.wrap .i64 ((l29:Int)+1)).toNat)) fun h38=>
 stI h38 ⟨b34,3,none⟩ (.int .i64 0) fun h39=>
 ldSlice h39 ⟨b34,1,none⟩ fun p40 l40 c40=>
 ldInt .i64 h39 ⟨b1,0,none⟩ fun n41=>
 idxI p40 0 l40 fun a42=>
 stI h39 (a42.add ((0:Int).toNat*1)) (.int .i64 n41) fun h43=>
 ldSlice h43 ⟨b34,2,none⟩ fun p44 l44 c44=>
 idxI p44 0 l44 fun a45=>
 stI h43 (a45.add ((0:Int).toNat*1)) (.int .i64 1) fun h46=>
 LoopS (S:=Y29) (fun K1 s h=>ref16_Look_l11 Q K1 s.1 s.2.1 s.2.2.1.1 s.2.2.1.2.1 s.2.2.1.2.2 s.2.2.2.1 s.2.2.2.2.1 h) (⟨b1,0,none⟩,⟨b3,0,none⟩,(p18,l18,c18),⟨b34,0,none⟩,(0:Int),()) h46)∧(
 newI h31 (.cells #[(.slice none 0 0),(.slice none 0 0),(.slice none 0 0),(.int .i64 0)] 34 (0,0)) fun b130 h131=>
 mkI 3 1 8 (.int .i64 0) (IntKind.wrap .i64 ((l29:Int)+1)) (IntKind.wrap .i64 ((l29:Int)+1)) h131 fun b132 h133=>
 cellH h133 ⟨b1,3,none⟩=some (.slice p29 l29 c29)∧
 cellH h133 ⟨b1,3,none⟩=some (.slice p28 l28 c28)∧
 stI h133 ⟨b130,0,none⟩ (.slice p18 l18 c18) fun h134=>
 stI h134 ⟨b130,1,none⟩ (.slice (some ⟨b30,0,none⟩) ((IntKind.wrap .i64 ((l28:Int)+1)).toNat) ((IntKind.wrap .i64 ((l28:Int)+1)).toNat)) fun h135=>
 stI h135 ⟨b130,2,none⟩ (.slice (some ⟨b132,0,none⟩) ((IntKind.wrap .i64 ((l29:Int)+1)).toNat) ((IntKind.wrap .i64 ((l29:Int)+1)).toNat)) fun h136=>
 stI h136 ⟨b130,3,none⟩ (.int .i64 0) fun h137=>
 ldSlice h137 ⟨b130,1,none⟩ fun p138 l138 c138=>
 ldInt .i64 h137 ⟨b1,0,none⟩ fun n139=>
 idxI p138 0 l138 fun a140=>
 stI h137 (a140.add ((0:Int).toNat*1)) (.int .i64 n139) fun h141=>
 ldSlice h141 ⟨b130,2,none⟩ fun p142 l142 c142=>
 idxI p142 0 l142 fun a143=>
 stI h141 (a143.add ((0:Int).toNat*1)) (.int .i64 1) fun h144=>
 LoopS (S:=Y29) (fun K1 s h=>ref16_Look_l11 Q K1 s.1 s.2.1 s.2.2.1.1 s.2.2.1.2.1 s.2.2.1.2.2 s.2.2.2.1 s.2.2.2.2.1 h) (⟨b1,0,none⟩,⟨b3,0,none⟩,(p18,l18,c18),⟨b130,0,none⟩,(0:Int),()) h144))∧(
 (
 mkI 3 1 8 (.int .i64 0) (IntKind.wrap .i64 ((l29:Int)+1)) (IntKind.wrap .i64 ((l29:Int)+1)) h17 fun b228 h229=>
 cellH h229 ⟨b1,3,none⟩=some (.slice p29 l29 c29)∧
 cellH h229 ⟨b1,3,none⟩=some (.slice p28 l28 c28)∧
 (
 mkI 3 1 8 (.int .i64 0) (IntKind.wrap .i64 ((l28:Int)+1)) (IntKind.wrap .i64 ((l28:Int)+1)) h229 fun b230 h231=>
 cellH h231 ⟨b1,3,none⟩=some (.slice p29 l29 c29)∧
 cellH h231 ⟨b1,3,none⟩=some (.slice p28 l28 c28)∧
 newI h231 (.cells #[(.slice none 0 0),(.slice none 0 0),(.slice none 0 0),(.int .i64 0)] 34 (0,0)) fun b232 h233=>
 stI h233 ⟨b232,0,none⟩ (.slice p18 l18 c18) fun h234=>
 stI h234 ⟨b232,1,none⟩ (.slice (some ⟨b230,0,none⟩) ((IntKind.wrap .i64 ((l28:Int)+1)).toNat) ((IntKind.wrap .i64 ((l28:Int)+1)).toNat)) fun h235=>
 stI h235 ⟨b232,2,none⟩ (.slice (some ⟨b228,0,none⟩) ((IntKind.wrap .i64 ((l29:Int)+1)).toNat) ((IntKind.wrap .i64 ((l29:Int)+1)).toNat)) fun h236=>
 stI h236 ⟨b232,3,none⟩ (.int .i64 0) fun h237=>
 ldSlice h237 ⟨b232,1,none⟩ fun p238 l238 c238=>
 ldInt .i64 h237 ⟨b1,0,none⟩ fun n239=>
 idxI p238 0 l238 fun a240=>
 stI h237 (a240.add ((0:Int).toNat*1)) (.int .i64 n239) fun h241=>
 ldSlice h241 ⟨b232,2,none⟩ fun p242 l242 c242=>
 idxI p242 0 l242 fun a243=>
 stI h241 (a243.add ((0:Int).toNat*1)) (.int .i64 1) fun h244=>
 LoopS (S:=Y29) (fun K1 s h=>ref16_Look_l11 Q K1 s.1 s.2.1 s.2.2.1.1 s.2.2.1.2.1 s.2.2.1.2.2 s.2.2.2.1 s.2.2.2.2.1 h) (⟨b1,0,none⟩,⟨b3,0,none⟩,(p18,l18,c18),⟨b232,0,none⟩,(0:Int),()) h244)∧(
 newI h229 (.cells #[(.slice none 0 0),(.slice none 0 0),(.slice none 0 0),(.int .i64 0)] 34 (0,0)) fun b328 h329=>
 mkI 3 1 8 (.int .i64 0) (IntKind.wrap .i64 ((l28:Int)+1)) (IntKind.wrap .i64 ((l28:Int)+1)) h329 fun b330 h331=>
 cellH h331 ⟨b1,3,none⟩=some (.slice p29 l29 c29)∧
 cellH h331 ⟨b1,3,none⟩=some (.slice p28 l28 c28)∧
 stI h331 ⟨b328,0,none⟩ (.slice p18 l18 c18) fun h332=>
 stI h332 ⟨b328,1,none⟩ (.slice (some ⟨b330,0,none⟩) ((IntKind.wrap .i64 ((l28:Int)+1)).toNat) ((IntKind.wrap .i64 ((l28:Int)+1)).toNat)) fun h333=>
 stI h333 ⟨b328,2,none⟩ (.slice (some ⟨b228,0,none⟩) ((IntKind.wrap .i64 ((l29:Int)+1)).toNat) ((IntKind.wrap .i64 ((l29:Int)+1)).toNat)) fun h334=>
 stI h334 ⟨b328,3,none⟩ (.int .i64 0) fun h335=>
 ldSlice h335 ⟨b328,1,none⟩ fun p336 l336 c336=>
 ldInt .i64 h335 ⟨b1,0,none⟩ fun n337=>
 idxI p336 0 l336 fun a338=>
 stI h335 (a338.add ((0:Int).toNat*1)) (.int .i64 n337) fun h339=>
 ldSlice h339 ⟨b328,2,none⟩ fun p340 l340 c340=>
 idxI p340 0 l340 fun a341=>
 stI h339 (a341.add ((0:Int).toNat*1)) (.int .i64 1) fun h342=>
 LoopS (S:=Y29) (fun K1 s h=>ref16_Look_l11 Q K1 s.1 s.2.1 s.2.2.1.1 s.2.2.1.2.1 s.2.2.1.2.2 s.2.2.2.1 s.2.2.2.2.1 h) (⟨b1,0,none⟩,⟨b3,0,none⟩,(p18,l18,c18),⟨b328,0,none⟩,(0:Int),()) h342))∧(
 newI h17 (.cells #[(.slice none 0 0),(.slice none 0 0),(.slice none 0 0),(.int .i64 0)] 34 (0,0)) fun b426 h427=>
 (
 mkI 3 1 8 (.int .i64 0) (IntKind.wrap .i64 ((l28:Int)+1)) (IntKind.wrap .i64 ((l28:Int)+1)) h427 fun b428 h429=>
 cellH h429 ⟨b1,3,none⟩=some (.slice p29 l29 c29)∧
 cellH h429 ⟨b1,3,none⟩=some (.slice p28 l28 c28)∧
 mkI 3 1 8 (.int .i64 0) (IntKind.wrap .i64 ((l29:Int)+1)) (IntKind.wrap .i64 ((l29:Int)+1)) h429 fun b430 h431=>
 cellH h431 ⟨b1,3,none⟩=some (.slice p29 l29 c29)∧
 cellH h431 ⟨b1,3,none⟩=some (.slice p28 l28 c28)∧
 stI h431 ⟨b426,0,none⟩ (.slice p18 l18 c18) fun h432=>
 stI h432 ⟨b426,1,none⟩ (.slice (some ⟨b428,0,none⟩) ((IntKind.wrap .i64 ((l28:Int)+1)).toNat) ((IntKind.wrap .i64 ((l28:Int)+1)).toNat)) fun h433=>
 stI h433 ⟨b426,2,none⟩ (.slice (some ⟨b430,0,none⟩) ((IntKind.wrap .i64 ((l29:Int)+1)).toNat) ((IntKind.wrap .i64 ((l29:Int)+1)).toNat)) fun h434=>
 stI h434 ⟨b426,3,none⟩ (.int .i64 0) fun h435=>
 ldSlice h435 ⟨b426,1,none⟩ fun p436 l436 c436=>
 ldInt .i64 h435 ⟨b1,0,none⟩ fun n437=>
 idxI p436 0 l436 fun a438=>
 stI h435 (a438.add ((0:Int).toNat*1)) (.int .i64 n437) fun h439=>
 ldSlice h439 ⟨b426,2,none⟩ fun p440 l440 c440=>
 idxI p440 0 l440 fun a441=>
 stI h439 (a441.add ((0:Int).toNat*1)) (.int .i64 1) fun h442=>
 LoopS (S:=Y29) (fun K1 s h=>ref16_Look_l11 Q K1 s.1 s.2.1 s.2.2.1.1 s.2.2.1.2.1 s.2.2.1.2.2 s.2.2.2.1 s.2.2.2.2.1 h) (⟨b1,0,none⟩,⟨b3,0,none⟩,(p18,l18,c18),⟨b426,0,none⟩,(0:Int),()) h442)∧(
 mkI 3 1 8 (.int .i64 0) (IntKind.wrap .i64 ((l29:Int)+1)) (IntKind.wrap .i64 ((l29:Int)+1)) h427 fun b526 h527=>
 cellH h527 ⟨b1,3,none⟩=some (.slice p29 l29 c29)∧
 cellH h527 ⟨b1,3,none⟩=some (.slice p28 l28 c28)∧
 mkI 3 1 8 (.int .i64 0) (IntKind.wrap .i64 ((l28:Int)+1)) (IntKind.wrap .i64 ((l28:Int)+1)) h527 fun b528 h529=>
 cellH h529 ⟨b1,3,none⟩=some (.slice p29 l29 c29)∧
 cellH h529 ⟨b1,3,none⟩=some (.slice p28 l28 c28)∧
 stI h529 ⟨b426,0,none⟩ (.slice p18 l18 c18) fun h530=>
 stI h530 ⟨b426,1,none⟩ (.slice (some ⟨b528,0,none⟩) ((IntKind.wrap .i64 ((l28:Int)+1)).toNat) ((IntKind.wrap .i64 ((l28:Int)+1)).toNat)) fun h531=>
 stI h531 ⟨b426,2,none⟩ (.slice (some ⟨b526,0,none⟩) ((IntKind.wrap .i64 ((l29:Int)+1)).toNat) ((IntKind.wrap .i64 ((l29:Int)+1)).toNat)) fun h532=>
 stI h532 ⟨b426,3,none⟩ (.int .i64 0) fun h533=>
 ldSlice h533 ⟨b426,1,none⟩ fun p534 l534 c534=>
 ldInt .i64 h533 ⟨b1,0,none⟩ fun n535=>
 idxI p534 0 l534 fun a536=>
 stI h533 (a536.add ((0:Int).toNat*1)) (.int .i64 n535) fun h537=>
 ldSlice h537 ⟨b426,2,none⟩ fun p538 l538 c538=>
 idxI p538 0 l538 fun a539=>
 stI h537 (a539.add ((0:Int).toNat*1)) (.int .i64 1) fun h540=>
 LoopS (S:=Y29) (fun K1 s h=>ref16_Look_l11 Q K1 s.1 s.2.1 s.2.2.1.1 s.2.2.1.2.1 s.2.2.1.2.2 s.2.2.2.1 s.2.2.2.2.1 h) (⟨b1,0,none⟩,⟨b3,0,none⟩,(p18,l18,c18),⟨b426,0,none⟩,(0:Int),()) h540)))))
noncomputable def tab_ref16_Look:Tab:=tb (lookT .done [(7,(ones [0,1,6] (.early 2 (ones [3,4] (.early 7 (ones [8,9] (.alt 5 (.alt 10 (ones [11] (.alt 12 (.alt 13 .done .stop) .stop)) (.alt 12 (.alt 10 (ones [11] (.alt 13 .done .stop)) .stop) .stop)) (.alt 10 (.alt 5 (ones [11] (.alt 12 (.alt 13 .done .stop) .stop)) (.alt 12 (.alt 5 (ones [11] (.alt 13 .done .stop)) .stop) .stop)) (.alt 12 (.alt 5 (.alt 10 (ones [11] (.alt 13 .done .stop)) .stop) (.alt 10 (.alt 5 (ones [11] (.alt 13 .done .stop)) .stop) .stop)) .stop))))))))),(13,(ones [0,2,3,4,1,5,6,7,8] (.alt 9 (.alt 10 .done .stop) .stop))),(19,(ones [0,1,3,5] (.early 2 (.alt 4 (ones [6] (.alt 7 (ones [8] (.alt 9 (.alt 10 (.alt 11 (ones [12] .done) .stop) .stop) .stop)) .stop)) .stop)))),(20,(ones [0,1,3,5] (.early 2 (.alt 4 (ones [6] (.alt 7 (ones [8] (.alt 9 (.alt 10 (.alt 11 (ones [12] .done) .stop) .stop) .stop)) .stop)) .stop)))),(24,(ones [0,2,3,4,7,6] (.early 1 (.early 5 (.alt 8 (ones [9] (.alt 10 .done .stop)) .stop))))),(25,(ones [0,2,3,4,7,6] (.early 1 (.early 5 (.alt 8 (ones [9] (.alt 10 .done .stop)) .stop))))),(26,(ones [0,2,3,4,1,5,6,7,8] .done))]) (lookT [] [(11,[(1,.sc (.adr)),(2,.sc (.adr)),(4,SL),(5,.sc (.adr)),(6,I6)]),(17,[(1,.sc (.adr)),(2,.sc (.adr)),(4,SL),(5,.sc (.adr)),(6,I6),(7,.sc (.adr)),(8,SL),(9,SL),(10,I6)])]) (lookT none [])
theorem call_ref16_Look (y0:TS A1) {h:Heap} {Q:VH} (H:ref16_Look y0 h Q):callP P n_ref16_Look #[(agS A1 y0)] h Q:=
 @callP_of P n_ref16_Look Tryz.f8 tab_ref16_Look [(agS A1 y0)] h Q mixed Tryz.func8 Tryz.call8 (by kernel_rfl) (Eq.mpr (by kernel_rfl) H)
def ref14_least_l5 (Q:VH) (K1:(S3×Int×Int×Unit)→Heap→Prop) (y0p:OA) (y0n y0c:Nat) (y3 y4:Int) (h3:Heap):Prop:=
 ifB (decide (y4<(y0n:Int))) (
 idxI y0p y4 y0n fun a4=>
 ldInt .i64 h3 (a4.add (y4.toNat*1)) fun n5=>
 ifB (decide (n5<y3)) (
 idxI y0p y4 y0n fun a6=>
 ldInt .i64 h3 (a6.add (y4.toNat*1)) fun n7=>
 K1 ((y0p,y0n,y0c),n7,(IntKind.wrap .i64 (y4+1)),()) h3) (
 K1 ((y0p,y0n,y0c),y3,(IntKind.wrap .i64 (y4+1)),()) h3)) (
 ifB (decide (y3<0)) (
 Q (.int .i64 0) h3) (
 Q (.int .i64 y3) h3))
def ref14_least (y0p:OA) (y0n y0c:Nat) (h:Heap) (Q:VH):Prop:=
 ifB ((y0n:Int)==0) (
 Q (.int .i64 0) h) (
 idxI y0p 0 y0n fun a1=>
 ldInt .i64 h (a1.add ((0:Int).toNat*1)) fun n2=>
 LoopS (S:=(S3×Int×Int×Unit)) (fun K1 s h=>ref14_least_l5 Q K1 s.1.1 s.1.2.1 s.1.2.2 s.2.1 s.2.2.1 h) ((y0p,y0n,y0c),n2,(0:Int),()) h)
noncomputable def tab_ref14_least:Tab:=tb (lookT .done []) (lookT [] [(5,[(0,SL),(3,I6),(4,I6)])]) (lookT none [])
theorem call_ref14_least (y0p:OA) (y0n y0c:Nat) {h:Heap} {Q:VH} (H:ref14_least y0p y0n y0c h Q):callP P n_ref14_least #[(.slice y0p y0n y0c)] h Q:=
 @callP_of P n_ref14_least Tryz.f83 tab_ref14_least [(.slice y0p y0n y0c)] h Q mixed Tryz.func83 Tryz.call83 (by kernel_rfl) (Eq.mpr (by kernel_rfl) H)
def ref14_Right (y0:TS A2) (h:Heap) (Q:VH):Prop:=
 newI h (.cells (mkS' A2 y0).toArray 40 (0,0)) fun b1 h2=>
 ldInt .i64 h2 ⟨b1,0,none⟩ fun n3=>
 callBool P n_ref14_four #[(.int .i64 n3)] h2 fun b5 h4=>
 ifB b5 (
 ldInt .i64 h4 ⟨b1,7,none⟩ fun n6=>
 Q (.int .i64 n6) h4) (
 Q (.int .i64 0) h4)
noncomputable def tab_ref14_Right:Tab:=tb (lookT .done []) (lookT [] []) (lookT none [])
theorem call_ref14_Right (y0:TS A2) {h:Heap} {Q:VH} (H:ref14_Right y0 h Q):callP P n_ref14_Right #[(agS A2 y0)] h Q:=
 @callP_of P n_ref14_Right Tryz.f85 tab_ref14_Right [(agS A2 y0)] h Q mixed Tryz.func85 Tryz.call85 (by kernel_rfl) (Eq.mpr (by kernel_rfl) H)
def ref14_Left (y0:TS A2) (h:Heap) (Q:VH):Prop:=
 newI h (.cells (mkS' A2 y0).toArray 40 (0,0)) fun b1 h2=>
 ldInt .i64 h2 ⟨b1,0,none⟩ fun n3=>
 ifB (n3==12) (
 ldInt .i64 h2 ⟨b1,3,none⟩ fun n4=>
 Q (.int .i64 (IntKind.wrap .i64 (n4-1))) h2) (
 ldInt .i64 h2 ⟨b1,0,none⟩ fun n5=>
 callBool P n_ref14_four #[(.int .i64 n5)] h2 fun b7 h6=>
 ifB b7 (
 ldInt .i64 h6 ⟨b1,6,none⟩ fun n8=>
 Q (.int .i64 n8) h6) (
 Q (.int .i64 0) h6))
noncomputable def tab_ref14_Left:Tab:=tb (lookT .done []) (lookT [] []) (lookT none [])
theorem call_ref14_Left (y0:TS A2) {h:Heap} {Q:VH} (H:ref14_Left y0 h Q):callP P n_ref14_Left #[(agS A2 y0)] h Q:=
 @callP_of P n_ref14_Left Tryz.f86 tab_ref14_Left [(agS A2 y0)] h Q mixed Tryz.func86 Tryz.call86 (by kernel_rfl) (Eq.mpr (by kernel_rfl) H)
def ref14_ends (y0:TS A2) (y1:Int) (h:Heap) (Q:VH):Prop:=
 newI h (.cells (mkS' A2 y0).toArray 40 (0,0)) fun b1 h2=>
 ldAg A2 h2 ⟨b1,0,none⟩ fun x3=>
 ldAg A2 h2 ⟨b1,0,none⟩ fun x4=>
 callInt P .i64 n_ref14_Span #[(agS A2 x3)] h2 fun n6 h5=>
 holdW (watchL 0 ⟨b1,0,none⟩ (mkS' A2 x4) 0) h5 (
 callInt P .i64 n_ref14_Left #[(agS A2 x4)] h5 fun n8 h7=>
 holdW (watchL 0 ⟨b1,0,none⟩ (mkS' A2 x3) 0) h7 (
 ifB (decide (y1≤(IntKind.wrap .i64 ((IntKind.wrap .i64 (n6-1))-n8)))) (
 Q (.int .i64 0) h7) (
 ldAg A2 h7 ⟨b1,0,none⟩ fun x9=>
 callInt P .i64 n_ref14_Step #[(agS A2 x9)] h7 fun n11 h10=>
 neI n11 fun _=>
 Q (.int .i64 (IntKind.wrap .i64 ((IntKind.wrap .i64 (Int.tdiv (IntKind.wrap .i64 ((IntKind.wrap .i64 (y1-1))-(IntKind.wrap .i64 ((IntKind.wrap .i64 (n6-1))-n8)))) n11))+1))) h10)))
noncomputable def tab_ref14_ends:Tab:=tb (lookT .done [(1,(.early 0 (.early 3 (.alt 1 (ones [2] (.alt 4 (ones [5,6] .done) .stop)) .stop))))]) (lookT [] []) (lookT none [])
theorem call_ref14_ends (y0:TS A2) (y1:Int) {h:Heap} {Q:VH} (H:ref14_ends y0 y1 h Q):callP P n_ref14_ends #[(agS A2 y0),(.int .i64 y1)] h Q:=
 @callP_of P n_ref14_ends Tryz.f84 tab_ref14_ends [(agS A2 y0),(.int .i64 y1)] h Q mixed Tryz.func84 Tryz.call84 (by kernel_rfl) (Eq.mpr (by kernel_rfl) H)
def ref14_Count (y0:TS A2) (y1p:OA) (y1n y1c:Nat) (h:Heap) (Q:VH):Prop:=
 newI h (.cells (mkS' A2 y0).toArray 40 (0,0)) fun b1 h2=>
 callInt P .i64 n_ref14_least #[(.slice y1p y1n y1c)] h2 fun n4 h3=>
 ldInt .i64 h3 ⟨b1,0,none⟩ fun n5=>
 callBool P n_ref14_Windows #[(.int .i64 n5)] h3 fun b7 h6=>
 ifB b7 (
 ifB (decide (n4>0)) (
 ldAg A2 h6 ⟨b1,0,none⟩ fun x8=>
 ldAg A2 h6 ⟨b1,0,none⟩ fun x9=>
 callInt P .i64 n_ref14_Right #[(agS A2 x9)] h6 fun n11 h10=>
 holdW (watchL 0 ⟨b1,0,none⟩ (mkS' A2 x8) 0) h10 (
 callInt P .i64 n_ref14_ends #[(agS A2 x8),(.int .i64 (IntKind.wrap .i64 (n4+n11)))] h10 fun n13 h12=>
 Q (.int .i64 n13) h12)) (
 ldInt .i64 h6 ⟨b1,0,none⟩ fun n14=>
 ifB (n14==5) (
 ifB (decide (n4>0)) (
 Q (.int .i64 1) h6) (
 Q (.int .i64 n4) h6)) (
 Q (.int .i64 n4) h6))) (
 ldInt .i64 h6 ⟨b1,0,none⟩ fun n15=>
 ifB (n15==5) (
 ifB (decide (n4>0)) (
 Q (.int .i64 1) h6) (
 Q (.int .i64 n4) h6)) (
 Q (.int .i64 n4) h6))
noncomputable def tab_ref14_Count:Tab:=tb (lookT .done [(4,(ones [1] (.early 0 (.alt 2 (.alt 3 (ones [4] (.alt 5 (ones [6] .done) .stop)) .stop) .stop))))]) (lookT [] []) (lookT none [])
theorem call_ref14_Count (y0:TS A2) (y1p:OA) (y1n y1c:Nat) {h:Heap} {Q:VH} (H:ref14_Count y0 y1p y1n y1c h Q):callP P n_ref14_Count #[(agS A2 y0),(.slice y1p y1n y1c)] h Q:=
 @callP_of P n_ref14_Count Tryz.f62 tab_ref14_Count [(agS A2 y0),(.slice y1p y1n y1c)] h Q mixed Tryz.func62 Tryz.call62 (by kernel_rfl) (Eq.mpr (by kernel_rfl) H)
def ref14_First (y0:TS A2) (y1:Int) (h:Heap) (Q:VH):Prop:=
 newI h (.cells (mkS' A2 y0).toArray 40 (0,0)) fun b1 h2=>
 ldAg A2 h2 ⟨b1,0,none⟩ fun x3=>
 ldAg A2 h2 ⟨b1,0,none⟩ fun x4=>
 callInt P .i64 n_ref14_Step #[(agS A2 x3)] h2 fun n6 h5=>
 holdW (watchL 0 ⟨b1,0,none⟩ (mkS' A2 x4) 0) h5 (
 callInt P .i64 n_ref14_Left #[(agS A2 x4)] h5 fun n8 h7=>
 holdW (watchL 0 ⟨b1,0,none⟩ (mkS' A2 x3) 0) h7 (
 Q (.int .i64 (IntKind.wrap .i64 ((IntKind.wrap .i64 (y1*n6))-n8))) h7))
noncomputable def tab_ref14_First:Tab:=tb (lookT .done [(1,(ones [0] (.early 1 (.early 4 (.alt 2 (ones [3] (.alt 5 (ones [6,7] .done) .stop)) .stop)))))]) (lookT [] []) (lookT none [])
theorem call_ref14_First (y0:TS A2) (y1:Int) {h:Heap} {Q:VH} (H:ref14_First y0 y1 h Q):callP P n_ref14_First #[(agS A2 y0),(.int .i64 y1)] h Q:=
 @callP_of P n_ref14_First Tryz.f64 tab_ref14_First [(agS A2 y0),(.int .i64 y1)] h Q mixed Tryz.func64 Tryz.call64 (by kernel_rfl) (Eq.mpr (by kernel_rfl) H)
def ref18_gap (y0:TS A2) (h:Heap) (Q:VH):Prop:=
 newI h (.cells (mkS' A2 y0).toArray 40 (0,0)) fun b1 h2=>
 ldInt .i64 h2 ⟨b1,0,none⟩ fun n3=>
 ifB (n3==12) (
 Q (.int .i64 1) h2) (
 ldInt .i64 h2 ⟨b1,5,none⟩ fun n4=>
 Q (.int .i64 n4) h2)
noncomputable def tab_ref18_gap:Tab:=tb (lookT .done []) (lookT [] []) (lookT none [])
theorem call_ref18_gap (y0:TS A2) {h:Heap} {Q:VH} (H:ref18_gap y0 h Q):callP P n_ref18_gap #[(agS A2 y0)] h Q:=
 @callP_of P n_ref18_gap Tryz.f65 tab_ref18_gap [(agS A2 y0)] h Q mixed Tryz.func65 Tryz.call65 (by kernel_rfl) (Eq.mpr (by kernel_rfl) H)
def ref18_at (y0p:OA) (y0n y0c:Nat) (y1 y2:Int) (h:Heap) (Q:VH):Prop:=
 ifB (decide (y1<0)) (
 mkI 3 1 8 (.int .i64 0) y2 y2 h fun b1 h2=>
 Q (.slice (some ⟨b1,0,none⟩) y2.toNat y2.toNat) h2) (
 ifB (decide (y1≥(y0n:Int))) (
 mkI 3 1 8 (.int .i64 0) y2 y2 h fun b3 h4=>
 Q (.slice (some ⟨b3,0,none⟩) y2.toNat y2.toNat) h4) (
 idxI y0p y1 y0n fun a5=>
 ldSlice h (a5.add (y1.toNat*1)) fun p6 l6 c6=>
 Q (.slice p6 l6 c6) h))
noncomputable def tab_ref18_at:Tab:=tb (lookT .done []) (lookT [] []) (lookT none [])
theorem call_ref18_at (y0p:OA) (y0n y0c:Nat) (y1 y2:Int) {h:Heap} {Q:VH} (H:ref18_at y0p y0n y0c y1 y2 h Q):callP P n_ref18_at #[(.slice y0p y0n y0c),(.int .i64 y1),(.int .i64 y2)] h Q:=
 @callP_of P n_ref18_at Tryz.f63 tab_ref18_at [(.slice y0p y0n y0c),(.int .i64 y1),(.int .i64 y2)] h Q mixed Tryz.func63 Tryz.call63 (by kernel_rfl) (Eq.mpr (by kernel_rfl) H)
def ref07_Word (y0:Int) (h:Heap) (Q:VH):Prop:=
 ifB (decide (y0≥(-2147483648:Int))) (
 Q (.bool (decide (y0<2147483648))) h) (
 Q (.bool false) h)
noncomputable def tab_ref07_Word:Tab:=tb (lookT .done []) (lookT [] []) (lookT none [])
theorem call_ref07_Word (y0:Int) {h:Heap} {Q:VH} (H:ref07_Word y0 h Q):callP P n_ref07_Word #[(.int .i64 y0)] h Q:=
 @callP_of P n_ref07_Word Tryz.f107 tab_ref07_Word [(.int .i64 y0)] h Q mixed Tryz.func107 Tryz.call107 (by kernel_rfl) (Eq.mpr (by kernel_rfl) H)
def ref17_may_l10 (Q:VH) (K1:YH Y31) (K2:YH Y32) (y1p:OA) (y1n y1c:Nat) (y2:Addr) (y6:Bool) (y7p:OA) (y7n y7c:Nat) (y8 y9:Int) (h12:Heap):Prop:=
 idxI y1p y8 y1n fun a13=>
 ldSlice h12 (a13.add (y8.toNat*1)) fun p14 l14 c14=>
 ifB (decide (y9<(l14:Int))) (
 idxI y1p y8 y1n fun a15=>
 ldSlice h12 (a15.add (y8.toNat*1)) fun p16 l16 c16=>
 idxI p16 y9 l16 fun a17=>
 ldInt .i64 h12 (a17.add (y9.toNat*1)) fun n18=>
 callBool P n_ref07_Word #[(.int .i64 n18)] h12 fun b20 h19=>
 ifB (!b20) (
 Q (.bool false) h19) (
 K2 ((y1p,y1n,y1c),y2,y6,(y7p,y7n,y7c),y8,(IntKind.wrap .i64 (y9+1)),()) h19)) (
 ifB (y8==0) (
 idxI y1p y8 y1n fun a21=>
 ldSlice h12 (a21.add (y8.toNat*1)) fun p22 l22 c22=>
 newI h12 (.cells #[(.int .i64 (l22:Int))] 3 (0,0)) fun b23 h24=>
 appI 3 1 8 (.int .i64 0) y7p y7n y7c (some ⟨b23,0,none⟩) 1 h24 fun p25 l25 c25 h26=>
 K1 ((y1p,y1n,y1c),y2,y6,(p25,l25,c25),(IntKind.wrap .i64 (y8+1)),()) h26) (
 ifB y6 (
 idxI y1p y8 y1n fun a27=>
 ldSlice h12 (a27.add (y8.toNat*1)) fun p28 l28 c28=>
 newI h12 (.cells #[(.int .i64 (l28:Int))] 3 (0,0)) fun b29 h30=>
 appI 3 1 8 (.int .i64 0) y7p y7n y7c (some ⟨b29,0,none⟩) 1 h30 fun p31 l31 c31 h32=>
 K1 ((y1p,y1n,y1c),y2,y6,(p31,l31,c31),(IntKind.wrap .i64 (y8+1)),()) h32) (
 idxI y1p y8 y1n fun a33=>
 idxI y1p 0 y1n fun a34=>
 ldSlice h12 (a33.add (y8.toNat*1)) fun p35 l35 c35=>
 ldSlice h12 (a34.add ((0:Int).toNat*1)) fun p36 l36 c36=>
 ifB ((l35:Int) !=(l36:Int)) (
 Q (.bool false) h12) (
 K1 ((y1p,y1n,y1c),y2,y6,(y7p,y7n,y7c),(IntKind.wrap .i64 (y8+1)),()) h12))))
def ref17_may_l7 (Q:VH) (K1:YH Y31) (y1p:OA) (y1n y1c:Nat) (y2:Addr) (y6:Bool) (y7p:OA) (y7n y7c:Nat) (y8:Int) (h11:Heap):Prop:=
 ifB (decide (y8<(y1n:Int))) (
 LoopS (S:=Y32) (fun K2 s h=>ref17_may_l10 Q K1 K2 s.1.1 s.1.2.1 s.1.2.2 s.2.1 s.2.2.1 s.2.2.2.1.1 s.2.2.2.1.2.1 s.2.2.2.1.2.2 s.2.2.2.2.1 s.2.2.2.2.2.1 h) ((y1p,y1n,y1c),y2,y6,(y7p,y7n,y7c),y8,(0:Int),()) h11) (
 ifB (decide ((y1n:Int)>0)) (
 ldAg A2 h11 y2 fun x37=>
 callInt P .i64 n_ref14_Check #[(agS A2 x37),(.slice y7p y7n y7c)] h11 fun n39 h38=>
 Q (.bool (n39==0)) h38) (
 Q (.bool false) h11))
def ref17_may_j5 (Q:VH) (y1p:OA) (y1n y1c:Nat) (y2:Addr) (y6:Bool) (h10:Heap):Prop:=
 LoopS (S:=Y31) (fun K1 s h=>ref17_may_l7 Q K1 s.1.1 s.1.2.1 s.1.2.2 s.2.1 s.2.2.1 s.2.2.2.1.1 s.2.2.2.1.2.1 s.2.2.2.1.2.2 s.2.2.2.2.1 h) ((y1p,y1n,y1c),y2,y6,(none,0,0),(0:Int),()) h10
def ref17_may (y0:TS A2) (y1p:OA) (y1n y1c:Nat) (h:Heap) (Q:VH):Prop:=
 newI h (.cells (mkS' A2 y0).toArray 40 (0,0)) fun b1 h2=>
 ldInt .i64 h2 ⟨b1,0,none⟩ fun n3=>
 callBool P n_ref14_Windows #[(.int .i64 n3)] h2 fun b5 h4=>
 ldInt .i64 h4 ⟨b1,0,none⟩ fun n6=>
 callBool P n_ref14_Many #[(.int .i64 n6)] h4 fun b8 h7=>
 ∃J9:(S3×Addr×Bool×Unit)→Heap→Prop,(∀s h,J9 s h→ref17_may_j5 Q s.1.1 s.1.2.1 s.1.2.2 s.2.1 s.2.2.1 h)∧
 ifB b5 (
 ldInt .i64 h7 ⟨b1,3,none⟩ fun n40=>
 ifB ((y1n:Int) !=n40) (
 Q (.bool false) h7) (
 ldInt .i64 h7 ⟨b1,0,none⟩ fun n41=>
 ifB (n41==5) (
 ifB (decide ((y1n:Int)<1)) (
 Q (.bool false) h7) (
 ifB b8 (
 ldSlice h7 ⟨b1,1,none⟩ fun p42 l42 c42=>
 ifB ((y1n:Int) !=(l42:Int)) (
 Q (.bool false) h7) (
 ifB (!b5) (
 ifB (!b8) (
 ldInt .i64 h7 ⟨b1,0,none⟩ fun n43=>
 ifB (n43 !=5) (
 ifB ((y1n:Int) !=1) (
 Q (.bool false) h7) (
 J9 ((y1p,y1n,y1c),⟨b1,0,none⟩,b8,()) h7)) (
 J9 ((y1p,y1n,y1c),⟨b1,0,none⟩,b8,()) h7)) (
 J9 ((y1p,y1n,y1c),⟨b1,0,none⟩,b8,()) h7)) (
 J9 ((y1p,y1n,y1c),⟨b1,0,none⟩,b8,()) h7))) (
 ifB (!b5) (
 ifB (!b8) (
 ldInt .i64 h7 ⟨b1,0,none⟩ fun n44=>
 ifB (n44 !=5) (
 ifB ((y1n:Int) !=1) (
 Q (.bool false) h7) (
 J9 ((y1p,y1n,y1c),⟨b1,0,none⟩,b8,()) h7)) (
 J9 ((y1p,y1n,y1c),⟨b1,0,none⟩,b8,()) h7)) (
 J9 ((y1p,y1n,y1c),⟨b1,0,none⟩,b8,()) h7)) (
 J9 ((y1p,y1n,y1c),⟨b1,0,none⟩,b8,()) h7)))) (
 ifB b8 (
 ldSlice h7 ⟨b1,1,none⟩ fun p45 l45 c45=>
 ifB ((y1n:Int) !=(l45:Int)) (
 Q (.bool false) h7) (
 ifB (!b5) (
 ifB (!b8) (
 ldInt .i64 h7 ⟨b1,0,none⟩ fun n46=>
 ifB (n46 !=5) (
 ifB ((y1n:Int) !=1) (
 Q (.bool false) h7) (
 J9 ((y1p,y1n,y1c),⟨b1,0,none⟩,b8,()) h7)) (
 J9 ((y1p,y1n,y1c),⟨b1,0,none⟩,b8,()) h7)) (
 J9 ((y1p,y1n,y1c),⟨b1,0,none⟩,b8,()) h7)) (
 J9 ((y1p,y1n,y1c),⟨b1,0,none⟩,b8,()) h7))) (
 ifB (!b5) (
 ifB (!b8) (
 ldInt .i64 h7 ⟨b1,0,none⟩ fun n47=>
 ifB (n47 !=5) (
 ifB ((y1n:Int) !=1) (
 Q (.bool false) h7) (
 J9 ((y1p,y1n,y1c),⟨b1,0,none⟩,b8,()) h7)) (
 J9 ((y1p,y1n,y1c),⟨b1,0,none⟩,b8,()) h7)) (
 J9 ((y1p,y1n,y1c),⟨b1,0,none⟩,b8,()) h7)) (
 J9 ((y1p,y1n,y1c),⟨b1,0,none⟩,b8,()) h7))))) (
 ldInt .i64 h7 ⟨b1,0,none⟩ fun n48=>
 ifB (n48==5) (
 ifB (decide ((y1n:Int)<1)) (
 Q (.bool false) h7) (
 ifB b8 (
 ldSlice h7 ⟨b1,1,none⟩ fun p49 l49 c49=>
 ifB ((y1n:Int) !=(l49:Int)) (
 Q (.bool false) h7) (
 ifB (!b5) (
 ifB (!b8) (
 ldInt .i64 h7 ⟨b1,0,none⟩ fun n50=>
 ifB (n50 !=5) (
 ifB ((y1n:Int) !=1) (
 Q (.bool false) h7) (
 J9 ((y1p,y1n,y1c),⟨b1,0,none⟩,b8,()) h7)) (
 J9 ((y1p,y1n,y1c),⟨b1,0,none⟩,b8,()) h7)) (
 J9 ((y1p,y1n,y1c),⟨b1,0,none⟩,b8,()) h7)) (
 J9 ((y1p,y1n,y1c),⟨b1,0,none⟩,b8,()) h7))) (
 ifB (!b5) (
 ifB (!b8) (
 ldInt .i64 h7 ⟨b1,0,none⟩ fun n51=>
 ifB (n51 !=5) (
 ifB ((y1n:Int) !=1) (
 Q (.bool false) h7) (
 J9 ((y1p,y1n,y1c),⟨b1,0,none⟩,b8,()) h7)) (
 J9 ((y1p,y1n,y1c),⟨b1,0,none⟩,b8,()) h7)) (
 J9 ((y1p,y1n,y1c),⟨b1,0,none⟩,b8,()) h7)) (
 J9 ((y1p,y1n,y1c),⟨b1,0,none⟩,b8,()) h7)))) (
 ifB b8 (
 ldSlice h7 ⟨b1,1,none⟩ fun p52 l52 c52=>
 ifB ((y1n:Int) !=(l52:Int)) (
 Q (.bool false) h7) (
 ifB (!b5) (
 ifB (!b8) (
 ldInt .i64 h7 ⟨b1,0,none⟩ fun n53=>
 ifB (n53 !=5) (
 ifB ((y1n:Int) !=1) (
 Q (.bool false) h7) (
 J9 ((y1p,y1n,y1c),⟨b1,0,none⟩,b8,()) h7)) (
 J9 ((y1p,y1n,y1c),⟨b1,0,none⟩,b8,()) h7)) (
 J9 ((y1p,y1n,y1c),⟨b1,0,none⟩,b8,()) h7)) (
 J9 ((y1p,y1n,y1c),⟨b1,0,none⟩,b8,()) h7))) (
 ifB (!b5) (
 ifB (!b8) (
 ldInt .i64 h7 ⟨b1,0,none⟩ fun n54=>
 ifB (n54 !=5) (
 ifB ((y1n:Int) !=1) (
 Q (.bool false) h7) (
 J9 ((y1p,y1n,y1c),⟨b1,0,none⟩,b8,()) h7)) (
 J9 ((y1p,y1n,y1c),⟨b1,0,none⟩,b8,()) h7)) (
 J9 ((y1p,y1n,y1c),⟨b1,0,none⟩,b8,()) h7)) (
 J9 ((y1p,y1n,y1c),⟨b1,0,none⟩,b8,()) h7))))
noncomputable def tab_ref17_may:Tab:=tb (lookT .done [(17,(ones [0,1,2,5,6,3,4,7,8,9] .done))]) (lookT [] [(7,[(1,SL),(2,.sc (.adr)),(6,BO),(7,SL),(8,I6)]),(10,[(1,SL),(2,.sc (.adr)),(6,BO),(7,SL),(8,I6),(9,I6)])]) (lookT none [(5,some [(1,SL),(2,.sc (.adr)),(6,BO)])])
theorem call_ref17_may (y0:TS A2) (y1p:OA) (y1n y1c:Nat) {h:Heap} {Q:VH} (H:ref17_may y0 y1p y1n y1c h Q):callP P n_ref17_may #[(agS A2 y0),(.slice y1p y1n y1c)] h Q:=
 @callP_of P n_ref17_may Tryz.f87 tab_ref17_may [(agS A2 y0),(.slice y1p y1n y1c)] h Q mixed Tryz.func87 Tryz.call87 (by kernel_rfl) (Eq.mpr (by kernel_rfl) H)
def ref01_May (y0:Int) (h:Heap) (Q:VH):Prop:=
 ifB (decide (y0≥1)) (
 Q (.bool (decide (y0≤64))) h) (
 Q (.bool false) h)
noncomputable def tab_ref01_May:Tab:=tb (lookT .done []) (lookT [] []) (lookT none [])
theorem call_ref01_May (y0:Int) {h:Heap} {Q:VH} (H:ref01_May y0 h Q):callP P n_ref01_May #[(.int .i64 y0)] h Q:=
 @callP_of P n_ref01_May Tryz.f123 tab_ref01_May [(.int .i64 y0)] h Q mixed Tryz.func123 Tryz.call123 (by kernel_rfl) (Eq.mpr (by kernel_rfl) H)
def ref01_Low_l3 (Q:VH) (K1:(Int×Int×Int×Unit)→Heap→Prop) (y0 y3 y4:Int) (h1:Heap):Prop:=
 ifB (decide (y4<y0)) (
 K1 (y0,(IntKind.wrap .i64 (y3*2)),(IntKind.wrap .i64 (y4+1)),()) h1) (
 Q (.int .i64 y3) h1)
def ref01_Low (y0:Int) (h:Heap) (Q:VH):Prop:=
 LoopS (S:=(Int×Int×Int×Unit)) (fun K1 s h=>ref01_Low_l3 Q K1 s.1 s.2.1 s.2.2.1 h) (y0,(-1:Int),(1:Int),()) h
noncomputable def tab_ref01_Low:Tab:=tb (lookT .done []) (lookT [] [(3,[(0,I6),(3,I6),(4,I6)])]) (lookT none [])
theorem call_ref01_Low (y0:Int) {h:Heap} {Q:VH} (H:ref01_Low y0 h Q):callP P n_ref01_Low #[(.int .i64 y0)] h Q:=
 @callP_of P n_ref01_Low Tryz.f124 tab_ref01_Low [(.int .i64 y0)] h Q mixed Tryz.func124 Tryz.call124 (by kernel_rfl) (Eq.mpr (by kernel_rfl) H)
def ref01_Clamp (y0 y1 y2:Int) (h:Heap) (Q:VH):Prop:=
 ifB (decide (y0<y1)) (
 Q (.int .i64 y1) h) (
 ifB (decide (y0>y2)) (
 Q (.int .i64 y2) h) (
 Q (.int .i64 y0) h))
noncomputable def tab_ref01_Clamp:Tab:=tb (lookT .done []) (lookT [] []) (lookT none [])
theorem call_ref01_Clamp (y0 y1 y2:Int) {h:Heap} {Q:VH} (H:ref01_Clamp y0 y1 y2 h Q):callP P n_ref01_Clamp #[(.int .i64 y0),(.int .i64 y1),(.int .i64 y2)] h Q:=
 @callP_of P n_ref01_Clamp Tryz.f93 tab_ref01_Clamp [(.int .i64 y0),(.int .i64 y1),(.int .i64 y2)] h Q mixed Tryz.func93 Tryz.call93 (by kernel_rfl) (Eq.mpr (by kernel_rfl) H)
def ref01_Sat (y0 y1:Int) (h:Heap) (Q:VH):Prop:=
 callBool P n_ref01_May #[(.int .i64 y1)] h fun b2 h1=>
 ifB (!b2) (
 Q (.int .i64 0) h1) (
 callInt P .i64 n_ref01_Low #[(.int .i64 y1)] h1 fun n4 h3=>
 callInt P .i64 n_ref01_Clamp #[(.int .i64 y0),(.int .i64 n4),(.int .i64 (IntKind.wrap .i64 ((-1:Int)-n4)))] h3 fun n6 h5=>
 Q (.int .i64 n6) h5)
noncomputable def tab_ref01_Sat:Tab:=tb (lookT .done []) (lookT [] []) (lookT none [])
theorem call_ref01_Sat (y0 y1:Int) {h:Heap} {Q:VH} (H:ref01_Sat y0 y1 h Q):callP P n_ref01_Sat #[(.int .i64 y0),(.int .i64 y1)] h Q:=
 @callP_of P n_ref01_Sat Tryz.f111 tab_ref01_Sat [(.int .i64 y0),(.int .i64 y1)] h Q mixed Tryz.func111 Tryz.call111 (by kernel_rfl) (Eq.mpr (by kernel_rfl) H)
def ref01_Mul_j5 (Q:VH) (y0 y1:Int) (t4:Addr) (h12:Heap):Prop:=
 neI y1 fun _=>
 ifB ((IntKind.wrap .i64 (Int.tdiv (IntKind.wrap .i64 (y0*y1)) y1)) !=y0) (
 stI h12 t4 (.int .i64 0) fun h13=>
 stI h13 (t4.add 1) (.bool false) fun h14=>
 ldInt .i64 h14 t4 fun n15=>
 ldBool h14 (t4.add 1) fun b16=>
 Q (.agg #[(.int .i64 n15),(.bool b16)]) h14) (
 stI h12 t4 (.int .i64 (IntKind.wrap .i64 (y0*y1))) fun h17=>
 stI h17 (t4.add 1) (.bool true) fun h18=>
 ldInt .i64 h18 t4 fun n19=>
 ldBool h18 (t4.add 1) fun b20=>
 Q (.agg #[(.int .i64 n19),(.bool b20)]) h18)
def ref01_Mul (y0 y1:Int) (h:Heap) (Q:VH):Prop:=
 newI h (.cells #[(.int .i64 0),(.bool false)] 122 (0,0)) fun b1 h2=>
 ifB (y0==0) (
 stI h2 ⟨b1,0,none⟩ (.int .i64 0) fun h3=>
 stI h3 ⟨b1,1,none⟩ (.bool true) fun h4=>
 ldInt .i64 h4 ⟨b1,0,none⟩ fun n5=>
 ldBool h4 ⟨b1,1,none⟩ fun b6=>
 Q (.agg #[(.int .i64 n5),(.bool b6)]) h4) (
 ifB (y1==0) (
 stI h2 ⟨b1,0,none⟩ (.int .i64 0) fun h7=>
 stI h7 ⟨b1,1,none⟩ (.bool true) fun h8=>
 ldInt .i64 h8 ⟨b1,0,none⟩ fun n9=>
 ldBool h8 ⟨b1,1,none⟩ fun b10=>
 Q (.agg #[(.int .i64 n9),(.bool b10)]) h8) (
 ∃J11:(Int×Int×Addr×Unit)→Heap→Prop,(∀s h,J11 s h→ref01_Mul_j5 Q s.1 s.2.1 s.2.2.1 h)∧
 ifB (y0==(-1:Int)) (
 ifB (y1==(-9223372036854775808:Int)) (
 stI h2 ⟨b1,0,none⟩ (.int .i64 0) fun h21=>
 stI h21 ⟨b1,1,none⟩ (.bool false) fun h22=>
 ldInt .i64 h22 ⟨b1,0,none⟩ fun n23=>
 ldBool h22 ⟨b1,1,none⟩ fun b24=>
 Q (.agg #[(.int .i64 n23),(.bool b24)]) h22) (
 ifB (y1==(-1:Int)) (
 ifB (y0==(-9223372036854775808:Int)) (
 stI h2 ⟨b1,0,none⟩ (.int .i64 0) fun h25=>
 stI h25 ⟨b1,1,none⟩ (.bool false) fun h26=>
 ldInt .i64 h26 ⟨b1,0,none⟩ fun n27=>
 ldBool h26 ⟨b1,1,none⟩ fun b28=>
 Q (.agg #[(.int .i64 n27),(.bool b28)]) h26) (
 J11 (y0,y1,⟨b1,0,none⟩,()) h2)) (
 J11 (y0,y1,⟨b1,0,none⟩,()) h2))) (
 ifB (y1==(-1:Int)) (
 ifB (y0==(-9223372036854775808:Int)) (
 stI h2 ⟨b1,0,none⟩ (.int .i64 0) fun h29=>
 stI h29 ⟨b1,1,none⟩ (.bool false) fun h30=>
 ldInt .i64 h30 ⟨b1,0,none⟩ fun n31=>
 ldBool h30 ⟨b1,1,none⟩ fun b32=>
 Q (.agg #[(.int .i64 n31),(.bool b32)]) h30) (
 J11 (y0,y1,⟨b1,0,none⟩,()) h2)) (
 J11 (y0,y1,⟨b1,0,none⟩,()) h2))))
noncomputable def tab_ref01_Mul:Tab:=tb (lookT .done []) (lookT [] []) (lookT none [(5,some [(0,I6),(1,I6),(4,.sc (.adr))])])
theorem call_ref01_Mul (y0 y1:Int) {h:Heap} {Q:VH} (H:ref01_Mul y0 y1 h Q):callP P n_ref01_Mul #[(.int .i64 y0),(.int .i64 y1)] h Q:=
 @callP_of P n_ref01_Mul Tryz.f113 tab_ref01_Mul [(.int .i64 y0),(.int .i64 y1)] h Q mixed Tryz.func113 Tryz.call113 (by kernel_rfl) (Eq.mpr (by kernel_rfl) H)
def ref02_power_l3 (Q:VH) (K1:(Int×Int×Int×Unit)→Heap→Prop) (y0 y3 y4:Int) (h1:Heap):Prop:=
 ifB (decide (y4<y0)) (
 K1 (y0,(IntKind.wrap .i64 (y3*2)),(IntKind.wrap .i64 (y4+1)),()) h1) (
 Q (.int .i64 y3) h1)
def ref02_power (y0:Int) (h:Heap) (Q:VH):Prop:=
 LoopS (S:=(Int×Int×Int×Unit)) (fun K1 s h=>ref02_power_l3 Q K1 s.1 s.2.1 s.2.2.1 h) (y0,(1:Int),(0:Int),()) h
noncomputable def tab_ref02_power:Tab:=tb (lookT .done []) (lookT [] [(3,[(0,I6),(3,I6),(4,I6)])]) (lookT none [])
theorem call_ref02_power (y0:Int) {h:Heap} {Q:VH} (H:ref02_power y0 h Q):callP P n_ref02_power #[(.int .i64 y0)] h Q:=
 @callP_of P n_ref02_power Tryz.f125 tab_ref02_power [(.int .i64 y0)] h Q mixed Tryz.func125 Tryz.call125 (by kernel_rfl) (Eq.mpr (by kernel_rfl) H)
def ref02_Quot (y0 y1:Int) (h:Heap) (Q:VH):Prop:=
 neI y1 fun _=>
 neI y1 fun _=>
 ifB (decide ((Int.tmod y0 y1)<0)) (
 Q (.int .i64 (IntKind.wrap .i64 ((IntKind.wrap .i64 (Int.tdiv y0 y1))-1))) h) (
 Q (.int .i64 (IntKind.wrap .i64 (Int.tdiv y0 y1))) h)
noncomputable def tab_ref02_Quot:Tab:=tb (lookT .done []) (lookT [] []) (lookT none [])
theorem call_ref02_Quot (y0 y1:Int) {h:Heap} {Q:VH} (H:ref02_Quot y0 y1 h Q):callP P n_ref02_Quot #[(.int .i64 y0),(.int .i64 y1)] h Q:=
 @callP_of P n_ref02_Quot Tryz.f121 tab_ref02_Quot [(.int .i64 y0),(.int .i64 y1)] h Q mixed Tryz.func121 Tryz.call121 (by kernel_rfl) (Eq.mpr (by kernel_rfl) H)
def ref02_Rest (y0 y1:Int) (h:Heap) (Q:VH):Prop:=
 callInt P .i64 n_ref02_Quot #[(.int .i64 y0),(.int .i64 y1)] h fun n2 h1=>
 Q (.int .i64 (IntKind.wrap .i64 (y0-(IntKind.wrap .i64 (n2*y1))))) h1
noncomputable def tab_ref02_Rest:Tab:=tb (lookT .done []) (lookT [] []) (lookT none [])
theorem call_ref02_Rest (y0 y1:Int) {h:Heap} {Q:VH} (H:ref02_Rest y0 y1 h Q):callP P n_ref02_Rest #[(.int .i64 y0),(.int .i64 y1)] h Q:=
 @callP_of P n_ref02_Rest Tryz.f122 tab_ref02_Rest [(.int .i64 y0),(.int .i64 y1)] h Q mixed Tryz.func122 Tryz.call122 (by kernel_rfl) (Eq.mpr (by kernel_rfl) H)
def ref02_Div (y0 y1:Int) (h:Heap) (Q:VH):Prop:=
 ifB (decide (y1<1)) (
 Q (.int .i64 0) h) (
 callInt P .i64 n_ref02_Quot #[(.int .i64 y0),(.int .i64 y1)] h fun n2 h1=>
 callInt P .i64 n_ref02_Rest #[(.int .i64 y0),(.int .i64 y1)] h1 fun n4 h3=>
 ifB (decide (n4≥(IntKind.wrap .i64 (y1-n4)))) (
 Q (.int .i64 (IntKind.wrap .i64 (n2+1))) h3) (
 Q (.int .i64 n2) h3))
noncomputable def tab_ref02_Div:Tab:=tb (lookT .done []) (lookT [] []) (lookT none [])
theorem call_ref02_Div (y0 y1:Int) {h:Heap} {Q:VH} (H:ref02_Div y0 y1 h Q):callP P n_ref02_Div #[(.int .i64 y0),(.int .i64 y1)] h Q:=
 @callP_of P n_ref02_Div Tryz.f110 tab_ref02_Div [(.int .i64 y0),(.int .i64 y1)] h Q mixed Tryz.func110 Tryz.call110 (by kernel_rfl) (Eq.mpr (by kernel_rfl) H)
def ref02_Half (y0 y1:Int) (h:Heap) (Q:VH):Prop:=
 ifB (decide (y1<0)) (
 Q (.int .i64 0) h) (
 ifB (decide (y1>62)) (
 Q (.int .i64 0) h) (
 callInt P .i64 n_ref02_power #[(.int .i64 y1)] h fun n2 h1=>
 callInt P .i64 n_ref02_Div #[(.int .i64 y0),(.int .i64 n2)] h1 fun n4 h3=>
 Q (.int .i64 n4) h3))
noncomputable def tab_ref02_Half:Tab:=tb (lookT .done []) (lookT [] []) (lookT none [])
theorem call_ref02_Half (y0 y1:Int) {h:Heap} {Q:VH} (H:ref02_Half y0 y1 h Q):callP P n_ref02_Half #[(.int .i64 y0),(.int .i64 y1)] h Q:=
 @callP_of P n_ref02_Half Tryz.f114 tab_ref02_Half [(.int .i64 y0),(.int .i64 y1)] h Q mixed Tryz.func114 Tryz.call114 (by kernel_rfl) (Eq.mpr (by kernel_rfl) H)
def ref02_Scale_j3 (Q:VH) (y0 y1 y2:Int) (h2:Heap):Prop:=
 callP P n_ref01_Mul #[(.int .i64 y0),(.int .i64 y1)] h2 fun v4 h3=>
 ∃n5:Int,∃b6:Bool,v4=(.agg #[(.int .i64 n5),(.bool b6)])∧
 newI h3 (.cells #[(.int .i64 0),(.bool false)] 122 (0,0)) fun b7 h8=>
 stI h8 ⟨b7,0,none⟩ (.int .i64 n5) fun h9=>
 stI h9 ⟨b7,1,none⟩ (.bool b6) fun h10=>
 ldBool h10 ⟨b7,1,none⟩ fun b11=>
 ifB (!b11) (
 ifB (decide (y0<0)) (
 Q (.int .i64 (-2147483648:Int)) h10) (
 ldBool h10 ⟨b7,1,none⟩ fun b12=>
 ifB (!b12) (
 Q (.int .i64 2147483647) h10) (
 ldInt .i64 h10 ⟨b7,0,none⟩ fun n13=>
 callInt P .i64 n_ref02_Half #[(.int .i64 n13),(.int .i64 y2)] h10 fun n15 h14=>
 callInt P .i64 n_ref01_Sat #[(.int .i64 n15),(.int .i64 32)] h14 fun n17 h16=>
 Q (.int .i64 n17) h16))) (
 ldBool h10 ⟨b7,1,none⟩ fun b18=>
 ifB (!b18) (
 Q (.int .i64 2147483647) h10) (
 ldInt .i64 h10 ⟨b7,0,none⟩ fun n19=>
 callInt P .i64 n_ref02_Half #[(.int .i64 n19),(.int .i64 y2)] h10 fun n21 h20=>
 callInt P .i64 n_ref01_Sat #[(.int .i64 n21),(.int .i64 32)] h20 fun n23 h22=>
 Q (.int .i64 n23) h22))
def ref02_Scale (y0 y1 y2:Int) (h:Heap) (Q:VH):Prop:=
 ∃J1:(Int×Int×Int×Unit)→Heap→Prop,(∀s h,J1 s h→ref02_Scale_j3 Q s.1 s.2.1 s.2.2.1 h)∧
 ifB (decide (y1<0)) (
 Q (.int .i64 0) h) (
 ifB (decide (y1>32767)) (
 Q (.int .i64 0) h) (
 ifB (decide (y2<0)) (
 Q (.int .i64 0) h) (
 ifB (decide (y2>30)) (
 Q (.int .i64 0) h) (
 J1 (y0,y1,y2,()) h))))
noncomputable def tab_ref02_Scale:Tab:=tb (lookT .done []) (lookT [] []) (lookT none [(3,some [(0,I6),(1,I6),(2,I6)])])
theorem call_ref02_Scale (y0 y1 y2:Int) {h:Heap} {Q:VH} (H:ref02_Scale y0 y1 y2 h Q):callP P n_ref02_Scale #[(.int .i64 y0),(.int .i64 y1),(.int .i64 y2)] h Q:=
 @callP_of P n_ref02_Scale Tryz.f94 tab_ref02_Scale [(.int .i64 y0),(.int .i64 y1),(.int .i64 y2)] h Q mixed Tryz.func94 Tryz.call94 (by kernel_rfl) (Eq.mpr (by kernel_rfl) H)
def ref17_post (y0:TS A2) (y1:Int) (h:Heap) (Q:VH):Prop:=
 newI h (.cells (mkS' A2 y0).toArray 40 (0,0)) fun b1 h2=>
 callInt P .i64 n_ref01_Sat #[(.int .i64 y1),(.int .i64 32)] h2 fun n4 h3=>
 ldInt .i64 h3 ⟨b1,14,none⟩ fun n5=>
 ifB ((andI .i64 n5 1)==1) (
 ldInt .i64 h3 ⟨b1,10,none⟩ fun n6=>
 ldInt .i64 h3 ⟨b1,11,none⟩ fun n7=>
 callInt P .i64 n_ref02_Scale #[(.int .i64 n4),(.int .i64 n6),(.int .i64 n7)] h3 fun n9 h8=>
 ldInt .i64 h8 ⟨b1,14,none⟩ fun n10=>
 ifB ((andI .i64 n10 2)==2) (
 ldInt .i64 h8 ⟨b1,12,none⟩ fun n11=>
 ldInt .i64 h8 ⟨b1,13,none⟩ fun n12=>
 callInt P .i64 n_ref01_Clamp #[(.int .i64 n9),(.int .i64 n11),(.int .i64 n12)] h8 fun n14 h13=>
 Q (.int .i64 n14) h13) (
 Q (.int .i64 n9) h8)) (
 ldInt .i64 h3 ⟨b1,14,none⟩ fun n15=>
 ifB ((andI .i64 n15 2)==2) (
 ldInt .i64 h3 ⟨b1,12,none⟩ fun n16=>
 ldInt .i64 h3 ⟨b1,13,none⟩ fun n17=>
 callInt P .i64 n_ref01_Clamp #[(.int .i64 n4),(.int .i64 n16),(.int .i64 n17)] h3 fun n19 h18=>
 Q (.int .i64 n19) h18) (
 Q (.int .i64 n4) h3))
noncomputable def tab_ref17_post:Tab:=tb (lookT .done []) (lookT [] []) (lookT none [])
theorem call_ref17_post (y0:TS A2) (y1:Int) {h:Heap} {Q:VH} (H:ref17_post y0 y1 h Q):callP P n_ref17_post #[(agS A2 y0),(.int .i64 y1)] h Q:=
 @callP_of P n_ref17_post Tryz.f108 tab_ref17_post [(agS A2 y0),(.int .i64 y1)] h Q mixed Tryz.func108 Tryz.call108 (by kernel_rfl) (Eq.mpr (by kernel_rfl) H)
def ref17_weighed_l11 (Q:VH) (K1:YH Y33) (K2:YH Y34) (K3:YH Y35) (y1p:OA) (y1n y1c:Nat) (y2:Addr) (y5:Int) (y6p:OA) (y6n y6c:Nat) (y7 y8 y9 y10:Int) (h11:Heap):Prop:=
 ifB (decide (y10<y5)) (
 ldInt .i64 h11 y2 fun n12=>
 ifB (n12 !=2) (
 idxI y1p y9 y1n fun a13=>
 ldSlice h11 (y2.add 8) fun p14 l14 c14=>
 idxI p14 (IntKind.wrap .i64 ((IntKind.wrap .i64 ((IntKind.wrap .i64 ((IntKind.wrap .i64 (y7*(y1n:Int)))+y9))*y5))+y10)) l14 fun a15=>
 ldInt .i64 h11 (a15.add ((IntKind.wrap .i64 ((IntKind.wrap .i64 ((IntKind.wrap .i64 ((IntKind.wrap .i64 (y7*(y1n:Int)))+y9))*y5))+y10)).toNat*1)) fun n16=>
 ldSlice h11 (a13.add (y9.toNat*1)) fun p17 l17 c17=>
 idxI p17 y10 l17 fun a18=>
 ldInt .i64 h11 (a18.add (y10.toNat*1)) fun n19=>
 K3 ((y1p,y1n,y1c),y2,y5,(y6p,y6n,y6c),y7,(IntKind.wrap .i64 (y8+(IntKind.wrap .i64 (n16*n19)))),y9,(IntKind.wrap .i64 (y10+1)),()) h11) (
 ifB (y10==y7) (
 idxI y1p y9 y1n fun a20=>
 ldSlice h11 (y2.add 8) fun p21 l21 c21=>
 idxI p21 (IntKind.wrap .i64 ((IntKind.wrap .i64 (y7*(y1n:Int)))+y9)) l21 fun a22=>
 ldInt .i64 h11 (a22.add ((IntKind.wrap .i64 ((IntKind.wrap .i64 (y7*(y1n:Int)))+y9)).toNat*1)) fun n23=>
 ldSlice h11 (a20.add (y9.toNat*1)) fun p24 l24 c24=>
 idxI p24 y10 l24 fun a25=>
 ldInt .i64 h11 (a25.add (y10.toNat*1)) fun n26=>
 K3 ((y1p,y1n,y1c),y2,y5,(y6p,y6n,y6c),y7,(IntKind.wrap .i64 (y8+(IntKind.wrap .i64 (n23*n26)))),y9,(IntKind.wrap .i64 (y10+1)),()) h11) (
 K3 ((y1p,y1n,y1c),y2,y5,(y6p,y6n,y6c),y7,y8,y9,(IntKind.wrap .i64 (y10+1)),()) h11))) (
 K2 ((y1p,y1n,y1c),y2,y5,(y6p,y6n,y6c),y7,y8,(IntKind.wrap .i64 (y9+1)),()) h11)
def ref17_weighed_l8 (Q:VH) (K1:YH Y33) (K2:YH Y34) (y1p:OA) (y1n y1c:Nat) (y2:Addr) (y5:Int) (y6p:OA) (y6n y6c:Nat) (y7 y8 y9:Int) (h10:Heap):Prop:=
 ifB (decide (y9<(y1n:Int))) (
 LoopS (S:=Y35) (fun K3 s h=>ref17_weighed_l11 Q K1 K2 K3 s.1.1 s.1.2.1 s.1.2.2 s.2.1 s.2.2.1 s.2.2.2.1.1 s.2.2.2.1.2.1 s.2.2.2.1.2.2 s.2.2.2.2.1 s.2.2.2.2.2.1 s.2.2.2.2.2.2.1 s.2.2.2.2.2.2.2.1 h) ((y1p,y1n,y1c),y2,y5,(y6p,y6n,y6c),y7,y8,y9,(0:Int),()) h10) (
 ldAg A2 h10 y2 fun x27=>
 callInt P .i64 n_ref17_post #[(agS A2 x27),(.int .i64 y8)] h10 fun n29 h28=>
 newI h28 (.cells #[(.int .i64 n29)] 3 (0,0)) fun b30 h31=>
 appI 3 1 8 (.int .i64 0) y6p y6n y6c (some ⟨b30,0,none⟩) 1 h31 fun p32 l32 c32 h33=>
 K1 ((y1p,y1n,y1c),y2,y5,(p32,l32,c32),(IntKind.wrap .i64 (y7+1)),()) h33)
def ref17_weighed_l4 (Q:VH) (K1:YH Y33) (y1p:OA) (y1n y1c:Nat) (y2:Addr) (y5:Int) (y6p:OA) (y6n y6c:Nat) (y7:Int) (h5:Heap):Prop:=
 ldSlice h5 (y2.add 9) fun p6 l6 c6=>
 ifB (decide (y7<(l6:Int))) (
 ldSlice h5 (y2.add 9) fun p7 l7 c7=>
 idxI p7 y7 l7 fun a8=>
 ldInt .i64 h5 (a8.add (y7.toNat*1)) fun n9=>
 LoopS (S:=Y34) (fun K2 s h=>ref17_weighed_l8 Q K1 K2 s.1.1 s.1.2.1 s.1.2.2 s.2.1 s.2.2.1 s.2.2.2.1.1 s.2.2.2.1.2.1 s.2.2.2.1.2.2 s.2.2.2.2.1 s.2.2.2.2.2.1 s.2.2.2.2.2.2.1 h) ((y1p,y1n,y1c),y2,y5,(y6p,y6n,y6c),y7,n9,(0:Int),()) h5) (
 Q (.slice y6p y6n y6c) h5)
def ref17_weighed (y0:TS A2) (y1p:OA) (y1n y1c:Nat) (h:Heap) (Q:VH):Prop:=
 newI h (.cells (mkS' A2 y0).toArray 40 (0,0)) fun b1 h2=>
 idxI y1p 0 y1n fun a3=>
 ldSlice h2 (a3.add ((0:Int).toNat*1)) fun p4 l4 c4=>
 LoopS (S:=Y33) (fun K1 s h=>ref17_weighed_l4 Q K1 s.1.1 s.1.2.1 s.1.2.2 s.2.1 s.2.2.1 s.2.2.2.1.1 s.2.2.2.1.2.1 s.2.2.2.1.2.2 s.2.2.2.2.1 h) ((y1p,y1n,y1c),⟨b1,0,none⟩,(l4:Int),(none,0,0),(0:Int),()) h2
noncomputable def tab_ref17_weighed:Tab:=tb (lookT .done [(14,(ones [0,1,3,4,5,6,7,8,9,10,11,12,15,16,17,19,2,13,14,18,20,21,22,23,24] .done)),(16,(ones [0,1,3,4,5,6,7,8,11,12,13,15,2,9,10,14,16,17,18,19,20] .done))]) (lookT [] [(4,[(1,SL),(2,.sc (.adr)),(5,I6),(6,SL),(7,I6)]),(8,[(1,SL),(2,.sc (.adr)),(5,I6),(6,SL),(7,I6),(8,I6),(9,I6)]),(11,[(1,SL),(2,.sc (.adr)),(5,I6),(6,SL),(7,I6),(8,I6),(9,I6),(10,I6)])]) (lookT none [])
theorem call_ref17_weighed (y0:TS A2) (y1p:OA) (y1n y1c:Nat) {h:Heap} {Q:VH} (H:ref17_weighed y0 y1p y1n y1c h Q):callP P n_ref17_weighed #[(agS A2 y0),(.slice y1p y1n y1c)] h Q:=
 @callP_of P n_ref17_weighed Tryz.f88 tab_ref17_weighed [(agS A2 y0),(.slice y1p y1n y1c)] h Q mixed Tryz.func88 Tryz.call88 (by kernel_rfl) (Eq.mpr (by kernel_rfl) H)
def ref17_most_l3 (Q:VH) (K1:(S3×Int×Int×Unit)→Heap→Prop) (y0p:OA) (y0n y0c:Nat) (y3 y4:Int) (h1:Heap):Prop:=
 ifB (decide (y4<(y0n:Int))) (
 idxI y0p y4 y0n fun a2=>
 idxI y0p y3 y0n fun a3=>
 ldInt .i64 h1 (a2.add (y4.toNat*1)) fun n4=>
 ldInt .i64 h1 (a3.add (y3.toNat*1)) fun n5=>
 ifB (decide (n4>n5)) (
 K1 ((y0p,y0n,y0c),y4,(IntKind.wrap .i64 (y4+1)),()) h1) (
 K1 ((y0p,y0n,y0c),y3,(IntKind.wrap .i64 (y4+1)),()) h1)) (
 Q (.int .i64 y3) h1)
def ref17_most (y0p:OA) (y0n y0c:Nat) (h:Heap) (Q:VH):Prop:=
 LoopS (S:=(S3×Int×Int×Unit)) (fun K1 s h=>ref17_most_l3 Q K1 s.1.1 s.1.2.1 s.1.2.2 s.2.1 s.2.2.1 h) ((y0p,y0n,y0c),(0:Int),(0:Int),()) h
noncomputable def tab_ref17_most:Tab:=tb (lookT .done [(5,(ones [0,1,2,4,5,6,3,7,8] .done))]) (lookT [] [(3,[(0,SL),(3,I6),(4,I6)])]) (lookT none [])
theorem call_ref17_most (y0p:OA) (y0n y0c:Nat) {h:Heap} {Q:VH} (H:ref17_most y0p y0n y0c h Q):callP P n_ref17_most #[(.slice y0p y0n y0c)] h Q:=
 @callP_of P n_ref17_most Tryz.f89 tab_ref17_most [(.slice y0p y0n y0c)] h Q mixed Tryz.func89 Tryz.call89 (by kernel_rfl) (Eq.mpr (by kernel_rfl) H)
def ref17_column_l3 (Q:VH) (K1:YH Y13) (y0p:OA) (y0n y0c:Nat) (y1:Int) (y5p:OA) (y5n y5c:Nat) (y6:Int) (h1:Heap):Prop:=
 ifB (decide (y6<(y0n:Int))) (
 idxI y0p y6 y0n fun a2=>
 ldSlice h1 (a2.add (y6.toNat*1)) fun p3 l3 c3=>
 idxI p3 y1 l3 fun a4=>
 ldInt .i64 h1 (a4.add (y1.toNat*1)) fun n5=>
 newI h1 (.cells #[(.int .i64 n5)] 3 (0,0)) fun b6 h7=>
 appI 3 1 8 (.int .i64 0) y5p y5n y5c (some ⟨b6,0,none⟩) 1 h7 fun p8 l8 c8 h9=>
 K1 ((y0p,y0n,y0c),y1,(p8,l8,c8),(IntKind.wrap .i64 (y6+1)),()) h9) (
 Q (.slice y5p y5n y5c) h1)
def ref17_column (y0p:OA) (y0n y0c:Nat) (y1:Int) (h:Heap) (Q:VH):Prop:=
 LoopS (S:=Y13) (fun K1 s h=>ref17_column_l3 Q K1 s.1.1 s.1.2.1 s.1.2.2 s.2.1 s.2.2.1.1 s.2.2.1.2.1 s.2.2.1.2.2 s.2.2.2.1 h) ((y0p,y0n,y0c),y1,(none,0,0),(0:Int),()) h
noncomputable def tab_ref17_column:Tab:=tb (lookT .done []) (lookT [] [(3,[(0,SL),(1,I6),(5,SL),(6,I6)])]) (lookT none [])
theorem call_ref17_column (y0p:OA) (y0n y0c:Nat) (y1:Int) {h:Heap} {Q:VH} (H:ref17_column y0p y0n y0c y1 h Q):callP P n_ref17_column #[(.slice y0p y0n y0c),(.int .i64 y1)] h Q:=
 @callP_of P n_ref17_column Tryz.f90 tab_ref17_column [(.slice y0p y0n y0c),(.int .i64 y1)] h Q mixed Tryz.func90 Tryz.call90 (by kernel_rfl) (Eq.mpr (by kernel_rfl) H)
def ref01_Sum_l4 (Q:VH) (K1:(S3×Addr×Int×Int×Int×Unit)→Heap→Prop) (y0p:OA) (y0n y0c:Nat) (t2:Addr) (y3 y4 y5:Int) (h3:Heap):Prop:=
 ifB (decide (y5<(y0n:Int))) (
 idxI y0p y5 y0n fun a4=>
 ldInt .i64 h3 (a4.add (y5.toNat*1)) fun n5=>
 idxI y0p y5 y0n fun a6=>
 ldInt .i64 h3 (a6.add (y5.toNat*1)) fun n7=>
 K1 ((y0p,y0n,y0c),t2,(IntKind.wrap .i64 (y3+(shrI n5 32))),(IntKind.wrap .i64 (y4+(andI .i64 n7 4294967295))),(IntKind.wrap .i64 (y5+1)),()) h3) (
 ifB (decide ((IntKind.wrap .i64 (y3+(shrI y4 32)))<(-2147483648:Int))) (
 stI h3 t2 (.int .i64 0) fun h8=>
 stI h8 (t2.add 1) (.bool false) fun h9=>
 ldInt .i64 h9 t2 fun n10=>
 ldBool h9 (t2.add 1) fun b11=>
 Q (.agg #[(.int .i64 n10),(.bool b11)]) h9) (
 ifB (decide ((IntKind.wrap .i64 (y3+(shrI y4 32)))>2147483647)) (
 stI h3 t2 (.int .i64 0) fun h12=>
 stI h12 (t2.add 1) (.bool false) fun h13=>
 ldInt .i64 h13 t2 fun n14=>
 ldBool h13 (t2.add 1) fun b15=>
 Q (.agg #[(.int .i64 n14),(.bool b15)]) h13) (
 stI h3 t2 (.int .i64 (IntKind.wrap .i64 ((shlI .i64 (IntKind.wrap .i64 (y3+(shrI y4 32))) 32)+(andI .i64 y4 4294967295)))) fun h16=>
 stI h16 (t2.add 1) (.bool true) fun h17=>
 ldInt .i64 h17 t2 fun n18=>
 ldBool h17 (t2.add 1) fun b19=>
 Q (.agg #[(.int .i64 n18),(.bool b19)]) h17)))
def ref01_Sum (y0p:OA) (y0n y0c:Nat) (h:Heap) (Q:VH):Prop:=
 newI h (.cells #[(.int .i64 0),(.bool false)] 122 (0,0)) fun b1 h2=>
 LoopS (S:=(S3×Addr×Int×Int×Int×Unit)) (fun K1 s h=>ref01_Sum_l4 Q K1 s.1.1 s.1.2.1 s.1.2.2 s.2.1 s.2.2.1 s.2.2.2.1 s.2.2.2.2.1 h) ((y0p,y0n,y0c),⟨b1,0,none⟩,(0:Int),(0:Int),(0:Int),()) h2
noncomputable def tab_ref01_Sum:Tab:=tb (lookT .done []) (lookT [] [(4,[(0,SL),(2,.sc (.adr)),(3,I6),(4,I6),(5,I6)])]) (lookT none [])
theorem call_ref01_Sum (y0p:OA) (y0n y0c:Nat) {h:Heap} {Q:VH} (H:ref01_Sum y0p y0n y0c h Q):callP P n_ref01_Sum #[(.slice y0p y0n y0c)] h Q:=
 @callP_of P n_ref01_Sum Tryz.f109 tab_ref01_Sum [(.slice y0p y0n y0c)] h Q mixed Tryz.func109 Tryz.call109 (by kernel_rfl) (Eq.mpr (by kernel_rfl) H)
def ref02_Mean (y0p:OA) (y0n y0c:Nat) (h:Heap) (Q:VH):Prop:=
 callP P n_ref01_Sum #[(.slice y0p y0n y0c)] h fun v2 h1=>
 ∃n3:Int,∃b4:Bool,v2=(.agg #[(.int .i64 n3),(.bool b4)])∧
 newI h1 (.cells #[(.int .i64 0),(.bool false)] 122 (0,0)) fun b5 h6=>
 stI h6 ⟨b5,0,none⟩ (.int .i64 n3) fun h7=>
 stI h7 ⟨b5,1,none⟩ (.bool b4) fun h8=>
 ldBool h8 ⟨b5,1,none⟩ fun b9=>
 ifB (!b9) (
 Q (.int .i64 0) h8) (
 ifB ((y0n:Int)==0) (
 Q (.int .i64 0) h8) (
 ldInt .i64 h8 ⟨b5,0,none⟩ fun n10=>
 callInt P .i64 n_ref02_Div #[(.int .i64 n10),(.int .i64 (y0n:Int))] h8 fun n12 h11=>
 Q (.int .i64 n12) h11))
noncomputable def tab_ref02_Mean:Tab:=tb (lookT .done []) (lookT [] []) (lookT none [])
theorem call_ref02_Mean (y0p:OA) (y0n y0c:Nat) {h:Heap} {Q:VH} (H:ref02_Mean y0p y0n y0c h Q):callP P n_ref02_Mean #[(.slice y0p y0n y0c)] h Q:=
 @callP_of P n_ref02_Mean Tryz.f91 tab_ref02_Mean [(.slice y0p y0n y0c)] h Q mixed Tryz.func91 Tryz.call91 (by kernel_rfl) (Eq.mpr (by kernel_rfl) H)
def ref01_plus (y0 y1:Int) (h:Heap) (Q:VH):Prop:=
 ifB (decide (y1>0)) (
 ifB (decide (y0>(IntKind.wrap .i64 ((9223372036854775807:Int)-y1)))) (
 Q (.int .i64 9223372036854775807) h) (
 ifB (decide (y1<0)) (
 ifB (decide (y0<(IntKind.wrap .i64 ((-9223372036854775808:Int)-y1)))) (
 Q (.int .i64 (-9223372036854775808:Int)) h) (
 Q (.int .i64 (IntKind.wrap .i64 (y0+y1))) h)) (
 Q (.int .i64 (IntKind.wrap .i64 (y0+y1))) h))) (
 ifB (decide (y1<0)) (
 ifB (decide (y0<(IntKind.wrap .i64 ((-9223372036854775808:Int)-y1)))) (
 Q (.int .i64 (-9223372036854775808:Int)) h) (
 Q (.int .i64 (IntKind.wrap .i64 (y0+y1))) h)) (
 Q (.int .i64 (IntKind.wrap .i64 (y0+y1))) h))
noncomputable def tab_ref01_plus:Tab:=tb (lookT .done []) (lookT [] []) (lookT none [])
theorem call_ref01_plus (y0 y1:Int) {h:Heap} {Q:VH} (H:ref01_plus y0 y1 h Q):callP P n_ref01_plus #[(.int .i64 y0),(.int .i64 y1)] h Q:=
 @callP_of P n_ref01_plus Tryz.f112 tab_ref01_plus [(.int .i64 y0),(.int .i64 y1)] h Q mixed Tryz.func112 Tryz.call112 (by kernel_rfl) (Eq.mpr (by kernel_rfl) H)
def ref01_Add_l3 (Q:VH) (K1:(Int×S3×Int×Int×Unit)→Heap→Prop) (y0:Int) (y1p:OA) (y1n y1c:Nat) (y5 y6:Int) (h1:Heap):Prop:=
 ifB (decide (y6<(y1n:Int))) (
 idxI y1p y6 y1n fun a2=>
 ldInt .i64 h1 (a2.add (y6.toNat*1)) fun n3=>
 callInt P .i64 n_ref01_plus #[(.int .i64 y5),(.int .i64 n3)] h1 fun n5 h4=>
 callInt P .i64 n_ref01_Sat #[(.int .i64 n5),(.int .i64 y0)] h4 fun n7 h6=>
 K1 (y0,(y1p,y1n,y1c),n7,(IntKind.wrap .i64 (y6+1)),()) h6) (
 Q (.int .i64 y5) h1)
def ref01_Add (y0:Int) (y1p:OA) (y1n y1c:Nat) (h:Heap) (Q:VH):Prop:=
 LoopS (S:=(Int×S3×Int×Int×Unit)) (fun K1 s h=>ref01_Add_l3 Q K1 s.1 s.2.1.1 s.2.1.2.1 s.2.1.2.2 s.2.2.1 s.2.2.2.1 h) (y0,(y1p,y1n,y1c),(0:Int),(0:Int),()) h
noncomputable def tab_ref01_Add:Tab:=tb (lookT .done []) (lookT [] [(3,[(0,I6),(1,SL),(5,I6),(6,I6)])]) (lookT none [])
theorem call_ref01_Add (y0:Int) (y1p:OA) (y1n y1c:Nat) {h:Heap} {Q:VH} (H:ref01_Add y0 y1p y1n y1c h Q):callP P n_ref01_Add #[(.int .i64 y0),(.slice y1p y1n y1c)] h Q:=
 @callP_of P n_ref01_Add Tryz.f92 tab_ref01_Add [(.int .i64 y0),(.slice y1p y1n y1c)] h Q mixed Tryz.func92 Tryz.call92 (by kernel_rfl) (Eq.mpr (by kernel_rfl) H)
def ref17_Frame_l19 (Q:VH) (K1:YH Y38) (y1p:OA) (y1n y1c:Nat) (y2:Addr) (y6p:OA) (y6n y6c:Nat) (y8:Int) (h8:Heap):Prop:=
 idxI y1p 0 y1n fun a9=>
 ldSlice h8 (a9.add ((0:Int).toNat*1)) fun p10 l10 c10=>
 ifB (decide (y8<(l10:Int))) (
 callSlice P n_ref17_column #[(.slice y1p y1n y1c),(.int .i64 y8)] h8 fun p12 l12 c12 h11=>
 idxI p12 0 l12 fun a13=>
 ldInt .i64 h11 (a13.add ((0:Int).toNat*1)) fun n14=>
 ldInt .i64 h11 y2 fun n15=>
 ifB (n15==3) (
 callInt P .i64 n_ref17_most #[(.slice p12 l12 c12)] h11 fun n17 h16=>
 idxI p12 n17 l12 fun a18=>
 ldInt .i64 h16 (a18.add (n17.toNat*1)) fun n19=>
 newI h16 (.cells #[(.int .i64 n19)] 3 (0,0)) fun b20 h21=>
 appI 3 1 8 (.int .i64 0) y6p y6n y6c (some ⟨b20,0,none⟩) 1 h21 fun p22 l22 c22 h23=>
 K1 ((y1p,y1n,y1c),y2,(p22,l22,c22),(IntKind.wrap .i64 (y8+1)),()) h23) (
 ifB (n15==5) (
 callInt P .i64 n_ref17_most #[(.slice p12 l12 c12)] h11 fun n25 h24=>
 idxI p12 n25 l12 fun a26=>
 ldInt .i64 h24 (a26.add (n25.toNat*1)) fun n27=>
 newI h24 (.cells #[(.int .i64 n27)] 3 (0,0)) fun b28 h29=>
 appI 3 1 8 (.int .i64 0) y6p y6n y6c (some ⟨b28,0,none⟩) 1 h29 fun p30 l30 c30 h31=>
 K1 ((y1p,y1n,y1c),y2,(p30,l30,c30),(IntKind.wrap .i64 (y8+1)),()) h31) (
 ifB (n15==4) (
 callInt P .i64 n_ref02_Mean #[(.slice p12 l12 c12)] h11 fun n33 h32=>
 newI h32 (.cells #[(.int .i64 n33)] 3 (0,0)) fun b34 h35=>
 appI 3 1 8 (.int .i64 0) y6p y6n y6c (some ⟨b34,0,none⟩) 1 h35 fun p36 l36 c36 h37=>
 K1 ((y1p,y1n,y1c),y2,(p36,l36,c36),(IntKind.wrap .i64 (y8+1)),()) h37) (
 ifB (n15==12) (
 callInt P .i64 n_ref02_Mean #[(.slice p12 l12 c12)] h11 fun n39 h38=>
 newI h38 (.cells #[(.int .i64 n39)] 3 (0,0)) fun b40 h41=>
 appI 3 1 8 (.int .i64 0) y6p y6n y6c (some ⟨b40,0,none⟩) 1 h41 fun p42 l42 c42 h43=>
 K1 ((y1p,y1n,y1c),y2,(p42,l42,c42),(IntKind.wrap .i64 (y8+1)),()) h43) (
 ifB (n15==7) (
 callInt P .i64 n_ref01_Add #[(.int .i64 32),(.slice p12 l12 c12)] h11 fun n45 h44=>
 newI h44 (.cells #[(.int .i64 n45)] 3 (0,0)) fun b46 h47=>
 appI 3 1 8 (.int .i64 0) y6p y6n y6c (some ⟨b46,0,none⟩) 1 h47 fun p48 l48 c48 h49=>
 K1 ((y1p,y1n,y1c),y2,(p48,l48,c48),(IntKind.wrap .i64 (y8+1)),()) h49) (
 ifB (n15==9) (
 ldInt .i64 h11 (y2.add 12) fun n50=>
 ldInt .i64 h11 (y2.add 13) fun n51=>
 callInt P .i64 n_ref01_Clamp #[(.int .i64 n14),(.int .i64 n50),(.int .i64 n51)] h11 fun n53 h52=>
 newI h52 (.cells #[(.int .i64 n53)] 3 (0,0)) fun b54 h55=>
 appI 3 1 8 (.int .i64 0) y6p y6n y6c (some ⟨b54,0,none⟩) 1 h55 fun p56 l56 c56 h57=>
 K1 ((y1p,y1n,y1c),y2,(p56,l56,c56),(IntKind.wrap .i64 (y8+1)),()) h57) (
 ifB (n15==10) (
 ldInt .i64 h11 (y2.add 10) fun n58=>
 ldInt .i64 h11 (y2.add 11) fun n59=>
 callInt P .i64 n_ref02_Scale #[(.int .i64 n14),(.int .i64 n58),(.int .i64 n59)] h11 fun n61 h60=>
 newI h60 (.cells #[(.int .i64 n61)] 3 (0,0)) fun b62 h63=>
 appI 3 1 8 (.int .i64 0) y6p y6n y6c (some ⟨b62,0,none⟩) 1 h63 fun p64 l64 c64 h65=>
 K1 ((y1p,y1n,y1c),y2,(p64,l64,c64),(IntKind.wrap .i64 (y8+1)),()) h65) (
 newI h11 (.cells #[(.int .i64 n14)] 3 (0,0)) fun b66 h67=>
 appI 3 1 8 (.int .i64 0) y6p y6n y6c (some ⟨b66,0,none⟩) 1 h67 fun p68 l68 c68 h69=>
 K1 ((y1p,y1n,y1c),y2,(p68,l68,c68),(IntKind.wrap .i64 (y8+1)),()) h69)))))))) (
 Q (.slice y6p y6n y6c) h8)
def ref17_Frame_j18 (Q:VH) (y1p:OA) (y1n y1c:Nat) (y2:Addr) (y6p:OA) (y6n y6c:Nat) (h7:Heap):Prop:=
 LoopS (S:=Y38) (fun K1 s h=>ref17_Frame_l19 Q K1 s.1.1 s.1.2.1 s.1.2.2 s.2.1 s.2.2.1.1 s.2.2.1.2.1 s.2.2.1.2.2 s.2.2.2.1 h) ((y1p,y1n,y1c),y2,(y6p,y6n,y6c),(0:Int),()) h7
def ref17_Frame_l12 (Q:VH) (J6:YH Y37) (K1:YH Y36) (y1p:OA) (y1n y1c:Nat) (y6p:OA) (y6n y6c:Nat) (y7:Int) (h80:Heap):Prop:=
 ifB (decide (y7<(y1n:Int))) (
 idxI y1p y7 y1n fun a81=>
 ldSlice h80 (a81.add (y7.toNat*1)) fun p82 l82 c82=>
 appI 3 1 8 (.int .i64 0) y6p y6n y6c p82 l82 h80 fun p83 l83 c83 h84=>
 K1 ((y1p,y1n,y1c),(p83,l83,c83),(IntKind.wrap .i64 (y7+1)),()) h84) (
 Q (.slice y6p y6n y6c) h80)
def ref17_Frame (y0:TS A2) (y1p:OA) (y1n y1c:Nat) (h:Heap) (Q:VH):Prop:=
 newI h (.cells (mkS' A2 y0).toArray 40 (0,0)) fun b1 h2=>
 ldAg A2 h2 ⟨b1,0,none⟩ fun x3=>
 callBool P n_ref17_may #[(agS A2 x3),(.slice y1p y1n y1c)] h2 fun b5 h4=>
 ifB (!b5) (
 Q (.slice none 0 0) h4) (
 ∃J6:YH Y37,(∀s h,J6 s h→ref17_Frame_j18 Q s.1.1 s.1.2.1 s.1.2.2 s.2.1 s.2.2.1.1 s.2.2.1.2.1 s.2.2.1.2.2 h)∧
 ldInt .i64 h4 ⟨b1,0,none⟩ fun n70=>
 ifB (n70==1) (
 ldAg A2 h4 ⟨b1,0,none⟩ fun x71=>
 callSlice P n_ref17_weighed #[(agS A2 x71),(.slice y1p y1n y1c)] h4 fun p73 l73 c73 h72=>
 Q (.slice p73 l73 c73) h72) (
 ifB (n70==2) (
 ldAg A2 h4 ⟨b1,0,none⟩ fun x74=>
 callSlice P n_ref17_weighed #[(agS A2 x74),(.slice y1p y1n y1c)] h4 fun p76 l76 c76 h75=>
 Q (.slice p76 l76 c76) h75) (
 ifB (n70==6) (
 ldAg A2 h4 ⟨b1,0,none⟩ fun x77=>
 callSlice P n_ref17_weighed #[(agS A2 x77),(.slice y1p y1n y1c)] h4 fun p79 l79 c79 h78=>
 Q (.slice p79 l79 c79) h78) (
 ifB (n70==8) (
 LoopS (S:=Y36) (fun K1 s h=>ref17_Frame_l12 Q J6 K1 s.1.1 s.1.2.1 s.1.2.2 s.2.1.1 s.2.1.2.1 s.2.1.2.2 s.2.2.1 h) ((y1p,y1n,y1c),(none,0,0),(0:Int),()) h4) (
 ifB (n70==11) (
 idxI y1p 0 y1n fun a85=>
 ldSlice h4 (a85.add ((0:Int).toNat*1)) fun p86 l86 c86=>
 callInt P .i64 n_ref17_most #[(.slice p86 l86 c86)] h4 fun n88 h87=>
 newI h87 (.cells #[(.int .i64 n88)] 3 (0,0)) fun b89 h90=>
 Q (.slice (some ⟨b89,0,none⟩) 1 1) h90) (
 J6 ((y1p,y1n,y1c),⟨b1,0,none⟩,(none,0,0),()) h4))))))
noncomputable def tab_ref17_Frame:Tab:=tb (lookT .done []) (lookT [] [(12,[(1,SL),(6,SL),(7,I6)]),(19,[(1,SL),(2,.sc (.adr)),(6,SL),(8,I6)])]) (lookT none [(18,some [(1,SL),(2,.sc (.adr)),(6,SL)])])
theorem call_ref17_Frame (y0:TS A2) (y1p:OA) (y1n y1c:Nat) {h:Heap} {Q:VH} (H:ref17_Frame y0 y1p y1n y1c h Q):callP P n_ref17_Frame #[(agS A2 y0),(.slice y1p y1n y1c)] h Q:=
 @callP_of P n_ref17_Frame Tryz.f66 tab_ref17_Frame [(agS A2 y0),(.slice y1p y1n y1c)] h Q mixed Tryz.func66 Tryz.call66 (by kernel_rfl) (Eq.mpr (by kernel_rfl) H)
def ref18_Node_l14 (Q:VH) (K1:YH Y39) (K2:YH Y40) (K3:YH Y41) (y1p:OA) (y1n y1c:Nat) (y2:Int) (y3:Addr) (y7p:OA) (y7n y7c:Nat) (y9:Bool) (y10p:OA) (y10n y10c:Nat) (y11:Int) (y12p:OA) (y12n y12c:Nat) (y13:Int) (h17:Heap):Prop:=
 ldInt .i64 h17 (y3.add 3) fun n18=>
 ifB (decide (y13<n18)) (
 idxI y1p 0 y1n fun a19=>
 ldSlice h17 (a19.add ((0:Int).toNat*1)) fun p20 l20 c20=>
 ldAg A2 h17 y3 fun x21=>
 ldAg A2 h17 y3 fun x22=>
 callInt P .i64 n_ref14_First #[(agS A2 x21),(.int .i64 y11)] h17 fun n24 h23=>
 holdW (watchL 0 y3 (mkS' A2 x22) 0) h23 (
 cellH h23 (a19.add ((0:Int).toNat*1))=some (.slice p20 l20 c20)∧
 callInt P .i64 n_ref18_gap #[(agS A2 x22)] h23 fun n26 h25=>
 holdW (watchL 0 y3 (mkS' A2 x21) 0) h25 (
 cellH h25 (a19.add ((0:Int).toNat*1))=some (.slice p20 l20 c20)∧
 callSlice P n_ref18_at #[(.slice p20 l20 c20),(.int .i64 (IntKind.wrap .i64 (n24+(IntKind.wrap .i64 (y13*n26))))),(.int .i64 y2)] h25 fun p28 l28 c28 h27=>
 holdW (watchL 0 y3 (mkS' A2 x22) 0) h27 (
 holdW (watchL 0 y3 (mkS' A2 x21) 0) h27 (
 newI h27 (.cells #[(.slice p28 l28 c28)] 22 (0,0)) fun b29 h30=>
 appI 22 1 24 (.slice none 0 0) y12p y12n y12c (some ⟨b29,0,none⟩) 1 h30 fun p31 l31 c31 h32=>
 holdW (watchL 0 y3 (mkS' A2 x22) 0) h32 (
 holdW (watchL 0 y3 (mkS' A2 x21) 0) h32 (
 cellH h32 (a19.add ((0:Int).toNat*1))=some (.slice p20 l20 c20)∧
 K3 ((y1p,y1n,y1c),y2,y3,(y7p,y7n,y7c),y9,(y10p,y10n,y10c),y11,(p31,l31,c31),(IntKind.wrap .i64 (y13+1)),()) h32))))))) (
 ldAg A2 h17 y3 fun x33=>
 callSlice P n_ref17_Frame #[(agS A2 x33),(.slice y12p y12n y12c)] h17 fun p35 l35 c35 h34=>
 newI h34 (.cells #[(.slice p35 l35 c35)] 22 (0,0)) fun b36 h37=>
 appI 22 1 24 (.slice none 0 0) y10p y10n y10c (some ⟨b36,0,none⟩) 1 h37 fun p38 l38 c38 h39=>
 K2 ((y1p,y1n,y1c),y2,y3,(y7p,y7n,y7c),y9,(p38,l38,c38),(IntKind.wrap .i64 (y11+1)),()) h39)
def ref18_Node_l20 (Q:VH) (K1:YH Y39) (K2:YH Y40) (K3:YH Y41) (y1p:OA) (y1n y1c:Nat) (y2:Int) (y3:Addr) (y7p:OA) (y7n y7c:Nat) (y9:Bool) (y10p:OA) (y10n y10c:Nat) (y11:Int) (y12p:OA) (y12n y12c:Nat) (y14:Int) (h50:Heap):Prop:=
 ifB (decide (y14<(y1n:Int))) (
 idxI y1p y14 y1n fun a51=>
 ldSlice h50 (a51.add (y14.toNat*1)) fun p52 l52 c52=>
 idxI p52 y11 l52 fun a53=>
 ldSlice h50 (a53.add (y11.toNat*1)) fun p54 l54 c54=>
 newI h50 (.cells #[(.slice p54 l54 c54)] 22 (0,0)) fun b55 h56=>
 appI 22 1 24 (.slice none 0 0) y12p y12n y12c (some ⟨b55,0,none⟩) 1 h56 fun p57 l57 c57 h58=>
 K3 ((y1p,y1n,y1c),y2,y3,(y7p,y7n,y7c),y9,(y10p,y10n,y10c),y11,(p57,l57,c57),(IntKind.wrap .i64 (y14+1)),()) h58) (
 ldAg A2 h50 y3 fun x59=>
 callSlice P n_ref17_Frame #[(agS A2 x59),(.slice y12p y12n y12c)] h50 fun p61 l61 c61 h60=>
 newI h60 (.cells #[(.slice p61 l61 c61)] 22 (0,0)) fun b62 h63=>
 appI 22 1 24 (.slice none 0 0) y10p y10n y10c (some ⟨b62,0,none⟩) 1 h63 fun p64 l64 c64 h65=>
 K2 ((y1p,y1n,y1c),y2,y3,(y7p,y7n,y7c),y9,(p64,l64,c64),(IntKind.wrap .i64 (y11+1)),()) h65)
def ref18_Node_l9 (Q:VH) (K1:YH Y39) (K2:YH Y40) (y1p:OA) (y1n y1c:Nat) (y2:Int) (y3:Addr) (y7p:OA) (y7n y7c:Nat) (y9:Bool) (y10p:OA) (y10n y10c:Nat) (y11:Int) (h13:Heap):Prop:=
 ldAg A2 h13 y3 fun x14=>
 callInt P .i64 n_ref14_Count #[(agS A2 x14),(.slice y7p y7n y7c)] h13 fun n16 h15=>
 ifB (decide (y11<n16)) (
 ifB y9 (
 LoopS (S:=Y41) (fun K3 s h=>ref18_Node_l14 Q K1 K2 K3 s.1.1 s.1.2.1 s.1.2.2 s.2.1 s.2.2.1 s.2.2.2.1.1 s.2.2.2.1.2.1 s.2.2.2.1.2.2 s.2.2.2.2.1 s.2.2.2.2.2.1.1 s.2.2.2.2.2.1.2.1 s.2.2.2.2.2.1.2.2 s.2.2.2.2.2.2.1 s.2.2.2.2.2.2.2.1.1 s.2.2.2.2.2.2.2.1.2.1 s.2.2.2.2.2.2.2.1.2.2 s.2.2.2.2.2.2.2.2.1 h) ((y1p,y1n,y1c),y2,y3,(y7p,y7n,y7c),y9,(y10p,y10n,y10c),y11,(none,0,0),(0:Int),()) h15) (
 ldInt .i64 h15 y3 fun n40=>
 ifB (n40==5) (
 idxI y1p 0 y1n fun a41=>
 ldSlice h15 (a41.add ((0:Int).toNat*1)) fun p42 l42 c42=>
 ldAg A2 h15 y3 fun x43=>
 callSlice P n_ref17_Frame #[(agS A2 x43),(.slice p42 l42 c42)] h15 fun p45 l45 c45 h44=>
 newI h44 (.cells #[(.slice p45 l45 c45)] 22 (0,0)) fun b46 h47=>
 appI 22 1 24 (.slice none 0 0) y10p y10n y10c (some ⟨b46,0,none⟩) 1 h47 fun p48 l48 c48 h49=>
 K2 ((y1p,y1n,y1c),y2,y3,(y7p,y7n,y7c),y9,(p48,l48,c48),(IntKind.wrap .i64 (y11+1)),()) h49) (
 LoopS (S:=Y41) (fun K3 s h=>ref18_Node_l20 Q K1 K2 K3 s.1.1 s.1.2.1 s.1.2.2 s.2.1 s.2.2.1 s.2.2.2.1.1 s.2.2.2.1.2.1 s.2.2.2.1.2.2 s.2.2.2.2.1 s.2.2.2.2.2.1.1 s.2.2.2.2.2.1.2.1 s.2.2.2.2.2.1.2.2 s.2.2.2.2.2.2.1 s.2.2.2.2.2.2.2.1.1 s.2.2.2.2.2.2.2.1.2.1 s.2.2.2.2.2.2.2.1.2.2 s.2.2.2.2.2.2.2.2.1 h) ((y1p,y1n,y1c),y2,y3,(y7p,y7n,y7c),y9,(y10p,y10n,y10c),y11,(none,0,0),(0:Int),()) h15))) (
 Q (.slice y10p y10n y10c) h15)
def ref18_Node_l3 (Q:VH) (K1:YH Y39) (y1p:OA) (y1n y1c:Nat) (y2:Int) (y3:Addr) (y7p:OA) (y7n y7c:Nat) (y8:Int) (h3:Heap):Prop:=
 ifB (decide (y8<(y1n:Int))) (
 idxI y1p y8 y1n fun a4=>
 ldSlice h3 (a4.add (y8.toNat*1)) fun p5 l5 c5=>
 newI h3 (.cells #[(.int .i64 (l5:Int))] 3 (0,0)) fun b6 h7=>
 appI 3 1 8 (.int .i64 0) y7p y7n y7c (some ⟨b6,0,none⟩) 1 h7 fun p8 l8 c8 h9=>
 K1 ((y1p,y1n,y1c),y2,y3,(p8,l8,c8),(IntKind.wrap .i64 (y8+1)),()) h9) (
 ldInt .i64 h3 y3 fun n10=>
 callBool P n_ref14_Windows #[(.int .i64 n10)] h3 fun b12 h11=>
 LoopS (S:=Y40) (fun K2 s h=>ref18_Node_l9 Q K1 K2 s.1.1 s.1.2.1 s.1.2.2 s.2.1 s.2.2.1 s.2.2.2.1.1 s.2.2.2.1.2.1 s.2.2.2.1.2.2 s.2.2.2.2.1 s.2.2.2.2.2.1.1 s.2.2.2.2.2.1.2.1 s.2.2.2.2.2.1.2.2 s.2.2.2.2.2.2.1 h) ((y1p,y1n,y1c),y2,y3,(y7p,y7n,y7c),b12,(none,0,0),(0:Int),()) h11)
def ref18_Node (y0:TS A2) (y1p:OA) (y1n y1c:Nat) (y2:Int) (h:Heap) (Q:VH):Prop:=
 newI h (.cells (mkS' A2 y0).toArray 40 (0,0)) fun b1 h2=>
 LoopS (S:=Y39) (fun K1 s h=>ref18_Node_l3 Q K1 s.1.1 s.1.2.1 s.1.2.2 s.2.1 s.2.2.1 s.2.2.2.1.1 s.2.2.2.1.2.1 s.2.2.2.1.2.2 s.2.2.2.2.1 h) ((y1p,y1n,y1c),y2,⟨b1,0,none⟩,(none,0,0),(0:Int),()) h2
noncomputable def tab_ref18_Node:Tab:=tb (lookT .done [(16,(ones [0,1,2,5,7,12] (.early 3 (.early 4 (.early 8 (.alt 6 (.alt 9 (ones [10,11] (.alt 13 (.alt 14 (.alt 15 (ones [16] .done) .stop) .stop) .stop)) .stop) .stop))))))]) (lookT [] [(3,[(1,SL),(2,I6),(3,.sc (.adr)),(7,SL),(8,I6)]),(9,[(1,SL),(2,I6),(3,.sc (.adr)),(7,SL),(9,BO),(10,SL),(11,I6)]),(14,[(1,SL),(2,I6),(3,.sc (.adr)),(7,SL),(9,BO),(10,SL),(11,I6),(12,SL),(13,I6)]),(20,[(1,SL),(2,I6),(3,.sc (.adr)),(7,SL),(9,BO),(10,SL),(11,I6),(12,SL),(14,I6)])]) (lookT none [])
theorem call_ref18_Node (y0:TS A2) (y1p:OA) (y1n y1c:Nat) (y2:Int) {h:Heap} {Q:VH} (H:ref18_Node y0 y1p y1n y1c y2 h Q):callP P n_ref18_Node #[(agS A2 y0),(.slice y1p y1n y1c),(.int .i64 y2)] h Q:=
 @callP_of P n_ref18_Node Tryz.f43 tab_ref18_Node [(agS A2 y0),(.slice y1p y1n y1c),(.int .i64 y2)] h Q mixed Tryz.func43 Tryz.call43 (by kernel_rfl) (Eq.mpr (by kernel_rfl) H)
def ref18_Streams_l10 (Q:VH) (K1:YH Y42) (K2:YH Y43) (y1p:OA) (y1n y1c:Nat) (y2 t4 y5:Addr) (y6 y7:Int) (h32:Heap):Prop:=
 ldInt .i64 h32 y2 fun n33=>
 ifB (decide (y7<n33)) (
 idxI y1p y6 y1n fun a34=>
 ldSlice h32 (a34.add (y6.toNat*1)) fun p35 l35 c35=>
 idxI p35 y7 l35 fun a36=>
 ldInt .i64 h32 (a36.add (y7.toNat*1)) fun n37=>
 ldInt .i64 h32 (y2.add 1) fun n38=>
 ifB (decide (n37<n38)) (
 stI h32 t4 (.slice none 0 0) fun h39=>
 stI h39 (t4.add 1) (.int .i64 16) fun h40=>
 ldSlice h40 t4 fun p41 l41 c41=>
 ldInt .i64 h40 (t4.add 1) fun n42=>
 Q (.agg #[(.slice p41 l41 c41),(.int .i64 n42)]) h40) (
 idxI y1p y6 y1n fun a43=>
 ldSlice h32 (a43.add (y6.toNat*1)) fun p44 l44 c44=>
 idxI p44 y7 l44 fun a45=>
 ldInt .i64 h32 (a45.add (y7.toNat*1)) fun n46=>
 ldInt .i64 h32 (y2.add 2) fun n47=>
 ifB (decide (n46>n47)) (
 stI h32 t4 (.slice none 0 0) fun h48=>
 stI h48 (t4.add 1) (.int .i64 16) fun h49=>
 ldSlice h49 t4 fun p50 l50 c50=>
 ldInt .i64 h49 (t4.add 1) fun n51=>
 Q (.agg #[(.slice p50 l50 c50),(.int .i64 n51)]) h49) (
 K2 ((y1p,y1n,y1c),y2,t4,y5,y6,(IntKind.wrap .i64 (y7+1)),()) h32))) (
 K1 ((y1p,y1n,y1c),y2,t4,y5,(IntKind.wrap .i64 (y6+1)),()) h32)
def ref18_Streams_l22 (Q:VH) (K1:YH Y42) (K2:YH Y44) (K3:YH Y45) (y2 t4 y5:Addr) (y8p:OA) (y8n y8c:Nat) (y9:Int) (y10:Addr) (y11p:OA) (y11n y11c:Nat) (y12:Int) (h68:Heap):Prop:=
 ldSlice h68 (y10.add 1) fun p69 l69 c69=>
 ifB (decide (y12<(l69:Int))) (
 ldSlice h68 (y10.add 1) fun p70 l70 c70=>
 idxI p70 y12 l70 fun a71=>
 ldInt .i64 h68 (a71.add (y12.toNat*1)) fun n72=>
 idxI y8p n72 y8n fun a73=>
 ldSlice h68 (a73.add (n72.toNat*1)) fun p74 l74 c74=>
 newI h68 (.cells #[(.slice p74 l74 c74)] 29 (0,0)) fun b75 h76=>
 appI 29 1 24 (.slice none 0 0) y11p y11n y11c (some ⟨b75,0,none⟩) 1 h76 fun p77 l77 c77 h78=>
 K3 (y2,t4,y5,(y8p,y8n,y8c),y9,y10,(p77,l77,c77),(IntKind.wrap .i64 (y12+1)),()) h78) (
 ldAg A2 h68 y10 fun x79=>
 ldSlice h68 y5 fun p80 l80 c80=>
 idxI p80 y9 l80 fun a81=>
 ldInt .i64 h68 (a81.add (y9.toNat*1)) fun n82=>
 ldSlice h68 (y5.add 1) fun p83 l83 c83=>
 ldSlice h68 (y10.add 1) fun p84 l84 c84=>
 idxI p84 0 l84 fun a85=>
 ldInt .i64 h68 (a85.add ((0:Int).toNat*1)) fun n86=>
 idxI p83 n86 l83 fun a87=>
 ldInt .i64 h68 (a87.add (n86.toNat*1)) fun n88=>
 callSlice P n_ref18_Node #[(agS A2 x79),(.slice y11p y11n y11c),(.int .i64 n88)] h68 fun p90 l90 c90 h89=>
 cellH h89 (y5.add 1)=some (.slice p83 l83 c83)∧
 cellH h89 (a81.add (y9.toNat*1))=some (.int .i64 n82)∧
 cellH h89 y5=some (.slice p80 l80 c80)∧
 idxI y8p n82 y8n fun a91=>
 stI h89 (a91.add (n82.toNat*1)) (.slice p90 l90 c90) fun h92=>
 K2 (y2,t4,y5,(y8p,y8n,y8c),(IntKind.wrap .i64 (y9+1)),()) h92)
def ref18_Streams_l17 (Q:VH) (K1:YH Y42) (K2:YH Y44) (y2 t4 y5:Addr) (y8p:OA) (y8n y8c:Nat) (y9:Int) (h57:Heap):Prop:=
 ldSlice h57 y5 fun p58 l58 c58=>
 ifB (decide (y9<(l58:Int))) (
 ldSlice h57 (y2.add 3) fun p59 l59 c59=>
 ldSlice h57 y5 fun p60 l60 c60=>
 idxI p60 y9 l60 fun a61=>
 ldInt .i64 h57 (a61.add (y9.toNat*1)) fun n62=>
 idxI p59 (IntKind.wrap .i64 (n62-1)) l59 fun a63=>
 ldAg A2 h57 (a63.add ((IntKind.wrap .i64 (n62-1)).toNat*15)) fun x64=>
 newI h57 (.cells (mkS' A2 (zT A2)).toArray 40 (0,0)) fun b65 h66=>
 storeL (mkS' A2 x64) h66 ⟨b65,0,none⟩ 0 fun h67=>
 LoopS (S:=Y45) (fun K3 s h=>ref18_Streams_l22 Q K1 K2 K3 s.1 s.2.1 s.2.2.1 s.2.2.2.1.1 s.2.2.2.1.2.1 s.2.2.2.1.2.2 s.2.2.2.2.1 s.2.2.2.2.2.1 s.2.2.2.2.2.2.1.1 s.2.2.2.2.2.2.1.2.1 s.2.2.2.2.2.2.1.2.2 s.2.2.2.2.2.2.2.1 h) (y2,t4,y5,(y8p,y8n,y8c),y9,⟨b65,0,none⟩,(none,0,0),(0:Int),()) h67) (
 stI h57 t4 (.slice y8p y8n y8c) fun h93=>
 stI h93 (t4.add 1) (.int .i64 0) fun h94=>
 ldSlice h94 t4 fun p95 l95 c95=>
 ldInt .i64 h94 (t4.add 1) fun n96=>
 Q (.agg #[(.slice p95 l95 c95),(.int .i64 n96)]) h94)
def ref18_Streams_l5 (Q:VH) (K1:YH Y42) (y1p:OA) (y1n y1c:Nat) (y2 t4 y5:Addr) (y6:Int) (h24:Heap):Prop:=
 ifB (decide (y6<(y1n:Int))) (
 idxI y1p y6 y1n fun a25=>
 ldSlice h24 (a25.add (y6.toNat*1)) fun p26 l26 c26=>
 ldInt .i64 h24 y2 fun n27=>
 ifB ((l26:Int) !=n27) (
 stI h24 t4 (.slice none 0 0) fun h28=>
 stI h28 (t4.add 1) (.int .i64 14) fun h29=>
 ldSlice h29 t4 fun p30 l30 c30=>
 ldInt .i64 h29 (t4.add 1) fun n31=>
 Q (.agg #[(.slice p30 l30 c30),(.int .i64 n31)]) h29) (
 LoopS (S:=Y43) (fun K2 s h=>ref18_Streams_l10 Q K1 K2 s.1.1 s.1.2.1 s.1.2.2 s.2.1 s.2.2.1 s.2.2.2.1 s.2.2.2.2.1 s.2.2.2.2.2.1 h) ((y1p,y1n,y1c),y2,t4,y5,y6,(0:Int),()) h24)) (
 ldSlice h24 (y2.add 3) fun p52 l52 c52=>
 mkI 29 1 24 (.slice none 0 0) (IntKind.wrap .i64 ((l52:Int)+1)) (IntKind.wrap .i64 ((l52:Int)+1)) h24 fun b53 h54=>
 idxI (some ⟨b53,0,none⟩) 0 ((IntKind.wrap .i64 ((l52:Int)+1)).toNat) fun a55=>
 stI h54 (a55.add ((0:Int).toNat*1)) (.slice y1p y1n y1c) fun h56=>
 LoopS (S:=Y44) (fun K2 s h=>ref18_Streams_l17 Q K1 K2 s.1 s.2.1 s.2.2.1 s.2.2.2.1.1 s.2.2.2.1.2.1 s.2.2.2.1.2.2 s.2.2.2.2.1 h) (y2,t4,y5,(some ⟨b53,0,none⟩,(IntKind.wrap .i64 ((l52:Int)+1)).toNat,(IntKind.wrap .i64 ((l52:Int)+1)).toNat),(0:Int),()) h56)
def ref18_Streams (y0:TS A1) (y1p:OA) (y1n y1c:Nat) (h:Heap) (Q:VH):Prop:=
 newI h (.cells (mkS' A1 y0).toArray 26 (0,0)) fun b1 h2=>
 newI h2 (.cells #[(.slice none 0 0),(.int .i64 0)] 53 (0,0)) fun b3 h4=>
 ldAg A1 h4 ⟨b1,0,none⟩ fun x5=>
 callP P n_ref16_Look #[(agS A1 x5)] h4 fun v7 h6=>
 ∃p8:Option Addr,∃l8:Nat,∃c8:Nat,∃p9:Option Addr,∃l9:Nat,∃c9:Nat,∃p10:Option Addr,∃l10:Nat,∃c10:Nat,∃n11:Int,v7=(.agg #[(.slice p8 l8 c8),(.slice p9 l9 c9),(.slice p10 l10 c10),(.int .i64 n11)])∧
 newI h6 (.cells #[(.slice none 0 0),(.slice none 0 0),(.slice none 0 0),(.int .i64 0)] 34 (0,0)) fun b12 h13=>
 stI h13 ⟨b12,0,none⟩ (.slice p8 l8 c8) fun h14=>
 stI h14 ⟨b12,1,none⟩ (.slice p9 l9 c9) fun h15=>
 stI h15 ⟨b12,2,none⟩ (.slice p10 l10 c10) fun h16=>
 stI h16 ⟨b12,3,none⟩ (.int .i64 n11) fun h17=>
 ldInt .i64 h17 ⟨b12,3,none⟩ fun n18=>
 ifB (n18 !=0) (
 ldInt .i64 h17 ⟨b12,3,none⟩ fun n19=>
 stI h17 ⟨b3,0,none⟩ (.slice none 0 0) fun h20=>
 stI h20 ⟨b3,1,none⟩ (.int .i64 n19) fun h21=>
 ldSlice h21 ⟨b3,0,none⟩ fun p22 l22 c22=>
 ldInt .i64 h21 ⟨b3,1,none⟩ fun n23=>
 Q (.agg #[(.slice p22 l22 c22),(.int .i64 n23)]) h21) (
 LoopS (S:=Y42) (fun K1 s h=>ref18_Streams_l5 Q K1 s.1.1 s.1.2.1 s.1.2.2 s.2.1 s.2.2.1 s.2.2.2.1 s.2.2.2.2.1 h) ((y1p,y1n,y1c),⟨b1,0,none⟩,⟨b3,0,none⟩,⟨b12,0,none⟩,(0:Int),()) h17)
noncomputable def tab_ref18_Streams:Tab:=tb (lookT .done [(7,(ones [0,1,2,5,3,4,6,7] .done)),(12,(ones [0,1,2,4,7,3,5,6,8,9,10,11,12,13,15,18,14,16,17,19,20,21] .done)),(19,(ones [0,2,4,1,3,5,6,7,8,9] (.alt 10 (.alt 11 .done .stop) .stop))),(25,(ones [0,1,3,7,8,10,6] (.early 2 (ones [4] (.early 5 (.early 9 (.alt 11 (ones [12] (.alt 13 (ones [14,15] (.alt 16 (ones [17] (.alt 18 .done .stop)) .stop)) .stop)) .stop)))))))]) (lookT [] [(5,[(1,SL),(2,.sc (.adr)),(4,.sc (.adr)),(5,.sc (.adr)),(6,I6)]),(10,[(1,SL),(2,.sc (.adr)),(4,.sc (.adr)),(5,.sc (.adr)),(6,I6),(7,I6)]),(17,[(2,.sc (.adr)),(4,.sc (.adr)),(5,.sc (.adr)),(8,SL),(9,I6)]),(22,[(2,.sc (.adr)),(4,.sc (.adr)),(5,.sc (.adr)),(8,SL),(9,I6),(10,.sc (.adr)),(11,SL),(12,I6)])]) (lookT none [])
theorem call_ref18_Streams (y0:TS A1) (y1p:OA) (y1n y1c:Nat) {h:Heap} {Q:VH} (H:ref18_Streams y0 y1p y1n y1c h Q):callP P n_ref18_Streams #[(agS A1 y0),(.slice y1p y1n y1c)] h Q:=
 @callP_of P n_ref18_Streams Tryz.f22 tab_ref18_Streams [(agS A1 y0),(.slice y1p y1n y1c)] h Q mixed Tryz.func22 Tryz.call22 (by kernel_rfl) (Eq.mpr (by kernel_rfl) H)
def ref18_Eval (y0:TS A1) (y1p:OA) (y1n y1c:Nat) (h:Heap) (Q:VH):Prop:=
 newI h (.cells (mkS' A1 y0).toArray 26 (0,0)) fun b1 h2=>
 ldAg A1 h2 ⟨b1,0,none⟩ fun x3=>
 callP P n_ref18_Streams #[(agS A1 x3),(.slice y1p y1n y1c)] h2 fun v5 h4=>
 ∃p6:Option Addr,∃l6:Nat,∃c6:Nat,∃n7:Int,v5=(.agg #[(.slice p6 l6 c6),(.int .i64 n7)])∧
 newI h4 (.cells #[(.slice none 0 0),(.int .i64 0)] 53 (0,0)) fun b8 h9=>
 stI h9 ⟨b8,0,none⟩ (.slice p6 l6 c6) fun h10=>
 stI h10 ⟨b8,1,none⟩ (.int .i64 n7) fun h11=>
 ldInt .i64 h11 ⟨b8,1,none⟩ fun n12=>
 ifB (n12 !=0) (
 Q (.slice none 0 0) h11) (
 ldSlice h11 ⟨b8,0,none⟩ fun p13 l13 c13=>
 ldInt .i64 h11 ⟨b1,4,none⟩ fun n14=>
 idxI p13 n14 l13 fun a15=>
 ldSlice h11 (a15.add (n14.toNat*1)) fun p16 l16 c16=>
 Q (.slice p16 l16 c16) h11)
noncomputable def tab_ref18_Eval:Tab:=tb (lookT .done []) (lookT [] []) (lookT none [])
theorem call_ref18_Eval (y0:TS A1) (y1p:OA) (y1n y1c:Nat) {h:Heap} {Q:VH} (H:ref18_Eval y0 y1p y1n y1c h Q):callP P n_ref18_Eval #[(agS A1 y0),(.slice y1p y1n y1c)] h Q:=
 @callP_of P n_ref18_Eval Tryz.f10 tab_ref18_Eval [(agS A1 y0),(.slice y1p y1n y1c)] h Q mixed Tryz.func10 Tryz.call10 (by kernel_rfl) (Eq.mpr (by kernel_rfl) H)
def ref18_Same_l9 (Q:VH) (K1:YH Y36) (K2:YH Y46) (y0p:OA) (y0n y0c:Nat) (y1p:OA) (y1n y1c:Nat) (y5 y6:Int) (h6:Heap):Prop:=
 idxI y0p y5 y0n fun a7=>
 ldSlice h6 (a7.add (y5.toNat*1)) fun p8 l8 c8=>
 ifB (decide (y6<(l8:Int))) (
 idxI y0p y5 y0n fun a9=>
 idxI y1p y5 y1n fun a10=>
 ldSlice h6 (a9.add (y5.toNat*1)) fun p11 l11 c11=>
 idxI p11 y6 l11 fun a12=>
 ldInt .i64 h6 (a12.add (y6.toNat*1)) fun n13=>
 ldSlice h6 (a10.add (y5.toNat*1)) fun p14 l14 c14=>
 idxI p14 y6 l14 fun a15=>
 ldInt .i64 h6 (a15.add (y6.toNat*1)) fun n16=>
 ifB (n13 !=n16) (
 Q (.bool false) h6) (
 K2 ((y0p,y0n,y0c),(y1p,y1n,y1c),y5,(IntKind.wrap .i64 (y6+1)),()) h6)) (
 K1 ((y0p,y0n,y0c),(y1p,y1n,y1c),(IntKind.wrap .i64 (y5+1)),()) h6)
def ref18_Same_l4 (Q:VH) (K1:YH Y36) (y0p:OA) (y0n y0c:Nat) (y1p:OA) (y1n y1c:Nat) (y5:Int) (h1:Heap):Prop:=
 ifB (decide (y5<(y0n:Int))) (
 idxI y0p y5 y0n fun a2=>
 idxI y1p y5 y1n fun a3=>
 ldSlice h1 (a2.add (y5.toNat*1)) fun p4 l4 c4=>
 ldSlice h1 (a3.add (y5.toNat*1)) fun p5 l5 c5=>
 ifB ((l4:Int) !=(l5:Int)) (
 Q (.bool false) h1) (
 LoopS (S:=Y46) (fun K2 s h=>ref18_Same_l9 Q K1 K2 s.1.1 s.1.2.1 s.1.2.2 s.2.1.1 s.2.1.2.1 s.2.1.2.2 s.2.2.1 s.2.2.2.1 h) ((y0p,y0n,y0c),(y1p,y1n,y1c),y5,(0:Int),()) h1)) (
 Q (.bool true) h1)
def ref18_Same (y0p:OA) (y0n y0c:Nat) (y1p:OA) (y1n y1c:Nat) (h:Heap) (Q:VH):Prop:=
 ifB ((y0n:Int) !=(y1n:Int)) (
 Q (.bool false) h) (
 LoopS (S:=Y36) (fun K1 s h=>ref18_Same_l4 Q K1 s.1.1 s.1.2.1 s.1.2.2 s.2.1.1 s.2.1.2.1 s.2.1.2.2 s.2.2.1 h) ((y0p,y0n,y0c),(y1p,y1n,y1c),(0:Int),()) h)
noncomputable def tab_ref18_Same:Tab:=tb (lookT .done [(6,(ones [0,1,2,5,6,7,3,4,8,9,10] .done)),(11,(ones [0,1,2,4,7,8,9,11,3,5,6,10,12,13,14] .done))]) (lookT [] [(4,[(0,SL),(1,SL),(5,I6)]),(9,[(0,SL),(1,SL),(5,I6),(6,I6)])]) (lookT none [])
theorem call_ref18_Same (y0p:OA) (y0n y0c:Nat) (y1p:OA) (y1n y1c:Nat) {h:Heap} {Q:VH} (H:ref18_Same y0p y0n y0c y1p y1n y1c h Q):callP P n_ref18_Same #[(.slice y0p y0n y0c),(.slice y1p y1n y1c)] h Q:=
 @callP_of P n_ref18_Same Tryz.f9 tab_ref18_Same [(.slice y0p y0n y0c),(.slice y1p y1n y1c)] h Q mixed Tryz.func9 Tryz.call9 (by kernel_rfl) (Eq.mpr (by kernel_rfl) H)
def ref14_Ready (y0:TS A2) (y1p:OA) (y1n y1c:Nat) (h:Heap) (Q:VH):Prop:=
 newI h (.cells (mkS' A2 y0).toArray 40 (0,0)) fun b1 h2=>
 callInt P .i64 n_ref14_least #[(.slice y1p y1n y1c)] h2 fun n4 h3=>
 ldInt .i64 h3 ⟨b1,0,none⟩ fun n5=>
 callBool P n_ref14_Windows #[(.int .i64 n5)] h3 fun b7 h6=>
 ifB b7 (
 ifB (decide (n4>0)) (
 ldAg A2 h6 ⟨b1,0,none⟩ fun x8=>
 callInt P .i64 n_ref14_ends #[(agS A2 x8),(.int .i64 n4)] h6 fun n10 h9=>
 Q (.int .i64 n10) h9) (
 ldInt .i64 h6 ⟨b1,0,none⟩ fun n11=>
 ifB (n11==5) (
 Q (.int .i64 0) h6) (
 Q (.int .i64 n4) h6))) (
 ldInt .i64 h6 ⟨b1,0,none⟩ fun n12=>
 ifB (n12==5) (
 Q (.int .i64 0) h6) (
 Q (.int .i64 n4) h6))
noncomputable def tab_ref14_Ready:Tab:=tb (lookT .done []) (lookT [] []) (lookT none [])
theorem call_ref14_Ready (y0:TS A2) (y1p:OA) (y1n y1c:Nat) {h:Heap} {Q:VH} (H:ref14_Ready y0 y1p y1n y1c h Q):callP P n_ref14_Ready #[(agS A2 y0),(.slice y1p y1n y1c)] h Q:=
 @callP_of P n_ref14_Ready Tryz.f67 tab_ref14_Ready [(agS A2 y0),(.slice y1p y1n y1c)] h Q mixed Tryz.func67 Tryz.call67 (by kernel_rfl) (Eq.mpr (by kernel_rfl) H)
def ref18_counts_l12 (Q:VH) (K1:YH Y47) (K2:YH Y48) (y2:Bool) (y3 y7:Addr) (y8p:OA) (y8n y8c:Nat) (y9:Int) (y10:Addr) (y11p:OA) (y11n y11c:Nat) (y12:Int) (h34:Heap):Prop:=
 ldSlice h34 (y10.add 1) fun p35 l35 c35=>
 ifB (decide (y12<(l35:Int))) (
 ldSlice h34 (y10.add 1) fun p36 l36 c36=>
 idxI p36 y12 l36 fun a37=>
 ldInt .i64 h34 (a37.add (y12.toNat*1)) fun n38=>
 idxI y8p n38 y8n fun a39=>
 ldInt .i64 h34 (a39.add (n38.toNat*1)) fun n40=>
 newI h34 (.cells #[(.int .i64 n40)] 3 (0,0)) fun b41 h42=>
 appI 3 1 8 (.int .i64 0) y11p y11n y11c (some ⟨b41,0,none⟩) 1 h42 fun p43 l43 c43 h44=>
 K2 (y2,y3,y7,(y8p,y8n,y8c),y9,y10,(p43,l43,c43),(IntKind.wrap .i64 (y12+1)),()) h44) (
 ldAg A2 h34 y10 fun x45=>
 ldSlice h34 y7 fun p46 l46 c46=>
 idxI p46 y9 l46 fun a47=>
 ldInt .i64 h34 (a47.add (y9.toNat*1)) fun n48=>
 callInt P .i64 n_ref14_Count #[(agS A2 x45),(.slice y11p y11n y11c)] h34 fun n50 h49=>
 cellH h49 (a47.add (y9.toNat*1))=some (.int .i64 n48)∧
 cellH h49 y7=some (.slice p46 l46 c46)∧
 idxI y8p n48 y8n fun a51=>
 stI h49 (a51.add (n48.toNat*1)) (.int .i64 n50) fun h52=>
 ifB y2 (
 ldAg A2 h52 y10 fun x53=>
 ldSlice h52 y7 fun p54 l54 c54=>
 idxI p54 y9 l54 fun a55=>
 ldInt .i64 h52 (a55.add (y9.toNat*1)) fun n56=>
 callInt P .i64 n_ref14_Ready #[(agS A2 x53),(.slice y11p y11n y11c)] h52 fun n58 h57=>
 cellH h57 (a55.add (y9.toNat*1))=some (.int .i64 n56)∧
 cellH h57 y7=some (.slice p54 l54 c54)∧
 idxI y8p n56 y8n fun a59=>
 stI h57 (a59.add (n56.toNat*1)) (.int .i64 n58) fun h60=>
 K1 (y2,y3,y7,(y8p,y8n,y8c),(IntKind.wrap .i64 (y9+1)),()) h60) (
 K1 (y2,y3,y7,(y8p,y8n,y8c),(IntKind.wrap .i64 (y9+1)),()) h52))
def ref18_counts_l7 (Q:VH) (K1:YH Y47) (y2:Bool) (y3 y7:Addr) (y8p:OA) (y8n y8c:Nat) (y9:Int) (h23:Heap):Prop:=
 ldSlice h23 y7 fun p24 l24 c24=>
 ifB (decide (y9<(l24:Int))) (
 ldSlice h23 (y3.add 3) fun p25 l25 c25=>
 ldSlice h23 y7 fun p26 l26 c26=>
 idxI p26 y9 l26 fun a27=>
 ldInt .i64 h23 (a27.add (y9.toNat*1)) fun n28=>
 idxI p25 (IntKind.wrap .i64 (n28-1)) l25 fun a29=>
 ldAg A2 h23 (a29.add ((IntKind.wrap .i64 (n28-1)).toNat*15)) fun x30=>
 newI h23 (.cells (mkS' A2 (zT A2)).toArray 40 (0,0)) fun b31 h32=>
 storeL (mkS' A2 x30) h32 ⟨b31,0,none⟩ 0 fun h33=>
 LoopS (S:=Y48) (fun K2 s h=>ref18_counts_l12 Q K1 K2 s.1 s.2.1 s.2.2.1 s.2.2.2.1.1 s.2.2.2.1.2.1 s.2.2.2.1.2.2 s.2.2.2.2.1 s.2.2.2.2.2.1 s.2.2.2.2.2.2.1.1 s.2.2.2.2.2.2.1.2.1 s.2.2.2.2.2.2.1.2.2 s.2.2.2.2.2.2.2.1 h) (y2,y3,y7,(y8p,y8n,y8c),y9,⟨b31,0,none⟩,(none,0,0),(0:Int),()) h33) (
 Q (.slice y8p y8n y8c) h23)
def ref18_counts_j4 (Q:VH) (y1:Int) (y2:Bool) (y3 y7:Addr) (h17:Heap):Prop:=
 ldSlice h17 (y3.add 3) fun p18 l18 c18=>
 mkI 3 1 8 (.int .i64 0) (IntKind.wrap .i64 ((l18:Int)+1)) (IntKind.wrap .i64 ((l18:Int)+1)) h17 fun b19 h20=>
 idxI (some ⟨b19,0,none⟩) 0 ((IntKind.wrap .i64 ((l18:Int)+1)).toNat) fun a21=>
 stI h20 (a21.add ((0:Int).toNat*1)) (.int .i64 y1) fun h22=>
 LoopS (S:=Y47) (fun K1 s h=>ref18_counts_l7 Q K1 s.1 s.2.1 s.2.2.1 s.2.2.2.1.1 s.2.2.2.1.2.1 s.2.2.2.1.2.2 s.2.2.2.2.1 h) (y2,y3,y7,(some ⟨b19,0,none⟩,(IntKind.wrap .i64 ((l18:Int)+1)).toNat,(IntKind.wrap .i64 ((l18:Int)+1)).toNat),(0:Int),()) h22
def ref18_counts (y0:TS A1) (y1:Int) (y2:Bool) (h:Heap) (Q:VH):Prop:=
 newI h (.cells (mkS' A1 y0).toArray 26 (0,0)) fun b1 h2=>
 ldAg A1 h2 ⟨b1,0,none⟩ fun x3=>
 callP P n_ref16_Look #[(agS A1 x3)] h2 fun v5 h4=>
 ∃p6:Option Addr,∃l6:Nat,∃c6:Nat,∃p7:Option Addr,∃l7:Nat,∃c7:Nat,∃p8:Option Addr,∃l8:Nat,∃c8:Nat,∃n9:Int,v5=(.agg #[(.slice p6 l6 c6),(.slice p7 l7 c7),(.slice p8 l8 c8),(.int .i64 n9)])∧
 newI h4 (.cells #[(.slice none 0 0),(.slice none 0 0),(.slice none 0 0),(.int .i64 0)] 34 (0,0)) fun b10 h11=>
 stI h11 ⟨b10,0,none⟩ (.slice p6 l6 c6) fun h12=>
 stI h12 ⟨b10,1,none⟩ (.slice p7 l7 c7) fun h13=>
 stI h13 ⟨b10,2,none⟩ (.slice p8 l8 c8) fun h14=>
 stI h14 ⟨b10,3,none⟩ (.int .i64 n9) fun h15=>
 ∃J16:(Int×Bool×Addr×Addr×Unit)→Heap→Prop,(∀s h,J16 s h→ref18_counts_j4 Q s.1 s.2.1 s.2.2.1 s.2.2.2.1 h)∧
 ldInt .i64 h15 ⟨b10,3,none⟩ fun n61=>
 ifB (n61 !=0) (
 Q (.slice none 0 0) h15) (
 ifB (decide (y1<0)) (
 Q (.slice none 0 0) h15) (
 ifB (decide (y1>4611686018427387904)) (
 Q (.slice none 0 0) h15) (
 J16 (y1,y2,⟨b1,0,none⟩,⟨b10,0,none⟩,()) h15)))
noncomputable def tab_ref18_counts:Tab:=tb (lookT .done [(9,(ones [0,2,4,1,3,5,6,7,8,9] (.alt 10 (.alt 11 .done .stop) .stop))),(15,(ones [0,1,3,7,6] (.early 2 (ones [4] (.early 5 (.alt 8 (ones [9] (.alt 10 .done .stop)) .stop)))))),(17,(ones [0,1,3,7,6] (.early 2 (ones [4] (.early 5 (.alt 8 (ones [9] (.alt 10 .done .stop)) .stop))))))]) (lookT [] [(7,[(2,BO),(3,.sc (.adr)),(7,.sc (.adr)),(8,SL),(9,I6)]),(12,[(2,BO),(3,.sc (.adr)),(7,.sc (.adr)),(8,SL),(9,I6),(10,.sc (.adr)),(11,SL),(12,I6)])]) (lookT none [(4,some [(1,I6),(2,BO),(3,.sc (.adr)),(7,.sc (.adr))])])
theorem call_ref18_counts (y0:TS A1) (y1:Int) (y2:Bool) {h:Heap} {Q:VH} (H:ref18_counts y0 y1 y2 h Q):callP P n_ref18_counts #[(agS A1 y0),(.int .i64 y1),(.bool y2)] h Q:=
 @callP_of P n_ref18_counts Tryz.f44 tab_ref18_counts [(agS A1 y0),(.int .i64 y1),(.bool y2)] h Q mixed Tryz.func44 Tryz.call44 (by kernel_rfl) (Eq.mpr (by kernel_rfl) H)
def ref18_Readies (y0:TS A1) (y1:Int) (h:Heap) (Q:VH):Prop:=
 newI h (.cells (mkS' A1 y0).toArray 26 (0,0)) fun b1 h2=>
 ldAg A1 h2 ⟨b1,0,none⟩ fun x3=>
 callSlice P n_ref18_counts #[(agS A1 x3),(.int .i64 y1),(.bool true)] h2 fun p5 l5 c5 h4=>
 Q (.slice p5 l5 c5) h4
noncomputable def tab_ref18_Readies:Tab:=tb (lookT .done []) (lookT [] []) (lookT none [])
theorem call_ref18_Readies (y0:TS A1) (y1:Int) {h:Heap} {Q:VH} (H:ref18_Readies y0 y1 h Q):callP P n_ref18_Readies #[(agS A1 y0),(.int .i64 y1)] h Q:=
 @callP_of P n_ref18_Readies Tryz.f23 tab_ref18_Readies [(agS A1 y0),(.int .i64 y1)] h Q mixed Tryz.func23 Tryz.call23 (by kernel_rfl) (Eq.mpr (by kernel_rfl) H)
def ref18_Ready (y0:TS A1) (y1p:OA) (y1n y1c:Nat) (h:Heap) (Q:VH):Prop:=
 newI h (.cells (mkS' A1 y0).toArray 26 (0,0)) fun b1 h2=>
 ldAg A1 h2 ⟨b1,0,none⟩ fun x3=>
 callSlice P n_ref18_Eval #[(agS A1 x3),(.slice y1p y1n y1c)] h2 fun p5 l5 c5 h4=>
 ifB ((l5:Int)==0) (
 Q (.slice none 0 0) h4) (
 ldAg A1 h4 ⟨b1,0,none⟩ fun x6=>
 ldInt .i64 h4 ⟨b1,4,none⟩ fun n7=>
 callSlice P n_ref18_Readies #[(agS A1 x6),(.int .i64 (y1n:Int))] h4 fun p9 l9 c9 h8=>
 cellH h8 ⟨b1,4,none⟩=some (.int .i64 n7)∧
 idxI p9 n7 l9 fun a10=>
 ldInt .i64 h8 (a10.add (n7.toNat*1)) fun n11=>
 bndI n11 c5 fun l12=>
 Q (.slice (if c5=0 then p5 else Option.map (fun a=>a.add (0*1)) p5) (l12-0) (c5-0)) h8)
noncomputable def tab_ref18_Ready:Tab:=tb (lookT .done [(4,(ones [0,2,3,5,1] (.early 6 (.alt 4 (ones [7,8,9,10] .done) .stop))))]) (lookT [] []) (lookT none [])
theorem call_ref18_Ready (y0:TS A1) (y1p:OA) (y1n y1c:Nat) {h:Heap} {Q:VH} (H:ref18_Ready y0 y1p y1n y1c h Q):callP P n_ref18_Ready #[(agS A1 y0),(.slice y1p y1n y1c)] h Q:=
 @callP_of P n_ref18_Ready Tryz.f11 tab_ref18_Ready [(agS A1 y0),(.slice y1p y1n y1c)] h Q mixed Tryz.func11 Tryz.call11 (by kernel_rfl) (Eq.mpr (by kernel_rfl) H)
def law21_FuseKeeps (y0p:OA) (y0n y0c:Nat) (y1:Int) (y2p:OA) (y2n y2c:Nat) (h:Heap) (Q:VH):Prop:=
 callBool P n_law21_awake #[] h fun b2 h1=>
 callP P n_ref21_Made #[(.slice y0p y0n y0c),(.int .i64 y1)] h1 fun v4 h3=>
 exS A1 fun x5=>v4=(agS A1 x5)∧
 newI h3 (.cells (mkS' A1 (zT A1)).toArray 26 (0,0)) fun b6 h7=>
 storeL (mkS' A1 x5) h7 ⟨b6,0,none⟩ 0 fun h8=>
 ldAg A1 h8 ⟨b6,0,none⟩ fun x9=>
 callP P n_fuse_Fuse #[(agS A1 x9)] h8 fun v11 h10=>
 exS A1 fun x12=>v11=(agS A1 x12)∧
 newI h10 (.cells (mkS' A1 (zT A1)).toArray 26 (0,0)) fun b13 h14=>
 storeL (mkS' A1 x12) h14 ⟨b13,0,none⟩ 0 fun h15=>
 ldAg A1 h15 ⟨b6,0,none⟩ fun x16=>
 callSlice P n_ref18_Made #[(agS A1 x16),(.int .i64 (IntKind.wrap .i64 ((12:Int)+(andI .i64 (shrI y1 8) 7)))),(.slice y2p y2n y2c)] h15 fun p18 l18 c18 h17=>
 ldAg A1 h17 ⟨b13,0,none⟩ fun x19=>
 callP P n_ref16_Look #[(agS A1 x19)] h17 fun v21 h20=>
 ∃p22:Option Addr,∃l22:Nat,∃c22:Nat,∃p23:Option Addr,∃l23:Nat,∃c23:Nat,∃p24:Option Addr,∃l24:Nat,∃c24:Nat,∃n25:Int,v21=(.agg #[(.slice p22 l22 c22),(.slice p23 l23 c23),(.slice p24 l24 c24),(.int .i64 n25)])∧
 ifB (n25 !=0) (
 Q (.bool false) h20) (
 ldAg A1 h20 ⟨b6,0,none⟩ fun x26=>
 ldAg A1 h20 ⟨b13,0,none⟩ fun x27=>
 callSlice P n_ref18_Eval #[(agS A1 x26),(.slice p18 l18 c18)] h20 fun p29 l29 c29 h28=>
 holdW (watchL 0 ⟨b13,0,none⟩ (mkS' A1 x27) 0) h28 (
 callSlice P n_ref18_Eval #[(agS A1 x27),(.slice p18 l18 c18)] h28 fun p31 l31 c31 h30=>
 holdW (watchL 0 ⟨b6,0,none⟩ (mkS' A1 x26) 0) h30 (
 callBool P n_ref18_Same #[(.slice p29 l29 c29),(.slice p31 l31 c31)] h30 fun b33 h32=>
 holdW (watchL 0 ⟨b13,0,none⟩ (mkS' A1 x27) 0) h32 (
 holdW (watchL 0 ⟨b6,0,none⟩ (mkS' A1 x26) 0) h32 (
 ldAg A1 h32 ⟨b6,0,none⟩ fun x34=>
 ldAg A1 h32 ⟨b13,0,none⟩ fun x35=>
 callSlice P n_ref18_Ready #[(agS A1 x34),(.slice p18 l18 c18)] h32 fun p37 l37 c37 h36=>
 holdW (watchL 0 ⟨b13,0,none⟩ (mkS' A1 x35) 0) h36 (
 callSlice P n_ref18_Ready #[(agS A1 x35),(.slice p18 l18 c18)] h36 fun p39 l39 c39 h38=>
 holdW (watchL 0 ⟨b6,0,none⟩ (mkS' A1 x34) 0) h38 (
 callBool P n_ref18_Same #[(.slice p37 l37 c37),(.slice p39 l39 c39)] h38 fun b41 h40=>
 holdW (watchL 0 ⟨b13,0,none⟩ (mkS' A1 x35) 0) h40 (
 holdW (watchL 0 ⟨b6,0,none⟩ (mkS' A1 x34) 0) h40 (
 ifB b2 (
 ifB b33 (
 Q (.bool b41) h40) (
 Q (.bool false) h40)) (
 Q (.bool false) h40))))))))))
noncomputable def tab_law21_FuseKeeps:Tab:=tb (lookT .done [(7,(ones [1,4] (.early 0 (.early 3 (.alt 2 (.alt 5 (.alt 6 (ones [7] .done) .stop) .stop) .stop))))),(8,(ones [1,4] (.early 0 (.early 3 (.alt 2 (.alt 5 (.alt 6 (ones [7] .done) .stop) .stop) .stop)))))]) (lookT [] []) (lookT none [])
theorem call_law21_FuseKeeps (y0p:OA) (y0n y0c:Nat) (y1:Int) (y2p:OA) (y2n y2c:Nat) {h:Heap} {Q:VH} (H:law21_FuseKeeps y0p y0n y0c y1 y2p y2n y2c h Q):callP P n_law21_FuseKeeps #[(.slice y0p y0n y0c),(.int .i64 y1),(.slice y2p y2n y2c)] h Q:=
 @callP_of P n_law21_FuseKeeps Tryz.f3 tab_law21_FuseKeeps [(.slice y0p y0n y0c),(.int .i64 y1),(.slice y2p y2n y2c)] h Q mixed Tryz.func3 Tryz.call3 (by kernel_rfl) (Eq.mpr (by kernel_rfl) H)
end Go.Proofs.YtbgplllcjhgdhaaGreatDoor.G
