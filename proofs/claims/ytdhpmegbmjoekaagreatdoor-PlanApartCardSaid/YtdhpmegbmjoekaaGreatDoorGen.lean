/- Printed by shp.py out of the program's own print: for each Go function a typed formula over heaps, and the proof that a call does just that. -/
import Derived.Test.YtdhpmegbmjoekaaGreatDoorGenA
set_option linter.unusedVariables false
set_option maxRecDepth 100000
namespace Go.Proofs.YtdhpmegbmjoekaaGreatDoor.G
open Go Go.Sh
def math_bits_Len (y0:Int) (h:Heap) (Q:VH):Prop:=
 callInt P .i64 n_math_bits_Len64 #[(.int .u64 y0)] h fun n2 h1=>
 Q (.int .i64 n2) h1
noncomputable def tab_math_bits_Len:Tab:=tb (lookT .done []) (lookT [] []) (lookT none [])
theorem call_math_bits_Len (y0:Int) {h:Heap} {Q:VH} (H:math_bits_Len y0 h Q):callP P n_math_bits_Len #[(.int .u64 y0)] h Q:=
 @callP_of P n_math_bits_Len Tryz.f227 tab_math_bits_Len [(.int .u64 y0)] h Q mixed Tryz.func227 Tryz.call227 (by kernel_rfl) (Eq.mpr (by kernel_rfl) H)
def cmp_isNaN_int (y0:Int) (h:Heap) (Q:VH):Prop:=
 Q (.bool (y0 !=y0)) h
noncomputable def tab_cmp_isNaN_int:Tab:=tb (lookT .done []) (lookT [] []) (lookT none [])
theorem call_cmp_isNaN_int (y0:Int) {h:Heap} {Q:VH} (H:cmp_isNaN_int y0 h Q):callP P n_cmp_isNaN_int #[(.int .i64 y0)] h Q:=
 @callP_of P n_cmp_isNaN_int Tryz.f257 tab_cmp_isNaN_int [(.int .i64 y0)] h Q mixed Tryz.func257 Tryz.call257 (by kernel_rfl) (Eq.mpr (by kernel_rfl) H)
def cmp_Less_int (y0 y1:Int) (h:Heap) (Q:VH):Prop:=
 callBool P n_cmp_isNaN_int #[(.int .i64 y0)] h fun b2 h1=>
 ifB b2 (
 callBool P n_cmp_isNaN_int #[(.int .i64 y1)] h1 fun b4 h3=>
 ifB (!b4) (
 Q (.bool true) h3) (
 Q (.bool (decide (y0<y1))) h3)) (
 Q (.bool (decide (y0<y1))) h1)
noncomputable def tab_cmp_Less_int:Tab:=tb (lookT .done []) (lookT [] []) (lookT none [])
theorem call_cmp_Less_int (y0 y1:Int) {h:Heap} {Q:VH} (H:cmp_Less_int y0 y1 h Q):callP P n_cmp_Less_int #[(.int .i64 y0),(.int .i64 y1)] h Q:=
 @callP_of P n_cmp_Less_int Tryz.f245 tab_cmp_Less_int [(.int .i64 y0),(.int .i64 y1)] h Q mixed Tryz.func245 Tryz.call245 (by kernel_rfl) (Eq.mpr (by kernel_rfl) H)
def slices_insertionSortOrdered_int_l4 (Q:VH) (K1:(S3×Int×Int×Int×Unit)→Heap→Prop) (K2:(S3×Int×Int×Int×Int×Unit)→Heap→Prop) (y0p:OA) (y0n y0c:Nat) (y1 y2 y6 y7:Int) (h2:Heap):Prop:=
 ifB (decide (y7>y1)) (
 idxI y0p y7 y0n fun a3=>
 idxI y0p (IntKind.wrap .i64 (y7-1)) y0n fun a4=>
 ldInt .i64 h2 (a3.add (y7.toNat*1)) fun n5=>
 ldInt .i64 h2 (a4.add ((IntKind.wrap .i64 (y7-1)).toNat*1)) fun n6=>
 callBool P n_cmp_Less_int #[(.int .i64 n5),(.int .i64 n6)] h2 fun b8 h7=>
 ifB b8 (
 idxI y0p (IntKind.wrap .i64 (y7-1)) y0n fun a9=>
 idxI y0p y7 y0n fun a10=>
 ldInt .i64 h7 (a9.add ((IntKind.wrap .i64 (y7-1)).toNat*1)) fun n11=>
 ldInt .i64 h7 (a10.add (y7.toNat*1)) fun n12=>
 idxI y0p y7 y0n fun a13=>
 stI h7 (a13.add (y7.toNat*1)) (.int .i64 n11) fun h14=>
 idxI y0p (IntKind.wrap .i64 (y7-1)) y0n fun a15=>
 stI h14 (a15.add ((IntKind.wrap .i64 (y7-1)).toNat*1)) (.int .i64 n12) fun h16=>
 K2 ((y0p,y0n,y0c),y1,y2,y6,(IntKind.wrap .i64 (y7-1)),()) h16) (
 K1 ((y0p,y0n,y0c),y1,y2,(IntKind.wrap .i64 (y6+1)),()) h7)) (
 K1 ((y0p,y0n,y0c),y1,y2,(IntKind.wrap .i64 (y6+1)),()) h2)
def slices_insertionSortOrdered_int_l1 (Q:VH) (K1:(S3×Int×Int×Int×Unit)→Heap→Prop) (y0p:OA) (y0n y0c:Nat) (y1 y2 y6:Int) (h1:Heap):Prop:=
 ifB (decide (y6<y2)) (
 LoopS (S:=(S3×Int×Int×Int×Int×Unit)) (fun K2 s h=>slices_insertionSortOrdered_int_l4 Q K1 K2 s.1.1 s.1.2.1 s.1.2.2 s.2.1 s.2.2.1 s.2.2.2.1 s.2.2.2.2.1 h) ((y0p,y0n,y0c),y1,y2,y6,y6,()) h1) (
 Q (.tuple #[]) h1)
def slices_insertionSortOrdered_int (y0p:OA) (y0n y0c:Nat) (y1 y2:Int) (h:Heap) (Q:VH):Prop:=
 LoopS (S:=(S3×Int×Int×Int×Unit)) (fun K1 s h=>slices_insertionSortOrdered_int_l1 Q K1 s.1.1 s.1.2.1 s.1.2.2 s.2.1 s.2.2.1 s.2.2.2.1 h) ((y0p,y0n,y0c),y1,y2,(IntKind.wrap .i64 (y1+1)),()) h
noncomputable def tab_slices_insertionSortOrdered_int:Tab:=tb (lookT .done [(4,(ones [0,1,2,3,4,5,6,8,9,10,11,7,12] (.alt 13 (ones [14] .done) .stop))),(6,(ones [0,1,2,3,4,5,6,7,8,10,11,12,9,13,14] (.alt 15 (ones [16] (.alt 17 .done .stop)) .stop)))]) (lookT [] [(1,[(0,SL),(1,I6),(2,I6),(6,I6)]),(4,[(0,SL),(1,I6),(2,I6),(6,I6),(7,I6)])]) (lookT none [])
theorem call_slices_insertionSortOrdered_int (y0p:OA) (y0n y0c:Nat) (y1 y2:Int) {h:Heap} {Q:VH} (H:slices_insertionSortOrdered_int y0p y0n y0c y1 y2 h Q):callP P n_slices_insertionSortOrdered_int #[(.slice y0p y0n y0c),(.int .i64 y1),(.int .i64 y2)] h Q:=
 @callP_of P n_slices_insertionSortOrdered_int Tryz.f239 tab_slices_insertionSortOrdered_int [(.slice y0p y0n y0c),(.int .i64 y1),(.int .i64 y2)] h Q mixed Tryz.func239 Tryz.call239 (by kernel_rfl) (Eq.mpr (by kernel_rfl) H)
def slices_pdqsortOrdered_int_j20 (Q:VH) (K1:YH Y17) (y0p:OA) (y0n y0c:Nat) (y1 y2 y3 y10 y11:Int) (h15:Heap):Prop:=
 callP P n_slices_partitionOrdered_int #[(.slice y0p y0n y0c),(.int .i64 y1),(.int .i64 y2),(.int .i64 y11)] h15 fun v17 h16=>
 ∃n18:Int,∃b19:Bool,v17=(.tuple #[(.int .i64 n18),(.bool b19)])∧
 ifB (decide ((IntKind.wrap .i64 (n18-y1))<(IntKind.wrap .i64 (y2-n18)))) (
 callUnit P n_slices_pdqsortOrdered_int #[(.slice y0p y0n y0c),(.int .i64 y1),(.int .i64 n18),(.int .i64 y3)] h16 fun h20=>
 K1 ((y0p,y0n,y0c),(IntKind.wrap .i64 (n18+1)),y2,y3,(decide ((IntKind.wrap .i64 (n18-y1))≥(IntKind.wrap .i64 (Int.tdiv y10 8)))),b19,()) h20) (
 callUnit P n_slices_pdqsortOrdered_int #[(.slice y0p y0n y0c),(.int .i64 (IntKind.wrap .i64 (n18+1))),(.int .i64 y2),(.int .i64 y3)] h16 fun h21=>
 K1 ((y0p,y0n,y0c),y1,n18,y3,(decide ((IntKind.wrap .i64 (y2-n18))≥(IntKind.wrap .i64 (Int.tdiv y10 8)))),b19,()) h21)
def slices_pdqsortOrdered_int_j17 (Q:VH) (K1:YH Y17) (y0p:OA) (y0n y0c:Nat) (y1 y2 y3:Int) (y8 y9:Bool) (y10 y11:Int) (h13:Heap):Prop:=
 ∃J14:YH Y16,(∀s h,J14 s h→slices_pdqsortOrdered_int_j20 Q K1 s.1.1 s.1.2.1 s.1.2.2 s.2.1 s.2.2.1 s.2.2.2.1 s.2.2.2.2.1 s.2.2.2.2.2.1 h)∧
 ifB (decide (y1>0)) (
 idxI y0p (IntKind.wrap .i64 (y1-1)) y0n fun a22=>
 idxI y0p y11 y0n fun a23=>
 ldInt .i64 h13 (a22.add ((IntKind.wrap .i64 (y1-1)).toNat*1)) fun n24=>
 ldInt .i64 h13 (a23.add (y11.toNat*1)) fun n25=>
 callBool P n_cmp_Less_int #[(.int .i64 n24),(.int .i64 n25)] h13 fun b27 h26=>
 ifB (!b27) (
 callInt P .i64 n_slices_partitionEqualOrdered_int #[(.slice y0p y0n y0c),(.int .i64 y1),(.int .i64 y2),(.int .i64 y11)] h26 fun n29 h28=>
 K1 ((y0p,y0n,y0c),n29,y2,y3,y8,y9,()) h28) (
 J14 ((y0p,y0n,y0c),y1,y2,y3,y10,y11,()) h26)) (
 J14 ((y0p,y0n,y0c),y1,y2,y3,y10,y11,()) h13)
def slices_pdqsortOrdered_int_j15 (Q:VH) (K1:YH Y17) (y0p:OA) (y0n y0c:Nat) (y1 y2 y3:Int) (y8 y9:Bool) (y10 y11 y12:Int) (h11:Heap):Prop:=
 ∃J12:YH Y20,(∀s h,J12 s h→slices_pdqsortOrdered_int_j17 Q K1 s.1.1 s.1.2.1 s.1.2.2 s.2.1 s.2.2.1 s.2.2.2.1 s.2.2.2.2.1 s.2.2.2.2.2.1 s.2.2.2.2.2.2.1 s.2.2.2.2.2.2.2.1 h)∧
 ifB y8 (
 ifB y9 (
 ifB (y12==1) (
 callBool P n_slices_partialInsertionSortOrdered_int #[(.slice y0p y0n y0c),(.int .i64 y1),(.int .i64 y2)] h11 fun b31 h30=>
 ifB b31 (
 Q (.tuple #[]) h30) (
 J12 ((y0p,y0n,y0c),y1,y2,y3,y8,y9,y10,y11,()) h30)) (
 J12 ((y0p,y0n,y0c),y1,y2,y3,y8,y9,y10,y11,()) h11)) (
 J12 ((y0p,y0n,y0c),y1,y2,y3,y8,y9,y10,y11,()) h11)) (
 J12 ((y0p,y0n,y0c),y1,y2,y3,y8,y9,y10,y11,()) h11)
def slices_pdqsortOrdered_int_j10 (Q:VH) (K1:YH Y17) (y0p:OA) (y0n y0c:Nat) (y1 y2 y3:Int) (y8 y9:Bool) (y10:Int) (h5:Heap):Prop:=
 callP P n_slices_choosePivotOrdered_int #[(.slice y0p y0n y0c),(.int .i64 y1),(.int .i64 y2)] h5 fun v7 h6=>
 ∃n8:Int,∃n9:Int,v7=(.tuple #[(.int .i64 n8),(.int .i64 n9)])∧
 ∃J10:YH Y19,(∀s h,J10 s h→slices_pdqsortOrdered_int_j15 Q K1 s.1.1 s.1.2.1 s.1.2.2 s.2.1 s.2.2.1 s.2.2.2.1 s.2.2.2.2.1 s.2.2.2.2.2.1 s.2.2.2.2.2.2.1 s.2.2.2.2.2.2.2.1 s.2.2.2.2.2.2.2.2.1 h)∧
 ifB (n9==2) (
 callUnit P n_slices_reverseRangeOrdered_int #[(.slice y0p y0n y0c),(.int .i64 y1),(.int .i64 y2)] h6 fun h32=>
 J10 ((y0p,y0n,y0c),y1,y2,y3,y8,y9,y10,(IntKind.wrap .i64 ((IntKind.wrap .i64 (y2-1))-(IntKind.wrap .i64 (n8-y1)))),(1:Int),()) h32) (
 J10 ((y0p,y0n,y0c),y1,y2,y3,y8,y9,y10,n8,n9,()) h6)
def slices_pdqsortOrdered_int_l2 (Q:VH) (K1:YH Y17) (y0p:OA) (y0n y0c:Nat) (y1 y2 y3:Int) (y8 y9:Bool) (h1:Heap):Prop:=
 ifB (decide ((IntKind.wrap .i64 (y2-y1))≤12)) (
 callUnit P n_slices_insertionSortOrdered_int #[(.slice y0p y0n y0c),(.int .i64 y1),(.int .i64 y2)] h1 fun h2=>
 Q (.tuple #[]) h2) (
 ifB (y3==0) (
 callUnit P n_slices_heapSortOrdered_int #[(.slice y0p y0n y0c),(.int .i64 y1),(.int .i64 y2)] h1 fun h3=>
 Q (.tuple #[]) h3) (
 ∃J4:YH Y18,(∀s h,J4 s h→slices_pdqsortOrdered_int_j10 Q K1 s.1.1 s.1.2.1 s.1.2.2 s.2.1 s.2.2.1 s.2.2.2.1 s.2.2.2.2.1 s.2.2.2.2.2.1 s.2.2.2.2.2.2.1 h)∧
 ifB (!y8) (
 callUnit P n_slices_breakPatternsOrdered_int #[(.slice y0p y0n y0c),(.int .i64 y1),(.int .i64 y2)] h1 fun h33=>
 J4 ((y0p,y0n,y0c),y1,y2,(IntKind.wrap .i64 (y3-1)),y8,y9,(IntKind.wrap .i64 (y2-y1)),()) h33) (
 J4 ((y0p,y0n,y0c),y1,y2,y3,y8,y9,(IntKind.wrap .i64 (y2-y1)),()) h1)))
def slices_pdqsortOrdered_int (y0p:OA) (y0n y0c:Nat) (y1 y2 y3:Int) (h:Heap) (Q:VH):Prop:=
 LoopS (S:=Y17) (fun K1 s h=>slices_pdqsortOrdered_int_l2 Q K1 s.1.1 s.1.2.1 s.1.2.2 s.2.1 s.2.2.1 s.2.2.2.1 s.2.2.2.2.1 s.2.2.2.2.2.1 h) ((y0p,y0n,y0c),y1,y2,y3,true,true,()) h
noncomputable def tab_slices_pdqsortOrdered_int:Tab:=tb (lookT .done [(17,(ones [0,1,2,3,4,5,6,8,9,10,7,11] (.alt 12 (ones [13,14] .done) .stop)))]) (lookT [] [(2,[(0,SL),(1,I6),(2,I6),(3,I6),(8,BO),(9,BO)])]) (lookT none [(10,some [(0,SL),(1,I6),(2,I6),(3,I6),(8,BO),(9,BO),(10,I6)]),(15,some [(0,SL),(1,I6),(2,I6),(3,I6),(8,BO),(9,BO),(10,I6),(11,I6),(12,I6)]),(17,some [(0,SL),(1,I6),(2,I6),(3,I6),(8,BO),(9,BO),(10,I6),(11,I6)]),(20,some [(0,SL),(1,I6),(2,I6),(3,I6),(10,I6),(11,I6)])])
theorem call_slices_pdqsortOrdered_int (y0p:OA) (y0n y0c:Nat) (y1 y2 y3:Int) {h:Heap} {Q:VH} (H:slices_pdqsortOrdered_int y0p y0n y0c y1 y2 y3 h Q):callP P n_slices_pdqsortOrdered_int #[(.slice y0p y0n y0c),(.int .i64 y1),(.int .i64 y2),(.int .i64 y3)] h Q:=
 @callP_of P n_slices_pdqsortOrdered_int Tryz.f226 tab_slices_pdqsortOrdered_int [(.slice y0p y0n y0c),(.int .i64 y1),(.int .i64 y2),(.int .i64 y3)] h Q mixed Tryz.func226 Tryz.call226 (by kernel_rfl) (Eq.mpr (by kernel_rfl) H)
def slices_Sort_int_int (y0p:OA) (y0n y0c:Nat) (h:Heap) (Q:VH):Prop:=
 callInt P .i64 n_math_bits_Len #[(.int .u64 (IntKind.wrap .u64 (y0n:Int)))] h fun n2 h1=>
 callUnit P n_slices_pdqsortOrdered_int #[(.slice y0p y0n y0c),(.int .i64 0),(.int .i64 (y0n:Int)),(.int .i64 n2)] h1 fun h3=>
 Q (.tuple #[]) h3
noncomputable def tab_slices_Sort_int_int:Tab:=tb (lookT .done []) (lookT [] []) (lookT none [])
theorem call_slices_Sort_int_int (y0p:OA) (y0n y0c:Nat) {h:Heap} {Q:VH} (H:slices_Sort_int_int y0p y0n y0c h Q):callP P n_slices_Sort_int_int #[(.slice y0p y0n y0c)] h Q:=
 @callP_of P n_slices_Sort_int_int Tryz.f187 tab_slices_Sort_int_int [(.slice y0p y0n y0c)] h Q mixed Tryz.func187 Tryz.call187 (by kernel_rfl) (Eq.mpr (by kernel_rfl) H)
def slices_Sorted_int (y0:Value) (h:Heap) (Q:VH):Prop:=
 callSlice P n_slices_Collect_int #[y0] h fun p2 l2 c2 h1=>
 callUnit P n_slices_Sort_int_int #[(.slice p2 l2 c2)] h1 fun h3=>
 Q (.slice p2 l2 c2) h3
noncomputable def tab_slices_Sorted_int:Tab:=tb (lookT .done []) (lookT [] []) (lookT none [])
theorem call_slices_Sorted_int (y0:Value) {h:Heap} {Q:VH} (H:slices_Sorted_int y0 h Q):callP P n_slices_Sorted_int #[y0] h Q:=
 @callP_of P n_slices_Sorted_int Tryz.f129 tab_slices_Sorted_int [y0] h Q mixed Tryz.func129 Tryz.call129 (by kernel_rfl) (Eq.mpr (by kernel_rfl) H)
def slices_Compact_int_int_l9 (Q:VH) (K1:(S3×Int×Unit)→Heap→Prop) (K2:YH Y21) (y0p:OA) (y0n y0c:Nat) (y3:Int) (y4p:OA) (y4n y4c:Nat) (y5:Int) (h7:Heap):Prop:=
 ifB (decide (y5<(y4n:Int))) (
 idxI y4p y5 y4n fun a8=>
 idxI y4p (IntKind.wrap .i64 (y5-1)) y4n fun a9=>
 ldInt .i64 h7 (a8.add (y5.toNat*1)) fun n10=>
 ldInt .i64 h7 (a9.add ((IntKind.wrap .i64 (y5-1)).toNat*1)) fun n11=>
 ifB (n10 !=n11) (
 idxI y4p y5 y4n fun a12=>
 ldInt .i64 h7 (a12.add (y5.toNat*1)) fun n13=>
 idxI y0p y3 y0n fun a14=>
 stI h7 (a14.add (y3.toNat*1)) (.int .i64 n13) fun h15=>
 K2 ((y0p,y0n,y0c),(IntKind.wrap .i64 (y3+1)),(y4p,y4n,y4c),(IntKind.wrap .i64 (y5+1)),()) h15) (
 K2 ((y0p,y0n,y0c),y3,(y4p,y4n,y4c),(IntKind.wrap .i64 (y5+1)),()) h7)) (
 bndI y3 y0n fun l16=>
 clB (.int .i64 0) (if y0c=l16 then y0p else Option.map (fun a=>a.add (l16*1)) y0p) (y0n-l16) h7 fun h17=>
 bndI y3 y0c fun l18=>
 Q (.slice (if y0c=0 then y0p else Option.map (fun a=>a.add (0*1)) y0p) (l18-0) (y0c-0)) h17)
def slices_Compact_int_int_l4 (Q:VH) (K1:(S3×Int×Unit)→Heap→Prop) (y0p:OA) (y0n y0c:Nat) (y3:Int) (h1:Heap):Prop:=
 ifB (decide (y3<(y0n:Int))) (
 idxI y0p y3 y0n fun a2=>
 idxI y0p (IntKind.wrap .i64 (y3-1)) y0n fun a3=>
 ldInt .i64 h1 (a2.add (y3.toNat*1)) fun n4=>
 ldInt .i64 h1 (a3.add ((IntKind.wrap .i64 (y3-1)).toNat*1)) fun n5=>
 ifB (n4==n5) (
 bndI y3 y0n fun l6=>
 LoopS (S:=Y21) (fun K2 s h=>slices_Compact_int_int_l9 Q K1 K2 s.1.1 s.1.2.1 s.1.2.2 s.2.1 s.2.2.1.1 s.2.2.1.2.1 s.2.2.1.2.2 s.2.2.2.1 h) ((y0p,y0n,y0c),y3,((if y0c=l6 then y0p else Option.map (fun a=>a.add (l6*1)) y0p),(y0n-l6),(y0c-l6)),(1:Int),()) h1) (
 K1 ((y0p,y0n,y0c),(IntKind.wrap .i64 (y3+1)),()) h1)) (
 Q (.slice y0p y0n y0c) h1)
def slices_Compact_int_int (y0p:OA) (y0n y0c:Nat) (h:Heap) (Q:VH):Prop:=
 ifB (decide ((y0n:Int)<2)) (
 Q (.slice y0p y0n y0c) h) (
 LoopS (S:=(S3×Int×Unit)) (fun K1 s h=>slices_Compact_int_int_l4 Q K1 s.1.1 s.1.2.1 s.1.2.2 s.2.1 h) ((y0p,y0n,y0c),(1:Int),()) h)
noncomputable def tab_slices_Compact_int_int:Tab:=tb (lookT .done [(6,(ones [0,1,2,4,5,6,7,3,8,9] .done)),(11,(ones [0,1,2,4,5,6,7,3,8,9] .done))]) (lookT [] [(4,[(0,SL),(3,I6)]),(9,[(0,SL),(3,I6),(4,SL),(5,I6)])]) (lookT none [])
theorem call_slices_Compact_int_int (y0p:OA) (y0n y0c:Nat) {h:Heap} {Q:VH} (H:slices_Compact_int_int y0p y0n y0c h Q):callP P n_slices_Compact_int_int #[(.slice y0p y0n y0c)] h Q:=
 @callP_of P n_slices_Compact_int_int Tryz.f128 tab_slices_Compact_int_int [(.slice y0p y0n y0c)] h Q mixed Tryz.func128 Tryz.call128 (by kernel_rfl) (Eq.mpr (by kernel_rfl) H)
def fuse_live_1_l1 (Q:VH) (K1:YH Y22) (t2 t3:Addr) (t16_p:OA) (t16_n t16_c:Nat) (t17 t18:Int) (h11:Heap):Prop:=
 ifB (decide (t18<t17)) (
 idxI t16_p t18 t16_n fun a12=>
 ldInt .i64 h11 (a12.add (t18.toNat*1)) fun n13=>
 ldMap h11 t2 fun m14=>
 lookB .i64 (.int .i64 0) m14 n13 h11 fun v16 b17=>
 ∃n18:Int,v16=(.int .i64 n18)∧
 updB .i64 m14 n13 (.int .i64 (IntKind.wrap .i64 (n18+1))) h11 fun h19=>
 ifB (decide (n13>0)) (
 ldMap h19 t2 fun m20=>
 lookB .i64 (.int .i64 0) m20 n13 h19 fun v22 b23=>
 ∃n24:Int,v22=(.int .i64 n24)∧
 ifB (n24==1) (
 ldAny h19 t3 fun v25=>
 callAny P v25 [(.int .i64 n13)] h19 fun v26 h27=>
 v26=(.tuple #[])∧
 K1 (t2,t3,(t16_p,t16_n,t16_c),t17,(IntKind.wrap .i64 (t18+1)),()) h27) (
 K1 (t2,t3,(t16_p,t16_n,t16_c),t17,(IntKind.wrap .i64 (t18+1)),()) h19)) (
 K1 (t2,t3,(t16_p,t16_n,t16_c),t17,(IntKind.wrap .i64 (t18+1)),()) h19)) (
 Q (.tuple #[]) h11)
def fuse_live_1 (y0:Int) (free0 free1 free2:Addr) (h:Heap) (Q:VH):Prop:=
 ldSlice h (free0.add 3) fun p1 l1 c1=>
 idxI p1 (IntKind.wrap .i64 (y0-1)) l1 fun a2=>
 ldSlice h (Addr.add (a2.add ((IntKind.wrap .i64 (y0-1)).toNat*15)) 1) fun p3 l3 c3=>
 callP P n_slices_Values_int_int #[(.slice p3 l3 c3)] h fun v5 h4=>
 ∃v6:Value,v5=v6∧
 callSlice P n_slices_Sorted_int #[v6] h4 fun p8 l8 c8 h7=>
 callSlice P n_slices_Compact_int_int #[(.slice p8 l8 c8)] h7 fun p10 l10 c10 h9=>
 LoopS (S:=Y22) (fun K1 s h=>fuse_live_1_l1 Q K1 s.1 s.2.1 s.2.2.1.1 s.2.2.1.2.1 s.2.2.1.2.2 s.2.2.2.1 s.2.2.2.2.1 h) (free1,free2,(p10,l10,c10),(l10:Int),(0:Int),()) h9
noncomputable def tab_fuse_live_1:Tab:=tb (lookT .done []) (lookT [] [(1,[(2,.sc (.adr)),(3,.sc (.adr)),(16,SL),(17,I6),(18,I6)])]) (lookT none [])
theorem call_fuse_live_1 (y0:Int) (free0 free1 free2:Addr) {h:Heap} {Q:VH} (H:fuse_live_1 y0 free0 free1 free2 h Q):callP P n_fuse_live_1 #[(.int .i64 y0),(.pointer (some free0)),(.pointer (some free1)),(.pointer (some free2))] h Q:=
 @callP_of P n_fuse_live_1 Tryz.f127 tab_fuse_live_1 [(.int .i64 y0),(.pointer (some free0)),(.pointer (some free1)),(.pointer (some free2))] h Q mixed Tryz.func127 Tryz.call127 (by kernel_rfl) (Eq.mpr (by kernel_rfl) H)
def fuse_live (y0:TS A2) (h:Heap) (Q:VH):Prop:=
 newI h (.cells (mkS' A2 y0).toArray 32 (0,0)) fun b1 h2=>
 newI h2 (.map #[] 0) fun r4 h3=>
 newI h3 (.cells #[(.map none)] 125 (0,0)) fun b5 h6=>
 stI h6 ⟨b5,0,none⟩ (.map (some r4)) fun h7=>
 newI h7 (.cells #[.nilFunc] 90 (0,0)) fun b8 h9=>
 stI h9 ⟨b8,0,none⟩ (.func (.func n_fuse_live_1) #[] #[(.pointer (some ⟨b1,0,none⟩)),(.pointer (some ⟨b5,0,none⟩)),(.pointer (some ⟨b8,0,none⟩))]) fun h10=>
 ldMap h10 ⟨b5,0,none⟩ fun m11=>
 ldInt .i64 h10 ⟨b1,4,none⟩ fun n12=>
 updB .i64 m11 n12 (.int .i64 0) h10 fun h13=>
 ldAny h13 ⟨b8,0,none⟩ fun v14=>
 ldInt .i64 h13 ⟨b1,4,none⟩ fun n15=>
 callAny P v14 [(.int .i64 n15)] h13 fun v16 h17=>
 v16=(.tuple #[])∧
 ldMap h17 ⟨b5,0,none⟩ fun m18=>
 Q (.map m18) h17
noncomputable def tab_fuse_live:Tab:=tb (lookT .done []) (lookT [] []) (lookT none [])
theorem call_fuse_live (y0:TS A2) {h:Heap} {Q:VH} (H:fuse_live y0 h Q):callP P n_fuse_live #[(agS A2 y0)] h Q:=
 @callP_of P n_fuse_live Tryz.f78 tab_fuse_live [(agS A2 y0)] h Q mixed Tryz.func78 Tryz.call78 (by kernel_rfl) (Eq.mpr (by kernel_rfl) H)
def slices_Index_int_int_l2 (Q:VH) (K1:(S3×Int×Int×Int×Unit)→Heap→Prop) (y0p:OA) (y0n y0c:Nat) (y1 t7 t8:Int) (h1:Heap):Prop:=
 ifB (decide (t8<t7)) (
 idxI y0p t8 y0n fun a2=>
 ldInt .i64 h1 (a2.add (t8.toNat*1)) fun n3=>
 ifB (y1==n3) (
 Q (.int .i64 t8) h1) (
 K1 ((y0p,y0n,y0c),y1,t7,(IntKind.wrap .i64 (t8+1)),()) h1)) (
 Q (.int .i64 (-1:Int)) h1)
def slices_Index_int_int (y0p:OA) (y0n y0c:Nat) (y1:Int) (h:Heap) (Q:VH):Prop:=
 LoopS (S:=(S3×Int×Int×Int×Unit)) (fun K1 s h=>slices_Index_int_int_l2 Q K1 s.1.1 s.1.2.1 s.1.2.2 s.2.1 s.2.2.1 s.2.2.2.1 h) ((y0p,y0n,y0c),y1,(y0n:Int),(0:Int),()) h
noncomputable def tab_slices_Index_int_int:Tab:=tb (lookT .done []) (lookT [] [(2,[(0,SL),(1,I6),(7,I6),(8,I6)])]) (lookT none [])
theorem call_slices_Index_int_int (y0p:OA) (y0n y0c:Nat) (y1:Int) {h:Heap} {Q:VH} (H:slices_Index_int_int y0p y0n y0c y1 h Q):callP P n_slices_Index_int_int #[(.slice y0p y0n y0c),(.int .i64 y1)] h Q:=
 @callP_of P n_slices_Index_int_int Tryz.f189 tab_slices_Index_int_int [(.slice y0p y0n y0c),(.int .i64 y1)] h Q mixed Tryz.func189 Tryz.call189 (by kernel_rfl) (Eq.mpr (by kernel_rfl) H)
def slices_Contains_int_int (y0p:OA) (y0n y0c:Nat) (y1:Int) (h:Heap) (Q:VH):Prop:=
 callInt P .i64 n_slices_Index_int_int #[(.slice y0p y0n y0c),(.int .i64 y1)] h fun n2 h1=>
 Q (.bool (decide (n2≥0))) h1
noncomputable def tab_slices_Contains_int_int:Tab:=tb (lookT .done []) (lookT [] []) (lookT none [])
theorem call_slices_Contains_int_int (y0p:OA) (y0n y0c:Nat) (y1:Int) {h:Heap} {Q:VH} (H:slices_Contains_int_int y0p y0n y0c y1 h Q):callP P n_slices_Contains_int_int #[(.slice y0p y0n y0c),(.int .i64 y1)] h Q:=
 @callP_of P n_slices_Contains_int_int Tryz.f131 tab_slices_Contains_int_int [(.slice y0p y0n y0c),(.int .i64 y1)] h Q mixed Tryz.func131 Tryz.call131 (by kernel_rfl) (Eq.mpr (by kernel_rfl) H)
def fuse_take (y0 y1:Option Addr) (h:Heap) (Q:VH):Prop:=
 nilI y1 fun a1=>
 ldInt .i64 h a1 fun n2=>
 ifB (n2==10) (
 nilI y0 fun a3=>
 ldInt .i64 h (a3.add 14) fun n4=>
 ifB (n4==0) (
 nilI y1 fun a5=>
 nilI y1 fun a6=>
 ldInt .i64 h (a5.add 10) fun n7=>
 ldInt .i64 h (a6.add 11) fun n8=>
 nilI y0 fun a9=>
 stI h (a9.add 14) (.int .i64 1) fun h10=>
 nilI y0 fun a11=>
 stI h10 (a11.add 10) (.int .i64 n7) fun h12=>
 nilI y0 fun a13=>
 stI h12 (a13.add 11) (.int .i64 n8) fun h14=>
 Q (.bool true) h14) (
 nilI y1 fun a15=>
 ldInt .i64 h a15 fun n16=>
 ifB (n16==9) (
 nilI y0 fun a17=>
 ldInt .i64 h (a17.add 14) fun n18=>
 ifB ((andI .i64 n18 2)==0) (
 nilI y0 fun a19=>
 nilI y1 fun a20=>
 nilI y1 fun a21=>
 ldInt .i64 h (a19.add 14) fun n22=>
 ldInt .i64 h (a20.add 12) fun n23=>
 ldInt .i64 h (a21.add 13) fun n24=>
 nilI y0 fun a25=>
 stI h (a25.add 14) (.int .i64 (orI .i64 n22 2)) fun h26=>
 nilI y0 fun a27=>
 stI h26 (a27.add 12) (.int .i64 n23) fun h28=>
 nilI y0 fun a29=>
 stI h28 (a29.add 13) (.int .i64 n24) fun h30=>
 Q (.bool true) h30) (
 Q (.bool false) h)) (
 Q (.bool false) h))) (
 nilI y1 fun a31=>
 ldInt .i64 h a31 fun n32=>
 ifB (n32==9) (
 nilI y0 fun a33=>
 ldInt .i64 h (a33.add 14) fun n34=>
 ifB ((andI .i64 n34 2)==0) (
 nilI y0 fun a35=>
 nilI y1 fun a36=>
 nilI y1 fun a37=>
 ldInt .i64 h (a35.add 14) fun n38=>
 ldInt .i64 h (a36.add 12) fun n39=>
 ldInt .i64 h (a37.add 13) fun n40=>
 nilI y0 fun a41=>
 stI h (a41.add 14) (.int .i64 (orI .i64 n38 2)) fun h42=>
 nilI y0 fun a43=>
 stI h42 (a43.add 12) (.int .i64 n39) fun h44=>
 nilI y0 fun a45=>
 stI h44 (a45.add 13) (.int .i64 n40) fun h46=>
 Q (.bool true) h46) (
 Q (.bool false) h)) (
 Q (.bool false) h))
noncomputable def tab_fuse_take:Tab:=tb (lookT .done [(3,(ones [0,1,2,3,4,5,7,8,9,6,10,11,12] (.alt 13 (ones [14,15] (.alt 16 (ones [17,18] (.alt 19 .done .stop)) .stop)) .stop))),(5,(ones [0,1,2,3,4,5,8,9,10,12,13,14,6,7,11,15,16,17] (.alt 18 (ones [19,20] (.alt 21 (ones [22,23] (.alt 24 .done .stop)) .stop)) .stop)))]) (lookT [] []) (lookT none [])
theorem call_fuse_take (y0 y1:Option Addr) {h:Heap} {Q:VH} (H:fuse_take y0 y1 h Q):callP P n_fuse_take #[(.pointer y0),(.pointer y1)] h Q:=
 @callP_of P n_fuse_take Tryz.f132 tab_fuse_take [(.pointer y0),(.pointer y1)] h Q mixed Tryz.func132 Tryz.call132 (by kernel_rfl) (Eq.mpr (by kernel_rfl) H)
def fuse_step_l20 (Q:VH) (K1:(Option Addr×Option Nat×Int×Int×Unit)→Heap→Prop) (K2:YH Y23) (K3:(Option Addr×Option Nat×Int×Int×Int×Int×Unit)→Heap→Prop) (K4:YH Y24) (y0:Option Addr) (y1:Option Nat) (y5 y9 y14 t116 t117:Int) (t127_p:OA) (t127_n t127_c:Nat) (t128 t129:Int) (h42:Heap):Prop:=
 ifB (decide (t129<t128)) (
 idxI t127_p t129 t127_n fun a43=>
 ldInt .i64 h42 (a43.add (t129.toNat*1)) fun n44=>
 ifB (n44==y9) (
 ifB ((IntKind.wrap .i64 (y14+1)) !=y9) (
 nilI y0 fun a45=>
 ldSlice h42 (a45.add 3) fun p46 l46 c46=>
 idxI p46 y14 l46 fun a47=>
 ldSlice h42 (Addr.add (a47.add (y14.toNat*15)) 1) fun p48 l48 c48=>
 idxI p48 t129 l48 fun a49=>
 stI h42 (a49.add (t129.toNat*1)) (.int .i64 (IntKind.wrap .i64 (y5+1))) fun h50=>
 K4 (y0,y1,y5,y9,y14,t116,t117,(t127_p,t127_n,t127_c),t128,(IntKind.wrap .i64 (t129+1)),()) h50) (
 K4 (y0,y1,y5,y9,y14,t116,t117,(t127_p,t127_n,t127_c),t128,(IntKind.wrap .i64 (t129+1)),()) h42)) (
 K4 (y0,y1,y5,y9,y14,t116,t117,(t127_p,t127_n,t127_c),t128,(IntKind.wrap .i64 (t129+1)),()) h42)) (
 K3 (y0,y1,y5,y9,t116,(IntKind.wrap .i64 (t117+1)),()) h42)
def fuse_step_l17 (Q:VH) (K1:(Option Addr×Option Nat×Int×Int×Unit)→Heap→Prop) (K2:YH Y23) (K3:(Option Addr×Option Nat×Int×Int×Int×Int×Unit)→Heap→Prop) (y0:Option Addr) (y1:Option Nat) (y5 y9 t116 t117:Int) (h37:Heap):Prop:=
 ifB (decide (t117<t116)) (
 nilI y0 fun a38=>
 ldSlice h37 (a38.add 3) fun p39 l39 c39=>
 idxI p39 t117 l39 fun a40=>
 ldSlice h37 (Addr.add (a40.add (t117.toNat*15)) 1) fun p41 l41 c41=>
 LoopS (S:=Y24) (fun K4 s h=>fuse_step_l20 Q K1 K2 K3 K4 s.1 s.2.1 s.2.2.1 s.2.2.2.1 s.2.2.2.2.1 s.2.2.2.2.2.1 s.2.2.2.2.2.2.1 s.2.2.2.2.2.2.2.1.1 s.2.2.2.2.2.2.2.1.2.1 s.2.2.2.2.2.2.2.1.2.2 s.2.2.2.2.2.2.2.2.1 s.2.2.2.2.2.2.2.2.2.1 h) (y0,y1,y5,y9,t117,t116,t117,(p41,l41,c41),(l41:Int),(0:Int),()) h37) (
 nilI y0 fun a51=>
 ldInt .i64 h37 (a51.add 4) fun n52=>
 ifB (n52==y9) (
 nilI y0 fun a53=>
 stI h37 (a53.add 4) (.int .i64 (IntKind.wrap .i64 (y5+1))) fun h54=>
 lookB .i64 (.int .i64 0) y1 y9 h54 fun v56 b57=>
 ∃n58:Int,v56=(.int .i64 n58)∧
 updB .i64 y1 (IntKind.wrap .i64 (y5+1)) (.int .i64 n58) h54 fun h59=>
 delB .i64 y1 y9 h59 fun h60=>
 Q (.bool true) h60) (
 lookB .i64 (.int .i64 0) y1 y9 h37 fun v62 b63=>
 ∃n64:Int,v62=(.int .i64 n64)∧
 updB .i64 y1 (IntKind.wrap .i64 (y5+1)) (.int .i64 n64) h37 fun h65=>
 delB .i64 y1 y9 h65 fun h66=>
 Q (.bool true) h66))
def fuse_step_l9 (Q:VH) (K1:(Option Addr×Option Nat×Int×Int×Unit)→Heap→Prop) (K2:YH Y23) (y0:Option Addr) (y1:Option Nat) (y5:Int) (y6:Addr) (y9 t21 t22:Int) (t77_p:OA) (t77_n t77_c:Nat) (t78 t79:Int) (h16:Heap):Prop:=
 ifB (decide (t79<t78)) (
 idxI t77_p t79 t77_n fun a17=>
 ldAg A1 h16 (a17.add (t79.toNat*15)) fun x18=>
 newI h16 (.cells (mkS' A1 (zT A1)).toArray 62 (0,0)) fun b19 h20=>
 storeL (mkS' A1 x18) h20 ⟨b19,0,none⟩ 0 fun h21=>
 lookB .i64 (.int .i64 0) y1 (IntKind.wrap .i64 (t79+1)) h21 fun v23 b24=>
 ∃n25:Int,∃b26:Bool,(Value.tuple #[v23,.bool b24])=(.tuple #[(.int .i64 n25),(.bool b26)])∧
 ifB b26 (
 ldSlice h21 ⟨b19,1,none⟩ fun p27 l27 c27=>
 callBool P n_slices_Contains_int_int #[(.slice p27 l27 c27),(.int .i64 (IntKind.wrap .i64 (y5+1)))] h21 fun b29 h28=>
 ifB b29 (
 K2 (y0,y1,y5,y6,(IntKind.wrap .i64 (t79+1)),t21,t22,(t77_p,t77_n,t77_c),t78,(IntKind.wrap .i64 (t79+1)),()) h28) (
 K2 (y0,y1,y5,y6,y9,t21,t22,(t77_p,t77_n,t77_c),t78,(IntKind.wrap .i64 (t79+1)),()) h28)) (
 K2 (y0,y1,y5,y6,y9,t21,t22,(t77_p,t77_n,t77_c),t78,(IntKind.wrap .i64 (t79+1)),()) h21)) (
 nilI y0 fun a30=>
 ldSlice h16 (a30.add 3) fun p31 l31 c31=>
 idxI p31 (IntKind.wrap .i64 (y9-1)) l31 fun a32=>
 callBool P n_fuse_take #[(.pointer (some y6)),(.pointer (some (a32.add ((IntKind.wrap .i64 (y9-1)).toNat*15))))] h16 fun b34 h33=>
 ifB (!b34) (
 K1 (y0,y1,t21,(IntKind.wrap .i64 (t22+1)),()) h33) (
 nilI y0 fun a35=>
 ldSlice h33 (a35.add 3) fun p36 l36 c36=>
 LoopS (S:=(Option Addr×Option Nat×Int×Int×Int×Int×Unit)) (fun K3 s h=>fuse_step_l17 Q K1 K2 K3 s.1 s.2.1 s.2.2.1 s.2.2.2.1 s.2.2.2.2.1 s.2.2.2.2.2.1 h) (y0,y1,y5,y9,(l36:Int),(0:Int),()) h33))
def fuse_step_j7 (Q:VH) (K1:(Option Addr×Option Nat×Int×Int×Unit)→Heap→Prop) (y0:Option Addr) (y1:Option Nat) (y5:Int) (y6:Addr) (t21 t22:Int) (h13:Heap):Prop:=
 nilI y0 fun a14=>
 ldSlice h13 (a14.add 3) fun p15 l15 c15=>
 LoopS (S:=Y23) (fun K2 s h=>fuse_step_l9 Q K1 K2 s.1 s.2.1 s.2.2.1 s.2.2.2.1 s.2.2.2.2.1 s.2.2.2.2.2.1 s.2.2.2.2.2.2.1 s.2.2.2.2.2.2.2.1.1 s.2.2.2.2.2.2.2.1.2.1 s.2.2.2.2.2.2.2.1.2.2 s.2.2.2.2.2.2.2.2.1 s.2.2.2.2.2.2.2.2.2.1 h) (y0,y1,y5,y6,(0:Int),t21,t22,(p15,l15,c15),(l15:Int),(0:Int),()) h13
def fuse_step_l2 (Q:VH) (K1:(Option Addr×Option Nat×Int×Int×Unit)→Heap→Prop) (y0:Option Addr) (y1:Option Nat) (t21 t22:Int) (h3:Heap):Prop:=
 ifB (decide (t22<t21)) (
 nilI y0 fun a4=>
 ldSlice h3 (a4.add 3) fun p5 l5 c5=>
 idxI p5 t22 l5 fun a6=>
 lookB .i64 (.int .i64 0) y1 (IntKind.wrap .i64 (t22+1)) h3 fun v8 b9=>
 ∃n10:Int,∃b11:Bool,(Value.tuple #[v8,.bool b9])=(.tuple #[(.int .i64 n10),(.bool b11)])∧
 ∃J12:(Option Addr×Option Nat×Int×Addr×Int×Int×Unit)→Heap→Prop,(∀s h,J12 s h→fuse_step_j7 Q K1 s.1 s.2.1 s.2.2.1 s.2.2.2.1 s.2.2.2.2.1 s.2.2.2.2.2.1 h)∧
 ifB (!b11) (
 K1 (y0,y1,t21,(IntKind.wrap .i64 (t22+1)),()) h3) (
 ifB (n10 !=1) (
 K1 (y0,y1,t21,(IntKind.wrap .i64 (t22+1)),()) h3) (
 nilI y0 fun a67=>
 ldInt .i64 h3 (a67.add 4) fun n68=>
 ifB ((IntKind.wrap .i64 (t22+1))==n68) (
 K1 (y0,y1,t21,(IntKind.wrap .i64 (t22+1)),()) h3) (
 nilI (some (a6.add (t22.toNat*15))) fun a69=>
 ldInt .i64 h3 a69 fun n70=>
 ifB (n70 !=1) (
 nilI (some (a6.add (t22.toNat*15))) fun a71=>
 ldInt .i64 h3 a71 fun n72=>
 ifB (n72 !=2) (
 nilI (some (a6.add (t22.toNat*15))) fun a73=>
 ldInt .i64 h3 a73 fun n74=>
 ifB (n74 !=6) (
 K1 (y0,y1,t21,(IntKind.wrap .i64 (t22+1)),()) h3) (
 J12 (y0,y1,t22,Addr.add a6 (t22.toNat*15),t21,t22,()) h3)) (
 J12 (y0,y1,t22,Addr.add a6 (t22.toNat*15),t21,t22,()) h3)) (
 J12 (y0,y1,t22,Addr.add a6 (t22.toNat*15),t21,t22,()) h3))))) (
 Q (.bool false) h3)
def fuse_step (y0:Option Addr) (y1:Option Nat) (h:Heap) (Q:VH):Prop:=
 nilI y0 fun a1=>
 ldSlice h (a1.add 3) fun p2 l2 c2=>
 LoopS (S:=(Option Addr×Option Nat×Int×Int×Unit)) (fun K1 s h=>fuse_step_l2 Q K1 s.1 s.2.1 s.2.2.1 s.2.2.2.1 h) (y0,y1,(l2:Int),(0:Int),()) h
noncomputable def tab_fuse_step:Tab:=tb (lookT .done []) (lookT [] [(2,[(0,.sc (.ptr)),(1,.sc (.map)),(21,I6),(22,I6)]),(9,[(0,.sc (.ptr)),(1,.sc (.map)),(5,I6),(6,.sc (.adr)),(9,I6),(21,I6),(22,I6),(77,SL),(78,I6),(79,I6)]),(17,[(0,.sc (.ptr)),(1,.sc (.map)),(5,I6),(9,I6),(116,I6),(117,I6)]),(20,[(0,.sc (.ptr)),(1,.sc (.map)),(5,I6),(9,I6),(14,I6),(116,I6),(117,I6),(127,SL),(128,I6),(129,I6)])]) (lookT none [(7,some [(0,.sc (.ptr)),(1,.sc (.map)),(5,I6),(6,.sc (.adr)),(21,I6),(22,I6)])])
theorem call_fuse_step (y0:Option Addr) (y1:Option Nat) {h:Heap} {Q:VH} (H:fuse_step y0 y1 h Q):callP P n_fuse_step #[(.pointer y0),(.map y1)] h Q:=
 @callP_of P n_fuse_step Tryz.f79 tab_fuse_step [(.pointer y0),(.map y1)] h Q mixed Tryz.func79 Tryz.call79 (by kernel_rfl) (Eq.mpr (by kernel_rfl) H)
def fuse_Fuse_l20 (Q:VH) (K1:(Addr×Addr×Option Nat×Unit)→Heap→Prop) (K2:YH Y25) (K3:YH Y26) (K4:YH Y27) (y1 t2:Addr) (y4:Option Nat) (y5p:OA) (y5n y5c:Nat) (y11:Addr) (t52_p:OA) (t52_n t52_c:Nat) (t53 t54:Int) (t59_p:OA) (t59_n t59_c:Nat) (t60 t61:Int) (h49:Heap):Prop:=
 ifB (decide (t61<t60)) (
 idxI t59_p t61 t59_n fun a50=>
 ldInt .i64 h49 (a50.add (t61.toNat*1)) fun n51=>
 ldSlice h49 (y11.add 1) fun p52 l52 c52=>
 lookB .i64 (.int .i64 0) y4 n51 h49 fun v54 b55=>
 ∃n56:Int,v54=(.int .i64 n56)∧
 idxI p52 t61 l52 fun a57=>
 stI h49 (a57.add (t61.toNat*1)) (.int .i64 n56) fun h58=>
 K4 (y1,t2,y4,(y5p,y5n,y5c),y11,(t52_p,t52_n,t52_c),t53,t54,(t59_p,t59_n,t59_c),t60,(IntKind.wrap .i64 (t61+1)),()) h58) (
 K3 (y1,t2,y4,(y5p,y5n,y5c),(t52_p,t52_n,t52_c),t53,(IntKind.wrap .i64 (t54+1)),()) h49)
def fuse_Fuse_l17 (Q:VH) (K1:(Addr×Addr×Option Nat×Unit)→Heap→Prop) (K2:YH Y25) (K3:YH Y26) (y1 t2:Addr) (y4:Option Nat) (y5p:OA) (y5n y5c:Nat) (t52_p:OA) (t52_n t52_c:Nat) (t53 t54:Int) (h42:Heap):Prop:=
 ifB (decide (t54<t53)) (
 idxI t52_p t54 t52_n fun a43=>
 ldAg A1 h42 (a43.add (t54.toNat*15)) fun x44=>
 newI h42 (.cells (mkS' A1 (zT A1)).toArray 62 (0,0)) fun b45 h46=>
 storeL (mkS' A1 x44) h46 ⟨b45,0,none⟩ 0 fun h47=>
 ldSlice h47 ⟨b45,1,none⟩ fun p48 l48 c48=>
 LoopS (S:=Y27) (fun K4 s h=>fuse_Fuse_l20 Q K1 K2 K3 K4 s.1 s.2.1 s.2.2.1 s.2.2.2.1.1 s.2.2.2.1.2.1 s.2.2.2.1.2.2 s.2.2.2.2.1 s.2.2.2.2.2.1.1 s.2.2.2.2.2.1.2.1 s.2.2.2.2.2.1.2.2 s.2.2.2.2.2.2.1 s.2.2.2.2.2.2.2.1 s.2.2.2.2.2.2.2.2.1.1 s.2.2.2.2.2.2.2.2.1.2.1 s.2.2.2.2.2.2.2.2.1.2.2 s.2.2.2.2.2.2.2.2.2.1 s.2.2.2.2.2.2.2.2.2.2.1 h) (y1,t2,y4,(y5p,y5n,y5c),⟨b45,0,none⟩,(t52_p,t52_n,t52_c),t53,t54,(p48,l48,c48),(l48:Int),(0:Int),()) h47) (
 ldInt .i64 h42 (y1.add 4) fun n59=>
 lookB .i64 (.int .i64 0) y4 n59 h42 fun v61 b62=>
 ∃n63:Int,v61=(.int .i64 n63)∧
 stI h42 (y1.add 3) (.slice y5p y5n y5c) fun h64=>
 stI h64 (y1.add 4) (.int .i64 n63) fun h65=>
 ldAg A2 h65 y1 fun x66=>
 storeL (mkS' A2 x66) h65 t2 0 fun h67=>
 ldAg A2 h67 t2 fun x68=>
 Q (agS A2 x68) h67)
def fuse_Fuse_l9 (Q:VH) (K1:(Addr×Addr×Option Nat×Unit)→Heap→Prop) (K2:YH Y25) (y1 t2:Addr) (y3 y4:Option Nat) (y5p:OA) (y5n y5c:Nat) (t27_p:OA) (t27_n t27_c:Nat) (t28 t29:Int) (h25:Heap):Prop:=
 ifB (decide (t29<t28)) (
 idxI t27_p t29 t27_n fun a26=>
 ldAg A1 h25 (a26.add (t29.toNat*15)) fun x27=>
 newI h25 (.cells (mkS' A1 (zT A1)).toArray 62 (0,0)) fun b28 h29=>
 storeL (mkS' A1 x27) h29 ⟨b28,0,none⟩ 0 fun h30=>
 lookB .i64 (.int .i64 0) y3 (IntKind.wrap .i64 (t29+1)) h30 fun v32 b33=>
 ∃n34:Int,∃b35:Bool,(Value.tuple #[v32,.bool b33])=(.tuple #[(.int .i64 n34),(.bool b35)])∧
 ifB b35 (
 ldAg A1 h30 ⟨b28,0,none⟩ fun x36=>
 newI h30 (.cells (mkS' A1 x36).toArray 62 (0,0)) fun b37 h38=>
 appI 62 15 168 (agS A1 (zT A1)) y5p y5n y5c (some ⟨b37,0,none⟩) 1 h38 fun p39 l39 c39 h40=>
 updB .i64 y4 (IntKind.wrap .i64 (t29+1)) (.int .i64 (l39:Int)) h40 fun h41=>
 K2 (y1,t2,y3,y4,(p39,l39,c39),(t27_p,t27_n,t27_c),t28,(IntKind.wrap .i64 (t29+1)),()) h41) (
 K2 (y1,t2,y3,y4,(y5p,y5n,y5c),(t27_p,t27_n,t27_c),t28,(IntKind.wrap .i64 (t29+1)),()) h30)) (
 LoopS (S:=Y26) (fun K3 s h=>fuse_Fuse_l17 Q K1 K2 K3 s.1 s.2.1 s.2.2.1 s.2.2.2.1.1 s.2.2.2.1.2.1 s.2.2.2.1.2.2 s.2.2.2.2.1.1 s.2.2.2.2.1.2.1 s.2.2.2.2.1.2.2 s.2.2.2.2.2.1 s.2.2.2.2.2.2.1 h) (y1,t2,y4,(y5p,y5n,y5c),(y5p,y5n,y5c),(y5n:Int),(0:Int),()) h25)
def fuse_Fuse_l5 (Q:VH) (K1:(Addr×Addr×Option Nat×Unit)→Heap→Prop) (y1 t2:Addr) (y3:Option Nat) (h18:Heap):Prop:=
 callBool P n_fuse_step #[(.pointer (some y1)),(.map y3)] h18 fun b20 h19=>
 ifB b20 (
 K1 (y1,t2,y3,()) h19) (
 newI h19 (.map #[] 0) fun r22 h21=>
 updB .i64 (some r22) 0 (.int .i64 0) h21 fun h23=>
 ldSlice h23 (y1.add 3) fun p24 l24 c24=>
 LoopS (S:=Y25) (fun K2 s h=>fuse_Fuse_l9 Q K1 K2 s.1 s.2.1 s.2.2.1 s.2.2.2.1 s.2.2.2.2.1.1 s.2.2.2.2.1.2.1 s.2.2.2.2.1.2.2 s.2.2.2.2.2.1.1 s.2.2.2.2.2.1.2.1 s.2.2.2.2.2.1.2.2 s.2.2.2.2.2.2.1 s.2.2.2.2.2.2.2.1 h) (y1,t2,y3,(some r22),(none,0,0),(p24,l24,c24),(l24:Int),(0:Int),()) h23)
def fuse_Fuse (y0:TS A2) (h:Heap) (Q:VH):Prop:=
 newI h (.cells (mkS' A2 y0).toArray 32 (0,0)) fun b1 h2=>
 newI h2 (.cells (mkS' A2 (zT A2)).toArray 32 (0,0)) fun b3 h4=>
 ldAg A2 h4 ⟨b1,0,none⟩ fun x5=>
 callInt P .i64 n_graph_Check #[(agS A2 x5)] h4 fun n7 h6=>
 ifB (n7 !=0) (
 storeL [(.int .i64 0),(.int .i64 0),(.int .i64 0),(.slice none 0 0),(.int .i64 0)] h6 ⟨b3,0,none⟩ 0 fun h8=>
 ldAg A2 h8 ⟨b3,0,none⟩ fun x9=>
 Q (agS A2 x9) h8) (
 ldAg A2 h6 ⟨b1,0,none⟩ fun x10=>
 callP P n_fuse_own #[(agS A2 x10)] h6 fun v12 h11=>
 exS A2 fun x13=>v12=(agS A2 x13)∧
 storeL (mkS' A2 x13) h11 ⟨b1,0,none⟩ 0 fun h14=>
 ldAg A2 h14 ⟨b1,0,none⟩ fun x15=>
 callMap P n_fuse_live #[(agS A2 x15)] h14 fun m17 h16=>
 LoopS (S:=(Addr×Addr×Option Nat×Unit)) (fun K1 s h=>fuse_Fuse_l5 Q K1 s.1 s.2.1 s.2.2.1 h) (⟨b1,0,none⟩,⟨b3,0,none⟩,m17,()) h16)
noncomputable def tab_fuse_Fuse:Tab:=tb (lookT .done []) (lookT [] [(5,[(1,.sc (.adr)),(2,.sc (.adr)),(3,.sc (.map))]),(9,[(1,.sc (.adr)),(2,.sc (.adr)),(3,.sc (.map)),(4,.sc (.map)),(5,SL),(27,SL),(28,I6),(29,I6)]),(17,[(1,.sc (.adr)),(2,.sc (.adr)),(4,.sc (.map)),(5,SL),(52,SL),(53,I6),(54,I6)]),(20,[(1,.sc (.adr)),(2,.sc (.adr)),(4,.sc (.map)),(5,SL),(11,.sc (.adr)),(52,SL),(53,I6),(54,I6),(59,SL),(60,I6),(61,I6)])]) (lookT none [])
theorem call_fuse_Fuse (y0:TS A2) {h:Heap} {Q:VH} (H:fuse_Fuse y0 h Q):callP P n_fuse_Fuse #[(agS A2 y0)] h Q:=
 @callP_of P n_fuse_Fuse Tryz.f33 tab_fuse_Fuse [(agS A2 y0)] h Q mixed Tryz.func33 Tryz.call33 (by kernel_rfl) (Eq.mpr (by kernel_rfl) H)
def graph_Rates (y0:TS A2) (h:Heap) (Q:VH):Prop:=
 newI h (.cells (mkS' A2 y0).toArray 32 (0,0)) fun b1 h2=>
 ldAg A2 h2 ⟨b1,0,none⟩ fun x3=>
 callP P n_graph_look #[(agS A2 x3)] h2 fun v5 h4=>
 ∃p6:Option Addr,∃l6:Nat,∃c6:Nat,∃p7:Option Addr,∃l7:Nat,∃c7:Nat,∃p8:Option Addr,∃l8:Nat,∃c8:Nat,∃n9:Int,v5=(.tuple #[(.agg #[(.slice p6 l6 c6),(.slice p7 l7 c7),(.slice p8 l8 c8)]),(.int .i64 n9)])∧
 newI h4 (.cells #[(.slice none 0 0),(.slice none 0 0),(.slice none 0 0)] 139 (0,0)) fun b10 h11=>
 stI h11 ⟨b10,0,none⟩ (.slice p6 l6 c6) fun h12=>
 stI h12 ⟨b10,1,none⟩ (.slice p7 l7 c7) fun h13=>
 stI h13 ⟨b10,2,none⟩ (.slice p8 l8 c8) fun h14=>
 ldSlice h14 ⟨b10,2,none⟩ fun p15 l15 c15=>
 Q (.slice p15 l15 c15) h14
noncomputable def tab_graph_Rates:Tab:=tb (lookT .done []) (lookT [] []) (lookT none [])
theorem call_graph_Rates (y0:TS A2) {h:Heap} {Q:VH} (H:graph_Rates y0 h Q):callP P n_graph_Rates #[(agS A2 y0)] h Q:=
 @callP_of P n_graph_Rates Tryz.f80 tab_graph_Rates [(agS A2 y0)] h Q mixed Tryz.func80 Tryz.call80 (by kernel_rfl) (Eq.mpr (by kernel_rfl) H)
def field_all_1_l1 (Q:VH) (K1:YH Y28) (y0:Value) (t1:Addr) (t6_p:OA) (t6_n t6_c:Nat) (t7 t8:Int) (h4:Heap):Prop:=
 ifB (decide (t8<t7)) (
 idxI t6_p t8 t6_n fun a5=>
 ldInt .i64 h4 (a5.add (t8.toNat*1)) fun n6=>
 ldSlice h4 (t1.add 3) fun p7 l7 c7=>
 idxI p7 (IntKind.wrap .i64 (n6-1)) l7 fun a8=>
 ldAg A1 h4 (a8.add ((IntKind.wrap .i64 (n6-1)).toNat*15)) fun x9=>
 callAny P y0 [(.int .i64 n6),(agS A1 x9)] h4 fun v10 h11=>
 ∃b12:Bool,v10=(.bool b12)∧
 ifB (!b12) (
 Q (.tuple #[]) h11) (
 K1 (y0,t1,(t6_p,t6_n,t6_c),t7,(IntKind.wrap .i64 (t8+1)),()) h11)) (
 Q (.tuple #[]) h4)
def field_all_1 (y0:Value) (free0:Addr) (h:Heap) (Q:VH):Prop:=
 ldAg A2 h free0 fun x1=>
 callSlice P n_graph_Order #[(agS A2 x1)] h fun p3 l3 c3 h2=>
 LoopS (S:=Y28) (fun K1 s h=>field_all_1_l1 Q K1 s.1 s.2.1 s.2.2.1.1 s.2.2.1.2.1 s.2.2.1.2.2 s.2.2.2.1 s.2.2.2.2.1 h) (y0,free0,(p3,l3,c3),(l3:Int),(0:Int),()) h2
noncomputable def tab_field_all_1:Tab:=tb (lookT .done []) (lookT [] [(1,[(0,.sc (.any)),(1,.sc (.adr)),(6,SL),(7,I6),(8,I6)])]) (lookT none [])
theorem call_field_all_1 (y0:Value) (free0:Addr) {h:Heap} {Q:VH} (H:field_all_1 y0 free0 h Q):callP P n_field_all_1 #[y0,(.pointer (some free0))] h Q:=
 @callP_of P n_field_all_1 Tryz.f135 tab_field_all_1 [y0,(.pointer (some free0))] h Q mixed Tryz.func135 Tryz.call135 (by kernel_rfl) (Eq.mpr (by kernel_rfl) H)
def field_all (y0:TS A2) (h:Heap) (Q:VH):Prop:=
 newI h (.cells (mkS' A2 y0).toArray 32 (0,0)) fun b1 h2=>
 Q (.func (.func n_field_all_1) #[] #[(.pointer (some ⟨b1,0,none⟩))]) h2
noncomputable def tab_field_all:Tab:=tb (lookT .done []) (lookT [] []) (lookT none [])
theorem call_field_all (y0:TS A2) {h:Heap} {Q:VH} (H:field_all y0 h Q):callP P n_field_all #[(agS A2 y0)] h Q:=
 @callP_of P n_field_all Tryz.f82 tab_field_all [(agS A2 y0)] h Q mixed Tryz.func82 Tryz.call82 (by kernel_rfl) (Eq.mpr (by kernel_rfl) H)
def field_pick_l3 (Q:VH) (K1:YH Y5) (y0p:OA) (y0n y0c:Nat) (y5p:OA) (y5n y5c:Nat) (t11_p:OA) (t11_n t11_c:Nat) (t12 t13:Int) (h3:Heap):Prop:=
 ifB (decide (t13<t12)) (
 idxI t11_p t13 t11_n fun a4=>
 ldInt .i64 h3 (a4.add (t13.toNat*1)) fun n5=>
 idxI y0p n5 y0n fun a6=>
 ldInt .i64 h3 (a6.add (n5.toNat*1)) fun n7=>
 idxI y5p t13 y5n fun a8=>
 stI h3 (a8.add (t13.toNat*1)) (.int .i64 n7) fun h9=>
 K1 ((y0p,y0n,y0c),(y5p,y5n,y5c),(t11_p,t11_n,t11_c),t12,(IntKind.wrap .i64 (t13+1)),()) h9) (
 Q (.slice y5p y5n y5c) h3)
def field_pick (y0p:OA) (y0n y0c:Nat) (y1p:OA) (y1n y1c:Nat) (h:Heap) (Q:VH):Prop:=
 mkI 3 1 8 (.int .i64 0) (y1n:Int) (y1n:Int) h fun b1 h2=>
 LoopS (S:=Y5) (fun K1 s h=>field_pick_l3 Q K1 s.1.1 s.1.2.1 s.1.2.2 s.2.1.1 s.2.1.2.1 s.2.1.2.2 s.2.2.1.1 s.2.2.1.2.1 s.2.2.1.2.2 s.2.2.2.1 s.2.2.2.2.1 h) ((y0p,y0n,y0c),(some ⟨b1,0,none⟩,(y1n:Int).toNat,(y1n:Int).toNat),(y1p,y1n,y1c),(y1n:Int),(0:Int),()) h2
noncomputable def tab_field_pick:Tab:=tb (lookT .done []) (lookT [] [(3,[(0,SL),(5,SL),(11,SL),(12,I6),(13,I6)])]) (lookT none [])
theorem call_field_pick (y0p:OA) (y0n y0c:Nat) (y1p:OA) (y1n y1c:Nat) {h:Heap} {Q:VH} (H:field_pick y0p y0n y0c y1p y1n y1c h Q):callP P n_field_pick #[(.slice y0p y0n y0c),(.slice y1p y1n y1c)] h Q:=
 @callP_of P n_field_pick Tryz.f84 tab_field_pick [(.slice y0p y0n y0c),(.slice y1p y1n y1c)] h Q mixed Tryz.func84 Tryz.call84 (by kernel_rfl) (Eq.mpr (by kernel_rfl) H)
def slices_Min_int_int_l5 (Q:VH) (K1:(S3×Int×Int×Unit)→Heap→Prop) (y0p:OA) (y0n y0c:Nat) (y3 y4:Int) (h5:Heap):Prop:=
 ifB (decide (y4<(y0n:Int))) (
 idxI y0p y4 y0n fun a6=>
 ldInt .i64 h5 (a6.add (y4.toNat*1)) fun n7=>
 K1 ((y0p,y0n,y0c),(if n7<y3 then n7 else y3),(IntKind.wrap .i64 (y4+1)),()) h5) (
 Q (.int .i64 y3) h5)
def slices_Min_int_int_j3 (Q:VH) (y0p:OA) (y0n y0c:Nat) (h2:Heap):Prop:=
 idxI y0p 0 y0n fun a3=>
 ldInt .i64 h2 (a3.add ((0:Int).toNat*1)) fun n4=>
 LoopS (S:=(S3×Int×Int×Unit)) (fun K1 s h=>slices_Min_int_int_l5 Q K1 s.1.1 s.1.2.1 s.1.2.2 s.2.1 s.2.2.1 h) ((y0p,y0n,y0c),n4,(1:Int),()) h2
def slices_Min_int_int (y0p:OA) (y0n y0c:Nat) (h:Heap) (Q:VH):Prop:=
 ∃J1:(S3×Unit)→Heap→Prop,(∀s h,J1 s h→slices_Min_int_int_j3 Q s.1.1 s.1.2.1 s.1.2.2 h)∧
 ifB (decide ((y0n:Int)<1)) (
 False) (
 J1 ((y0p,y0n,y0c),()) h)
noncomputable def tab_slices_Min_int_int:Tab:=tb (lookT .done []) (lookT [] [(5,[(0,SL),(3,I6),(4,I6)])]) (lookT none [(3,some [(0,SL)])])
theorem call_slices_Min_int_int (y0p:OA) (y0n y0c:Nat) {h:Heap} {Q:VH} (H:slices_Min_int_int y0p y0n y0c h Q):callP P n_slices_Min_int_int #[(.slice y0p y0n y0c)] h Q:=
 @callP_of P n_slices_Min_int_int Tryz.f133 tab_slices_Min_int_int [(.slice y0p y0n y0c)] h Q mixed Tryz.func133 Tryz.call133 (by kernel_rfl) (Eq.mpr (by kernel_rfl) H)
def slices_Max_int_int_l5 (Q:VH) (K1:(S3×Int×Int×Unit)→Heap→Prop) (y0p:OA) (y0n y0c:Nat) (y3 y4:Int) (h5:Heap):Prop:=
 ifB (decide (y4<(y0n:Int))) (
 idxI y0p y4 y0n fun a6=>
 ldInt .i64 h5 (a6.add (y4.toNat*1)) fun n7=>
 K1 ((y0p,y0n,y0c),(if n7>y3 then n7 else y3),(IntKind.wrap .i64 (y4+1)),()) h5) (
 Q (.int .i64 y3) h5)
def slices_Max_int_int_j3 (Q:VH) (y0p:OA) (y0n y0c:Nat) (h2:Heap):Prop:=
 idxI y0p 0 y0n fun a3=>
 ldInt .i64 h2 (a3.add ((0:Int).toNat*1)) fun n4=>
 LoopS (S:=(S3×Int×Int×Unit)) (fun K1 s h=>slices_Max_int_int_l5 Q K1 s.1.1 s.1.2.1 s.1.2.2 s.2.1 s.2.2.1 h) ((y0p,y0n,y0c),n4,(1:Int),()) h2
def slices_Max_int_int (y0p:OA) (y0n y0c:Nat) (h:Heap) (Q:VH):Prop:=
 ∃J1:(S3×Unit)→Heap→Prop,(∀s h,J1 s h→slices_Max_int_int_j3 Q s.1.1 s.1.2.1 s.1.2.2 h)∧
 ifB (decide ((y0n:Int)<1)) (
 False) (
 J1 ((y0p,y0n,y0c),()) h)
noncomputable def tab_slices_Max_int_int:Tab:=tb (lookT .done []) (lookT [] [(5,[(0,SL),(3,I6),(4,I6)])]) (lookT none [(3,some [(0,SL)])])
theorem call_slices_Max_int_int (y0p:OA) (y0n y0c:Nat) {h:Heap} {Q:VH} (H:slices_Max_int_int y0p y0n y0c h Q):callP P n_slices_Max_int_int #[(.slice y0p y0n y0c)] h Q:=
 @callP_of P n_slices_Max_int_int Tryz.f83 tab_slices_Max_int_int [(.slice y0p y0n y0c)] h Q mixed Tryz.func83 Tryz.call83 (by kernel_rfl) (Eq.mpr (by kernel_rfl) H)
def field_Reach_j5 (Q:VH) (g_1 low_2 high_3 rates_4:Addr) (h19:Heap):Prop:=
 ldAg A2 h19 g_1 fun x20=>
 callP P n_field_all #[(agS A2 x20)] h19 fun v22 h21=>
 ∃v23:Value,v22=v23∧
 rangeP P v23 [.sc (.int .i64),.ag A1] (fun rdy24 busy24 l24 y24 R24 h25=>
 newI h25 (.cells (mkS' A1 (zT A1)).toArray 62 (0,0)) fun b26 h27=>
 storeL (mkS' A1 y24.2.1) h27 ⟨b26,0,none⟩ 0 fun h28=>
 h28[l24]? =some rdy24∧
 ldSlice (Array.setIfInBounds h28 l24 busy24) rates_4 fun p29 l29 c29=>
 idxI p29 y24.1 l29 fun a30=>
 ldInt .i64 (Array.setIfInBounds h28 l24 busy24) (a30.add (y24.1.toNat*1)) fun n31=>
 ifB (n31==0) (
 R24 (Array.setIfInBounds h28 l24 busy24)) (
 ldSlice (Array.setIfInBounds h28 l24 busy24) rates_4 fun p32 l32 c32=>
 ldSlice (Array.setIfInBounds h28 l24 busy24) ⟨b26,1,none⟩ fun p33 l33 c33=>
 idxI p33 0 l33 fun a34=>
 ldInt .i64 (Array.setIfInBounds h28 l24 busy24) (a34.add ((0:Int).toNat*1)) fun n35=>
 idxI p32 n35 l32 fun a36=>
 ldInt .i64 (Array.setIfInBounds h28 l24 busy24) (a36.add (n35.toNat*1)) fun n37=>
 ldAg A1 (Array.setIfInBounds h28 l24 busy24) ⟨b26,0,none⟩ fun x38=>
 callP P n_kind_Pads #[(agS A1 x38)] (Array.setIfInBounds h28 l24 busy24) fun v40 h39=>
 ∃n41:Int,∃n42:Int,v40=(.tuple #[(.int .i64 n41),(.int .i64 n42)])∧
 ldSlice h39 low_2 fun p43 l43 c43=>
 ldSlice h39 low_2 fun p44 l44 c44=>
 ldSlice h39 ⟨b26,1,none⟩ fun p45 l45 c45=>
 callSlice P n_field_pick #[(.slice p44 l44 c44),(.slice p45 l45 c45)] h39 fun p47 l47 c47 h46=>
 cellH h46 low_2=some (.slice p43 l43 c43)∧
 callInt P .i64 n_slices_Min_int_int #[(.slice p47 l47 c47)] h46 fun n49 h48=>
 cellH h48 low_2=some (.slice p44 l44 c44)∧
 cellH h48 low_2=some (.slice p43 l43 c43)∧
 idxI p43 y24.1 l43 fun a50=>
 stI h48 (a50.add (y24.1.toNat*1)) (.int .i64 (IntKind.wrap .i64 (n49-(IntKind.wrap .i64 (n37*n41))))) fun h51=>
 ldSlice h51 high_3 fun p52 l52 c52=>
 ldSlice h51 high_3 fun p53 l53 c53=>
 ldSlice h51 ⟨b26,1,none⟩ fun p54 l54 c54=>
 ldAg A1 h51 ⟨b26,0,none⟩ fun x55=>
 callSlice P n_field_pick #[(.slice p53 l53 c53),(.slice p54 l54 c54)] h51 fun p57 l57 c57 h56=>
 holdW (watchL 0 ⟨b26,0,none⟩ (mkS' A1 x55) 0) h56 (
 cellH h56 high_3=some (.slice p52 l52 c52)∧
 callInt P .i64 n_slices_Max_int_int #[(.slice p57 l57 c57)] h56 fun n59 h58=>
 holdW (watchL 0 ⟨b26,0,none⟩ (mkS' A1 x55) 0) h58 (
 cellH h58 ⟨b26,1,none⟩=some (.slice p54 l54 c54)∧
 cellH h58 high_3=some (.slice p53 l53 c53)∧
 cellH h58 high_3=some (.slice p52 l52 c52)∧
 callInt P .i64 n_kind_Span #[(agS A1 x55)] h58 fun n61 h60=>
 cellH h60 ⟨b26,1,none⟩=some (.slice p54 l54 c54)∧
 cellH h60 high_3=some (.slice p53 l53 c53)∧
 cellH h60 high_3=some (.slice p52 l52 c52)∧
 idxI p52 y24.1 l52 fun a62=>
 stI h60 (a62.add (y24.1.toNat*1)) (.int .i64 (IntKind.wrap .i64 (n59+(IntKind.wrap .i64 (n37*(IntKind.wrap .i64 ((IntKind.wrap .i64 (n61-1))-n41))))))) fun h63=>
 R24 h63)))) h21 fun D64 h65=>
 ldSlice h65 low_2 fun p66 l66 c66=>
 ldSlice h65 high_3 fun p67 l67 c67=>
 stI h65 low_2 (.slice p66 l66 c66) fun h68=>
 cellH h68 high_3=some (.slice p67 l67 c67)∧
 stI h68 high_3 (.slice p67 l67 c67) fun h69=>
 h69[D64]? =some (Obj.deferred (some []))∧
 ldSlice (Array.setIfInBounds h69 D64 (Obj.deferred none)) low_2 fun p70 l70 c70=>
 ldSlice (Array.setIfInBounds h69 D64 (Obj.deferred none)) high_3 fun p71 l71 c71=>
 Q (.tuple #[(.slice p70 l70 c70),(.slice p71 l71 c71)]) (Array.setIfInBounds h69 D64 (Obj.deferred none))
def field_Reach (g_0:TS A2) (h:Heap) (Q:VH):Prop:=
 newI h (.cells (mkS' A2 g_0).toArray 32 (0,0)) fun b1 h2=>
 newI h2 (.cells #[(.slice none 0 0)] 22 (0,0)) fun b3 h4=>
 newI h4 (.cells #[(.slice none 0 0)] 22 (0,0)) fun b5 h6=>
 ldAg A2 h6 ⟨b1,0,none⟩ fun x7=>
 callSlice P n_graph_Rates #[(agS A2 x7)] h6 fun p9 l9 c9 h8=>
 newI h8 (.cells #[(.slice none 0 0)] 22 (0,0)) fun b10 h11=>
 stI h11 ⟨b10,0,none⟩ (.slice p9 l9 c9) fun h12=>
 ldSlice h12 ⟨b10,0,none⟩ fun p13 l13 c13=>
 ifB ((p13).isNone) (
 stI h12 ⟨b3,0,none⟩ (.slice none 0 0) fun h14=>
 stI h14 ⟨b5,0,none⟩ (.slice none 0 0) fun h15=>
 ldSlice h15 ⟨b3,0,none⟩ fun p16 l16 c16=>
 ldSlice h15 ⟨b5,0,none⟩ fun p17 l17 c17=>
 Q (.tuple #[(.slice p16 l16 c16),(.slice p17 l17 c17)]) h15) (
 ∃J18:(Addr×Addr×Addr×Addr×Unit)→Heap→Prop,(∀s h,J18 s h→field_Reach_j5 Q s.1 s.2.1 s.2.2.1 s.2.2.2.1 h)∧
 ldSlice h12 ⟨b10,0,none⟩ fun p72 l72 c72=>
 ldSlice h12 ⟨b10,0,none⟩ fun p73 l73 c73=>
 (
 mkI 3 1 8 (.int .i64 0) (l72:Int) (l72:Int) h12 fun b74 h75=>
 cellH h75 ⟨b10,0,none⟩=some (.slice p73 l73 c73)∧
 cellH h75 ⟨b10,0,none⟩=some (.slice p72 l72 c72)∧
 (
 mkI 3 1 8 (.int .i64 0) (l73:Int) (l73:Int) h75 fun b76 h77=>
 cellH h77 ⟨b10,0,none⟩=some (.slice p73 l73 c73)∧
 cellH h77 ⟨b10,0,none⟩=some (.slice p72 l72 c72)∧
 stI h77 ⟨b3,0,none⟩ (.slice (some ⟨b74,0,none⟩) ((l72:Int).toNat) ((l72:Int).toNat)) fun h78=>
 cellH h78 ⟨b10,0,none⟩=some (.slice p73 l73 c73)∧
 stI h78 ⟨b5,0,none⟩ (.slice (some ⟨b76,0,none⟩) ((l73:Int).toNat) ((l73:Int).toNat)) fun h79=>
 J18 (⟨b1,0,none⟩,⟨b3,0,none⟩,⟨b5,0,none⟩,⟨b10,0,none⟩,()) h79)∧(
 stI h75 ⟨b3,0,none⟩ (.slice (some ⟨b74,0,none⟩) ((l72:Int).toNat) ((l72:Int).toNat)) fun h80=>
 cellH h80 ⟨b10,0,none⟩=some (.slice p73 l73 c73)∧
 mkI 3 1 8 (.int .i64 0) (l73:Int) (l73:Int) h80 fun b81 h82=>
 cellH h82 ⟨b10,0,none⟩=some (.slice p73 l73 c73)∧
 cellH h82 ⟨b10,0,none⟩=some (.slice p72 l72 c72)∧
 stI h82 ⟨b5,0,none⟩ (.slice (some ⟨b81,0,none⟩) ((l73:Int).toNat) ((l73:Int).toNat)) fun h83=>
 J18 (⟨b1,0,none⟩,⟨b3,0,none⟩,⟨b5,0,none⟩,⟨b10,0,none⟩,()) h83))∧(
 mkI 3 1 8 (.int .i64 0) (l73:Int) (l73:Int) h12 fun b84 h85=>
 cellH h85 ⟨b10,0,none⟩=some (.slice p73 l73 c73)∧
 cellH h85 ⟨b10,0,none⟩=some (.slice p72 l72 c72)∧
 mkI 3 1 8 (.int .i64 0) (l72:Int) (l72:Int) h85 fun b86 h87=>
 cellH h87 ⟨b10,0,none⟩=some (.slice p73 l73 c73)∧
 cellH h87 ⟨b10,0,none⟩=some (.slice p72 l72 c72)∧
 stI h87 ⟨b3,0,none⟩ (.slice (some ⟨b86,0,none⟩) ((l72:Int).toNat) ((l72:Int).toNat)) fun h88=>
 cellH h88 ⟨b10,0,none⟩=some (.slice p73 l73 c73)∧
 stI h88 ⟨b5,0,none⟩ (.slice (some ⟨b84,0,none⟩) ((l73:Int).toNat) ((l73:Int).toNat)) fun h89=>
 J18 (⟨b1,0,none⟩,⟨b3,0,none⟩,⟨b5,0,none⟩,⟨b10,0,none⟩,()) h89))
noncomputable def tab_field_Reach:Tab:={sch:=lookT .done [(4,(.early 0 (ones [1] (.early 3 (ones [4] (.alt 2 (.alt 5 (.alt 6 (.alt 7 .done .stop) .stop) (.alt 6 (.alt 5 (.alt 7 .done .stop) .stop) .stop)) (.alt 5 (.alt 2 (.alt 6 (.alt 7 .done .stop) .stop) .stop) .stop))))))),(9,(ones [1,0,2,3,4,5,6,7] .done)),(11,(ones [1,3,7,8,9] (.early 0 (.early 2 (.alt 4 (.alt 5 (.alt 6 (ones [10,11] (.alt 12 .done .stop)) .stop) .stop) .stop))))),(12,(ones [1,3,7,11] (.early 0 (.early 2 (.early 4 (.early 8 (.alt 5 (.alt 6 (.alt 9 (ones [10,12,13,14,15] (.alt 16 .done .stop)) .stop) .stop) .stop))))))),(13,(ones [0] (.early 1 (.alt 2 (.alt 3 .done .stop) .stop))))],lp:=lookT [] [],jn:=lookT none [(5,some [(1,.sc (.adr)),(2,.sc (.adr)),(3,.sc (.adr)),(4,.sc (.adr))])],rf:=lookT [] [(8,[I6,.ag A1])]}
theorem call_field_Reach (g_0:TS A2) {h:Heap} {Q:VH} (H:field_Reach g_0 h Q):callP P n_field_Reach #[(agS A2 g_0)] h Q:=
 @callP_of P n_field_Reach Tryz.f81 tab_field_Reach [(agS A2 g_0)] h Q mixed Tryz.func81 Tryz.call81 (by kernel_rfl) (Eq.mpr (by kernel_rfl) H)
def field_room (y0:TS A1) (y1 y2:Int) (h:Heap) (Q:VH):Prop:=
 newI h (.cells (mkS' A1 y0).toArray 62 (0,0)) fun b1 h2=>
 ldInt .i64 h2 ⟨b1,0,none⟩ fun n3=>
 ifB (n3==7) (
 ifB (y1==0) (
 Q (.int .i64 1) h2) (
 neI y1 fun _=>
 Q (.int .i64 (IntKind.wrap .i64 ((IntKind.wrap .i64 (Int.tdiv (IntKind.wrap .i64 ((IntKind.wrap .i64 (y2+y1))-1)) y1))+1))) h2)) (
 ifB (n3==8) (
 ifB (y1==0) (
 Q (.int .i64 1) h2) (
 neI y1 fun _=>
 Q (.int .i64 (IntKind.wrap .i64 ((IntKind.wrap .i64 (Int.tdiv (IntKind.wrap .i64 ((IntKind.wrap .i64 (y2+y1))-1)) y1))+1))) h2)) (
 ldAg A1 h2 ⟨b1,0,none⟩ fun x4=>
 callInt P .i64 n_kind_Span #[(agS A1 x4)] h2 fun n6 h5=>
 Q (.int .i64 n6) h5))
noncomputable def tab_field_room:Tab:=tb (lookT .done []) (lookT [] []) (lookT none [])
theorem call_field_room (y0:TS A1) (y1 y2:Int) {h:Heap} {Q:VH} (H:field_room y0 y1 y2 h Q):callP P n_field_room #[(agS A1 y0),(.int .i64 y1),(.int .i64 y2)] h Q:=
 @callP_of P n_field_room Tryz.f85 tab_field_room [(agS A1 y0),(.int .i64 y1),(.int .i64 y2)] h Q mixed Tryz.func85 Tryz.call85 (by kernel_rfl) (Eq.mpr (by kernel_rfl) H)
def field_Rooms_l14 (Q:VH) (K1:(Addr×Addr×Addr×Addr×Int×Int×Unit)→Heap→Prop) (R32:Heap→Prop) (K2:YH Y29) (rates_3 high_5 out_6:Addr) (i_8:Int) (n_9:Addr) (top_10:Int) (t42_p:OA) (t42_n t42_c:Nat) (t43 t44:Int) (h44:Heap):Prop:=
 ifB (decide (t44<t43)) (
 idxI t42_p t44 t42_n fun a45=>
 ldInt .i64 h44 (a45.add (t44.toNat*1)) fun n46=>
 ldAg A1 h44 n_9 fun x47=>
 ldSlice h44 out_6 fun p48 l48 c48=>
 ldSlice h44 out_6 fun p49 l49 c49=>
 idxI p49 n46 l49 fun a50=>
 ldInt .i64 h44 (a50.add (n46.toNat*1)) fun n51=>
 ldSlice h44 rates_3 fun p52 l52 c52=>
 idxI p52 i_8 l52 fun a53=>
 ldInt .i64 h44 (a53.add (i_8.toNat*1)) fun n54=>
 ldSlice h44 high_5 fun p55 l55 c55=>
 idxI p55 n46 l55 fun a56=>
 ldInt .i64 h44 (a56.add (n46.toNat*1)) fun n57=>
 callInt P .i64 n_field_room #[(agS A1 x47),(.int .i64 n54),(.int .i64 (IntKind.wrap .i64 (top_10-n57)))] h44 fun n59 h58=>
 cellH h58 rates_3=some (.slice p52 l52 c52)∧
 cellH h58 (a50.add (n46.toNat*1))=some (.int .i64 n51)∧
 cellH h58 out_6=some (.slice p49 l49 c49)∧
 cellH h58 out_6=some (.slice p48 l48 c48)∧
 idxI p48 n46 l48 fun a60=>
 stI h58 (a60.add (n46.toNat*1)) (.int .i64 (if n59>n51 then n59 else n51)) fun h61=>
 K2 (rates_3,high_5,out_6,i_8,n_9,top_10,(t42_p,t42_n,t42_c),t43,(IntKind.wrap .i64 (t44+1)),()) h61) (
 R32 h44)
def field_Rooms_l5 (Q:VH) (K1:(Addr×Addr×Addr×Addr×Int×Int×Unit)→Heap→Prop) (g_1 rates_3 high_5 out_6:Addr) (t24 t25:Int) (h24:Heap):Prop:=
 ifB (decide (t25<t24)) (
 ldSlice h24 out_6 fun p25 l25 c25=>
 idxI p25 t25 l25 fun a26=>
 stI h24 (a26.add (t25.toNat*1)) (.int .i64 1) fun h27=>
 K1 (g_1,rates_3,high_5,out_6,t24,(IntKind.wrap .i64 (t25+1)),()) h27) (
 ldAg A2 h24 g_1 fun x28=>
 callP P n_field_all #[(agS A2 x28)] h24 fun v30 h29=>
 ∃v31:Value,v30=v31∧
 rangeP P v31 [.sc (.int .i64),.ag A1] (fun rdy32 busy32 l32 y32 R32 h33=>
 newI h33 (.cells (mkS' A1 (zT A1)).toArray 62 (0,0)) fun b34 h35=>
 storeL (mkS' A1 y32.2.1) h35 ⟨b34,0,none⟩ 0 fun h36=>
 h36[l32]? =some rdy32∧
 ldSlice (Array.setIfInBounds h36 l32 busy32) high_5 fun p37 l37 c37=>
 ldSlice (Array.setIfInBounds h36 l32 busy32) ⟨b34,1,none⟩ fun p38 l38 c38=>
 callSlice P n_field_pick #[(.slice p37 l37 c37),(.slice p38 l38 c38)] (Array.setIfInBounds h36 l32 busy32) fun p40 l40 c40 h39=>
 callInt P .i64 n_slices_Max_int_int #[(.slice p40 l40 c40)] h39 fun n42 h41=>
 ldSlice h41 ⟨b34,1,none⟩ fun p43 l43 c43=>
 LoopS (S:=Y29) (fun K2 s h=>field_Rooms_l14 Q K1 R32 K2 s.1 s.2.1 s.2.2.1 s.2.2.2.1 s.2.2.2.2.1 s.2.2.2.2.2.1 s.2.2.2.2.2.2.1.1 s.2.2.2.2.2.2.1.2.1 s.2.2.2.2.2.2.1.2.2 s.2.2.2.2.2.2.2.1 s.2.2.2.2.2.2.2.2.1 h) (rates_3,high_5,out_6,y32.1,⟨b34,0,none⟩,n42,(p43,l43,c43),(l43:Int),(0:Int),()) h41) h29 fun D62 h63=>
 ldSlice h63 out_6 fun p64 l64 c64=>
 h63[D62]? =some (Obj.deferred (some []))∧
 Q (.slice p64 l64 c64) (Array.setIfInBounds h63 D62 (Obj.deferred none)))
def field_Rooms (g_0:TS A2) (h:Heap) (Q:VH):Prop:=
 newI h (.cells (mkS' A2 g_0).toArray 32 (0,0)) fun b1 h2=>
 ldAg A2 h2 ⟨b1,0,none⟩ fun x3=>
 callSlice P n_graph_Rates #[(agS A2 x3)] h2 fun p5 l5 c5 h4=>
 newI h4 (.cells #[(.slice none 0 0)] 22 (0,0)) fun b6 h7=>
 stI h7 ⟨b6,0,none⟩ (.slice p5 l5 c5) fun h8=>
 ldAg A2 h8 ⟨b1,0,none⟩ fun x9=>
 callP P n_field_Reach #[(agS A2 x9)] h8 fun v11 h10=>
 ∃p12:Option Addr,∃l12:Nat,∃c12:Nat,∃p13:Option Addr,∃l13:Nat,∃c13:Nat,v11=(.tuple #[(.slice p12 l12 c12),(.slice p13 l13 c13)])∧
 newI h10 (.cells #[(.slice none 0 0)] 22 (0,0)) fun b14 h15=>
 stI h15 ⟨b14,0,none⟩ (.slice p13 l13 c13) fun h16=>
 ldSlice h16 ⟨b6,0,none⟩ fun p17 l17 c17=>
 mkI 3 1 8 (.int .i64 0) (l17:Int) (l17:Int) h16 fun b18 h19=>
 newI h19 (.cells #[(.slice none 0 0)] 22 (0,0)) fun b20 h21=>
 stI h21 ⟨b20,0,none⟩ (.slice (some ⟨b18,0,none⟩) ((l17:Int).toNat) ((l17:Int).toNat)) fun h22=>
 ldSlice h22 ⟨b20,0,none⟩ fun p23 l23 c23=>
 LoopS (S:=(Addr×Addr×Addr×Addr×Int×Int×Unit)) (fun K1 s h=>field_Rooms_l5 Q K1 s.1 s.2.1 s.2.2.1 s.2.2.2.1 s.2.2.2.2.1 s.2.2.2.2.2.1 h) (⟨b1,0,none⟩,⟨b6,0,none⟩,⟨b14,0,none⟩,⟨b20,0,none⟩,(l23:Int),(0:Int),()) h22
noncomputable def tab_field_Rooms:Tab:={sch:=lookT .done [(16,(ones [1,3,8,11,13,6] (.early 0 (.early 2 (ones [4] (.early 5 (.early 7 (ones [9,10] (.alt 12 (ones [14] (.alt 15 (ones [16] (.alt 17 (ones [18,19] (.alt 20 .done .stop)) .stop)) .stop)) .stop)))))))))],lp:=lookT [] [(5,[(1,.sc (.adr)),(3,.sc (.adr)),(5,.sc (.adr)),(6,.sc (.adr)),(24,I6),(25,I6)]),(14,[(3,.sc (.adr)),(5,.sc (.adr)),(6,.sc (.adr)),(8,I6),(9,.sc (.adr)),(10,I6),(42,SL),(43,I6),(44,I6)])],jn:=lookT none [],rf:=lookT [] [(12,[I6,.ag A1])]}
theorem call_field_Rooms (g_0:TS A2) {h:Heap} {Q:VH} (H:field_Rooms g_0 h Q):callP P n_field_Rooms #[(agS A2 g_0)] h Q:=
 @callP_of P n_field_Rooms Tryz.f34 tab_field_Rooms [(agS A2 g_0)] h Q mixed Tryz.func34 Tryz.call34 (by kernel_rfl) (Eq.mpr (by kernel_rfl) H)
def arena_Layout_l10 (Q:VH) (K1:YH Y30) (K2:YH Y31) (y7p:OA) (y7n y7c:Nat) (y8:Int) (t20_p:OA) (t20_n t20_c:Nat) (t21 t22:Int) (h4:Heap):Prop:=
 ifB (decide (t22<t21)) (
 idxI t20_p t22 t20_n fun a5=>
 ldInt .i64 h4 (a5.add (t22.toNat*1)) fun n6=>
 ifB (decide (n6>(IntKind.wrap .i64 ((4096:Int)-y8)))) (
 Q (.tuple #[(.slice none 0 0),(.int .i64 0),(.int .i64 17)]) h4) (
 newI h4 (.cells #[(.int .i64 y8)] 3 (0,0)) fun b7 h8=>
 appI 3 1 8 (.int .i64 0) y7p y7n y7c (some ⟨b7,0,none⟩) 1 h8 fun p9 l9 c9 h10=>
 K2 ((p9,l9,c9),(IntKind.wrap .i64 ((IntKind.wrap .i64 (Int.tdiv (IntKind.wrap .i64 ((IntKind.wrap .i64 ((IntKind.wrap .i64 (y8+n6))+4))-1)) 4))*4)),(t20_p,t20_n,t20_c),t21,(IntKind.wrap .i64 (t22+1)),()) h10)) (
 Q (.tuple #[(.slice y7p y7n y7c),(.int .i64 y8),(.int .i64 0)]) h4)
def arena_Layout_l2 (Q:VH) (K1:YH Y30) (y0p:OA) (y0n y0c:Nat) (t11_p:OA) (t11_n t11_c:Nat) (t12 t13:Int) (h1:Heap):Prop:=
 ifB (decide (t13<t12)) (
 idxI t11_p t13 t11_n fun a2=>
 ldInt .i64 h1 (a2.add (t13.toNat*1)) fun n3=>
 ifB (decide (n3<0)) (
 Q (.tuple #[(.slice none 0 0),(.int .i64 0),(.int .i64 1)]) h1) (
 K1 ((y0p,y0n,y0c),(t11_p,t11_n,t11_c),t12,(IntKind.wrap .i64 (t13+1)),()) h1)) (
 LoopS (S:=Y31) (fun K2 s h=>arena_Layout_l10 Q K1 K2 s.1.1 s.1.2.1 s.1.2.2 s.2.1 s.2.2.1.1 s.2.2.1.2.1 s.2.2.1.2.2 s.2.2.2.1 s.2.2.2.2.1 h) ((none,0,0),(0:Int),(y0p,y0n,y0c),(y0n:Int),(0:Int),()) h1)
def arena_Layout (y0p:OA) (y0n y0c:Nat) (h:Heap) (Q:VH):Prop:=
 LoopS (S:=Y30) (fun K1 s h=>arena_Layout_l2 Q K1 s.1.1 s.1.2.1 s.1.2.2 s.2.1.1 s.2.1.2.1 s.2.1.2.2 s.2.2.1 s.2.2.2.1 h) ((y0p,y0n,y0c),(y0p,y0n,y0c),(y0n:Int),(0:Int),()) h
noncomputable def tab_arena_Layout:Tab:=tb (lookT .done []) (lookT [] [(2,[(0,SL),(11,SL),(12,I6),(13,I6)]),(10,[(7,SL),(8,I6),(20,SL),(21,I6),(22,I6)])]) (lookT none [])
theorem call_arena_Layout (y0p:OA) (y0n y0c:Nat) {h:Heap} {Q:VH} (H:arena_Layout y0p y0n y0c h Q):callP P n_arena_Layout #[(.slice y0p y0n y0c)] h Q:=
 @callP_of P n_arena_Layout Tryz.f36 tab_arena_Layout [(.slice y0p y0n y0c)] h Q mixed Tryz.func36 Tryz.call36 (by kernel_rfl) (Eq.mpr (by kernel_rfl) H)
def kernel_Cost (y0:TS A1) (y1:Int) (h:Heap) (Q:VH):Prop:=
 newI h (.cells (mkS' A1 y0).toArray 62 (0,0)) fun b1 h2=>
 ldInt .i64 h2 ⟨b1,0,none⟩ fun n3=>
 ifB (n3==1) (
 ldAg A1 h2 ⟨b1,0,none⟩ fun x4=>
 newI h2 (.cells #[(.int .i64 y1)] 3 (0,0)) fun b5 h6=>
 callInt P .i64 n_kind_Check #[(agS A1 x4),(.slice (some ⟨b5,0,none⟩) 1 1)] h6 fun n8 h7=>
 ifB (n8==0) (
 ldSlice h7 ⟨b1,8,none⟩ fun p9 l9 c9=>
 Q (.int .i64 (l9:Int)) h7) (
 Q (.int .i64 0) h7)) (
 ifB (n3==2) (
 ldAg A1 h2 ⟨b1,0,none⟩ fun x10=>
 newI h2 (.cells #[(.int .i64 y1)] 3 (0,0)) fun b11 h12=>
 callInt P .i64 n_kind_Check #[(agS A1 x10),(.slice (some ⟨b11,0,none⟩) 1 1)] h12 fun n14 h13=>
 ifB (n14==0) (
 ldSlice h13 ⟨b1,8,none⟩ fun p15 l15 c15=>
 Q (.int .i64 (l15:Int)) h13) (
 Q (.int .i64 0) h13)) (
 ifB (n3==6) (
 ldAg A1 h2 ⟨b1,0,none⟩ fun x16=>
 newI h2 (.cells #[(.int .i64 y1)] 3 (0,0)) fun b17 h18=>
 callInt P .i64 n_kind_Check #[(agS A1 x16),(.slice (some ⟨b17,0,none⟩) 1 1)] h18 fun n20 h19=>
 ifB (n20==0) (
 ldSlice h19 ⟨b1,8,none⟩ fun p21 l21 c21=>
 Q (.int .i64 (l21:Int)) h19) (
 Q (.int .i64 0) h19)) (
 Q (.int .i64 0) h2)))
noncomputable def tab_kernel_Cost:Tab:=tb (lookT .done []) (lookT [] []) (lookT none [])
theorem call_kernel_Cost (y0:TS A1) (y1:Int) {h:Heap} {Q:VH} (H:kernel_Cost y0 y1 h Q):callP P n_kernel_Cost #[(agS A1 y0),(.int .i64 y1)] h Q:=
 @callP_of P n_kernel_Cost Tryz.f87 tab_kernel_Cost [(agS A1 y0),(.int .i64 y1)] h Q mixed Tryz.func87 Tryz.call87 (by kernel_rfl) (Eq.mpr (by kernel_rfl) H)
def field_Macs (g_0:TS A2) (h:Heap) (Q:VH):Prop:=
 newI h (.cells (mkS' A2 g_0).toArray 32 (0,0)) fun b1 h2=>
 ldAg A2 h2 ⟨b1,0,none⟩ fun x3=>
 callSlice P n_graph_Widths #[(agS A2 x3)] h2 fun p5 l5 c5 h4=>
 newI h4 (.cells #[(.slice none 0 0)] 22 (0,0)) fun b6 h7=>
 stI h7 ⟨b6,0,none⟩ (.slice p5 l5 c5) fun h8=>
 newI h8 (.cells #[(.int .i64 0)] 3 (0,0)) fun b9 h10=>
 stI h10 ⟨b9,0,none⟩ (.int .i64 0) fun h11=>
 ldAg A2 h11 ⟨b1,0,none⟩ fun x12=>
 callP P n_field_all #[(agS A2 x12)] h11 fun v14 h13=>
 ∃v15:Value,v14=v15∧
 rangeP P v15 [.sc (.int .i64),.ag A1] (fun rdy16 busy16 l16 y16 R16 h17=>
 newI h17 (.cells (mkS' A1 (zT A1)).toArray 62 (0,0)) fun b18 h19=>
 storeL (mkS' A1 y16.2.1) h19 ⟨b18,0,none⟩ 0 fun h20=>
 h20[l16]? =some rdy16∧
 ldAg A1 (Array.setIfInBounds h20 l16 busy16) ⟨b18,0,none⟩ fun x21=>
 ldInt .i64 (Array.setIfInBounds h20 l16 busy16) ⟨b9,0,none⟩ fun n22=>
 ldSlice (Array.setIfInBounds h20 l16 busy16) ⟨b6,0,none⟩ fun p23 l23 c23=>
 ldSlice (Array.setIfInBounds h20 l16 busy16) ⟨b18,1,none⟩ fun p24 l24 c24=>
 idxI p24 0 l24 fun a25=>
 ldInt .i64 (Array.setIfInBounds h20 l16 busy16) (a25.add ((0:Int).toNat*1)) fun n26=>
 idxI p23 n26 l23 fun a27=>
 ldInt .i64 (Array.setIfInBounds h20 l16 busy16) (a27.add (n26.toNat*1)) fun n28=>
 callInt P .i64 n_kernel_Cost #[(agS A1 x21),(.int .i64 n28)] (Array.setIfInBounds h20 l16 busy16) fun n30 h29=>
 cellH h29 ⟨b6,0,none⟩=some (.slice p23 l23 c23)∧
 cellH h29 ⟨b9,0,none⟩=some (.int .i64 n22)∧
 stI h29 ⟨b9,0,none⟩ (.int .i64 (IntKind.wrap .i64 (n22+n30))) fun h31=>
 R16 h31) h13 fun D32 h33=>
 ldInt .i64 h33 ⟨b9,0,none⟩ fun n34=>
 h33[D32]? =some (Obj.deferred (some []))∧
 Q (.int .i64 n34) (Array.setIfInBounds h33 D32 (Obj.deferred none))
noncomputable def tab_field_Macs:Tab:={sch:=lookT .done [(5,(ones [3,1] (.early 0 (.early 2 (.alt 4 (ones [5] (.alt 6 (ones [7,8] (.alt 9 (ones [10] (.alt 11 .done .stop)) .stop)) .stop)) .stop)))))],lp:=lookT [] [],jn:=lookT none [],rf:=lookT [] [(5,[I6,.ag A1])]}
theorem call_field_Macs (g_0:TS A2) {h:Heap} {Q:VH} (H:field_Macs g_0 h Q):callP P n_field_Macs #[(agS A2 g_0)] h Q:=
 @callP_of P n_field_Macs Tryz.f38 tab_field_Macs [(agS A2 g_0)] h Q mixed Tryz.func38 Tryz.call38 (by kernel_rfl) (Eq.mpr (by kernel_rfl) H)
def model_writer_fits_l1 (Q:VH) (K1:YH Y32) (y0:Option Addr) (y1 y2:Int) (t10_p:OA) (t10_n t10_c:Nat) (t11 t12:Int) (h1:Heap):Prop:=
 ifB (decide (t12<t11)) (
 idxI t10_p t12 t10_n fun a2=>
 ldInt .i64 h1 (a2.add (t12.toNat*1)) fun n3=>
 nilI y0 fun a4=>
 ldBool h1 (a4.add 2) fun b5=>
 ifB b5 (
 nilI y0 fun a6=>
 stI h1 (a6.add 2) (.bool true) fun h7=>
 K1 (y0,y1,y2,(t10_p,t10_n,t10_c),t11,(IntKind.wrap .i64 (t12+1)),()) h7) (
 ifB (decide (n3<y1)) (
 nilI y0 fun a8=>
 stI h1 (a8.add 2) (.bool true) fun h9=>
 K1 (y0,y1,y2,(t10_p,t10_n,t10_c),t11,(IntKind.wrap .i64 (t12+1)),()) h9) (
 nilI y0 fun a10=>
 stI h1 (a10.add 2) (.bool (decide (n3>y2))) fun h11=>
 K1 (y0,y1,y2,(t10_p,t10_n,t10_c),t11,(IntKind.wrap .i64 (t12+1)),()) h11))) (
 Q (.tuple #[]) h1)
def model_writer_fits (y0:Option Addr) (y1 y2:Int) (y3p:OA) (y3n y3c:Nat) (h:Heap) (Q:VH):Prop:=
 LoopS (S:=Y32) (fun K1 s h=>model_writer_fits_l1 Q K1 s.1 s.2.1 s.2.2.1 s.2.2.2.1.1 s.2.2.2.1.2.1 s.2.2.2.1.2.2 s.2.2.2.2.1 s.2.2.2.2.2.1 h) (y0,y1,y2,(y3p,y3n,y3c),(y3n:Int),(0:Int),()) h
noncomputable def tab_model_writer_fits:Tab:=tb (lookT .done []) (lookT [] [(1,[(0,.sc (.ptr)),(1,I6),(2,I6),(10,SL),(11,I6),(12,I6)])]) (lookT none [])
theorem call_model_writer_fits (y0:Option Addr) (y1 y2:Int) (y3p:OA) (y3n y3c:Nat) {h:Heap} {Q:VH} (H:model_writer_fits y0 y1 y2 y3p y3n y3c h Q):callP P n_model_writer_fits #[(.pointer y0),(.int .i64 y1),(.int .i64 y2),(.slice y3p y3n y3c)] h Q:=
 @callP_of P n_model_writer_fits Tryz.f197 tab_model_writer_fits [(.pointer y0),(.int .i64 y1),(.int .i64 y2),(.slice y3p y3n y3c)] h Q mixed Tryz.func197 Tryz.call197 (by kernel_rfl) (Eq.mpr (by kernel_rfl) H)
def tape_Writer_put_l2 (Q:VH) (K1:(Option Addr×Int×Int×Int×Int×Unit)→Heap→Prop) (y0:Option Addr) (y1 y2 t8 t9:Int) (h1:Heap):Prop:=
 ifB (decide (t9<t8)) (
 nilI y0 fun a2=>
 ldSlice h1 (a2.add 1) fun p3 l3 c3=>
 newI h1 (.cells #[(.int .u8 (IntKind.wrap .u8 y1))] 5 (0,0)) fun b4 h5=>
 appI 5 1 1 (.int .u8 0) p3 l3 c3 (some ⟨b4,0,none⟩) 1 h5 fun p6 l6 c6 h7=>
 nilI y0 fun a8=>
 stI h7 (a8.add 1) (.slice p6 l6 c6) fun h9=>
 K1 (y0,(shrI y1 8),y2,t8,(IntKind.wrap .i64 (t9+1)),()) h9) (
 nilI y0 fun a10=>
 callUnit P n_tape_place_moved #[(.pointer (some a10)),(.int .i64 y2)] h1 fun h11=>
 Q (.tuple #[]) h11)
def tape_Writer_put (y0:Option Addr) (y1 y2:Int) (h:Heap) (Q:VH):Prop:=
 ifB ((y0).isNone) (
 Q (.tuple #[]) h) (
 LoopS (S:=(Option Addr×Int×Int×Int×Int×Unit)) (fun K1 s h=>tape_Writer_put_l2 Q K1 s.1 s.2.1 s.2.2.1 s.2.2.2.1 s.2.2.2.2.1 h) (y0,y1,y2,y2,(0:Int),()) h)
noncomputable def tab_tape_Writer_put:Tab:=tb (lookT .done []) (lookT [] [(2,[(0,.sc (.ptr)),(1,.sc (.int .u64)),(2,I6),(8,I6),(9,I6)])]) (lookT none [])
theorem call_tape_Writer_put (y0:Option Addr) (y1 y2:Int) {h:Heap} {Q:VH} (H:tape_Writer_put y0 y1 y2 h Q):callP P n_tape_Writer_put #[(.pointer y0),(.int .u64 y1),(.int .i64 y2)] h Q:=
 @callP_of P n_tape_Writer_put Tryz.f228 tab_tape_Writer_put [(.pointer y0),(.int .u64 y1),(.int .i64 y2)] h Q mixed Tryz.func228 Tryz.call228 (by kernel_rfl) (Eq.mpr (by kernel_rfl) H)
def tape_Writer_Byte (y0:Option Addr) (y1:Int) (h:Heap) (Q:VH):Prop:=
 callUnit P n_tape_Writer_put #[(.pointer y0),(.int .u64 (IntKind.wrap .u64 y1)),(.int .i64 1)] h fun h1=>
 Q (.tuple #[]) h1
noncomputable def tab_tape_Writer_Byte:Tab:=tb (lookT .done []) (lookT [] []) (lookT none [])
theorem call_tape_Writer_Byte (y0:Option Addr) (y1:Int) {h:Heap} {Q:VH} (H:tape_Writer_Byte y0 y1 h Q):callP P n_tape_Writer_Byte #[(.pointer y0),(.int .i64 y1)] h Q:=
 @callP_of P n_tape_Writer_Byte Tryz.f198 tab_tape_Writer_Byte [(.pointer y0),(.int .i64 y1)] h Q mixed Tryz.func198 Tryz.call198 (by kernel_rfl) (Eq.mpr (by kernel_rfl) H)
def model_writer_small_l2 (Q:VH) (K1:YH Y1) (y0:Option Addr) (t9_p:OA) (t9_n t9_c:Nat) (t10 t11:Int) (h2:Heap):Prop:=
 ifB (decide (t11<t10)) (
 idxI t9_p t11 t9_n fun a3=>
 ldInt .i64 h2 (a3.add (t11.toNat*1)) fun n4=>
 nilI y0 fun a5=>
 callUnit P n_tape_Writer_Byte #[(.pointer (some a5)),(.int .i64 n4)] h2 fun h6=>
 K1 (y0,(t9_p,t9_n,t9_c),t10,(IntKind.wrap .i64 (t11+1)),()) h6) (
 Q (.tuple #[]) h2)
def model_writer_small (y0:Option Addr) (y1p:OA) (y1n y1c:Nat) (h:Heap) (Q:VH):Prop:=
 callUnit P n_model_writer_fits #[(.pointer y0),(.int .i64 0),(.int .i64 255),(.slice y1p y1n y1c)] h fun h1=>
 LoopS (S:=Y1) (fun K1 s h=>model_writer_small_l2 Q K1 s.1 s.2.1.1 s.2.1.2.1 s.2.1.2.2 s.2.2.1 s.2.2.2.1 h) (y0,(y1p,y1n,y1c),(y1n:Int),(0:Int),()) h1
noncomputable def tab_model_writer_small:Tab:=tb (lookT .done []) (lookT [] [(2,[(0,.sc (.ptr)),(9,SL),(10,I6),(11,I6)])]) (lookT none [])
theorem call_model_writer_small (y0:Option Addr) (y1p:OA) (y1n y1c:Nat) {h:Heap} {Q:VH} (H:model_writer_small y0 y1p y1n y1c h Q):callP P n_model_writer_small #[(.pointer y0),(.slice y1p y1n y1c)] h Q:=
 @callP_of P n_model_writer_small Tryz.f142 tab_model_writer_small [(.pointer y0),(.slice y1p y1n y1c)] h Q mixed Tryz.func142 Tryz.call142 (by kernel_rfl) (Eq.mpr (by kernel_rfl) H)
def tape_Writer_Word (y0:Option Addr) (y1:Int) (h:Heap) (Q:VH):Prop:=
 callUnit P n_tape_Writer_put #[(.pointer y0),(.int .u64 (IntKind.wrap .u64 y1)),(.int .i64 4)] h fun h1=>
 Q (.tuple #[]) h1
noncomputable def tab_tape_Writer_Word:Tab:=tb (lookT .done []) (lookT [] []) (lookT none [])
theorem call_tape_Writer_Word (y0:Option Addr) (y1:Int) {h:Heap} {Q:VH} (H:tape_Writer_Word y0 y1 h Q):callP P n_tape_Writer_Word #[(.pointer y0),(.int .i64 y1)] h Q:=
 @callP_of P n_tape_Writer_Word Tryz.f199 tab_tape_Writer_Word [(.pointer y0),(.int .i64 y1)] h Q mixed Tryz.func199 Tryz.call199 (by kernel_rfl) (Eq.mpr (by kernel_rfl) H)
def model_writer_words_l2 (Q:VH) (K1:YH Y1) (y0:Option Addr) (t9_p:OA) (t9_n t9_c:Nat) (t10 t11:Int) (h2:Heap):Prop:=
 ifB (decide (t11<t10)) (
 idxI t9_p t11 t9_n fun a3=>
 ldInt .i64 h2 (a3.add (t11.toNat*1)) fun n4=>
 nilI y0 fun a5=>
 callUnit P n_tape_Writer_Word #[(.pointer (some a5)),(.int .i64 n4)] h2 fun h6=>
 K1 (y0,(t9_p,t9_n,t9_c),t10,(IntKind.wrap .i64 (t11+1)),()) h6) (
 Q (.tuple #[]) h2)
def model_writer_words (y0:Option Addr) (y1p:OA) (y1n y1c:Nat) (h:Heap) (Q:VH):Prop:=
 callUnit P n_model_writer_fits #[(.pointer y0),(.int .i64 (-2147483648:Int)),(.int .i64 2147483647),(.slice y1p y1n y1c)] h fun h1=>
 LoopS (S:=Y1) (fun K1 s h=>model_writer_words_l2 Q K1 s.1 s.2.1.1 s.2.1.2.1 s.2.1.2.2 s.2.2.1 s.2.2.2.1 h) (y0,(y1p,y1n,y1c),(y1n:Int),(0:Int),()) h1
noncomputable def tab_model_writer_words:Tab:=tb (lookT .done []) (lookT [] [(2,[(0,.sc (.ptr)),(9,SL),(10,I6),(11,I6)])]) (lookT none [])
theorem call_model_writer_words (y0:Option Addr) (y1p:OA) (y1n y1c:Nat) {h:Heap} {Q:VH} (H:model_writer_words y0 y1p y1n y1c h Q):callP P n_model_writer_words #[(.pointer y0),(.slice y1p y1n y1c)] h Q:=
 @callP_of P n_model_writer_words Tryz.f143 tab_model_writer_words [(.pointer y0),(.slice y1p y1n y1c)] h Q mixed Tryz.func143 Tryz.call143 (by kernel_rfl) (Eq.mpr (by kernel_rfl) H)
def tape_Writer_Short (y0:Option Addr) (y1:Int) (h:Heap) (Q:VH):Prop:=
 callUnit P n_tape_Writer_put #[(.pointer y0),(.int .u64 (IntKind.wrap .u64 y1)),(.int .i64 2)] h fun h1=>
 Q (.tuple #[]) h1
noncomputable def tab_tape_Writer_Short:Tab:=tb (lookT .done []) (lookT [] []) (lookT none [])
theorem call_tape_Writer_Short (y0:Option Addr) (y1:Int) {h:Heap} {Q:VH} (H:tape_Writer_Short y0 y1 h Q):callP P n_tape_Writer_Short #[(.pointer y0),(.int .i64 y1)] h Q:=
 @callP_of P n_tape_Writer_Short Tryz.f201 tab_tape_Writer_Short [(.pointer y0),(.int .i64 y1)] h Q mixed Tryz.func201 Tryz.call201 (by kernel_rfl) (Eq.mpr (by kernel_rfl) H)
def tape_Writer_Row_l3 (Q:VH) (K1:YH Y1) (y0:Option Addr) (t13_p:OA) (t13_n t13_c:Nat) (t14 t15:Int) (h2:Heap):Prop:=
 ifB (decide (t15<t14)) (
 idxI t13_p t15 t13_n fun a3=>
 ldInt .i64 h2 (a3.add (t15.toNat*1)) fun n4=>
 callUnit P n_tape_Writer_Word #[(.pointer y0),(.int .i64 n4)] h2 fun h5=>
 K1 (y0,(t13_p,t13_n,t13_c),t14,(IntKind.wrap .i64 (t15+1)),()) h5) (
 Q (.tuple #[]) h2)
def tape_Writer_Row (y0:Option Addr) (y1p:OA) (y1n y1c:Nat) (h:Heap) (Q:VH):Prop:=
 ifB (decide ((y1n:Int)>65535)) (
 Q (.tuple #[]) h) (
 callUnit P n_tape_Writer_Short #[(.pointer y0),(.int .i64 (y1n:Int))] h fun h1=>
 LoopS (S:=Y1) (fun K1 s h=>tape_Writer_Row_l3 Q K1 s.1 s.2.1.1 s.2.1.2.1 s.2.1.2.2 s.2.2.1 s.2.2.2.1 h) (y0,(y1p,y1n,y1c),(y1n:Int),(0:Int),()) h1)
noncomputable def tab_tape_Writer_Row:Tab:=tb (lookT .done []) (lookT [] [(3,[(0,.sc (.ptr)),(13,SL),(14,I6),(15,I6)])]) (lookT none [])
theorem call_tape_Writer_Row (y0:Option Addr) (y1p:OA) (y1n y1c:Nat) {h:Heap} {Q:VH} (H:tape_Writer_Row y0 y1p y1n y1c h Q):callP P n_tape_Writer_Row #[(.pointer y0),(.slice y1p y1n y1c)] h Q:=
 @callP_of P n_tape_Writer_Row Tryz.f229 tab_tape_Writer_Row [(.pointer y0),(.slice y1p y1n y1c)] h Q mixed Tryz.func229 Tryz.call229 (by kernel_rfl) (Eq.mpr (by kernel_rfl) H)
def model_writer_rows_l1 (Q:VH) (K1:YH Y1) (y0:Option Addr) (t6_p:OA) (t6_n t6_c:Nat) (t7 t8:Int) (h1:Heap):Prop:=
 ifB (decide (t8<t7)) (
 idxI t6_p t8 t6_n fun a2=>
 ldSlice h1 (a2.add (t8.toNat*1)) fun p3 l3 c3=>
 newI h1 (.cells #[(.int .i64 (l3:Int))] 3 (0,0)) fun b4 h5=>
 callUnit P n_model_writer_fits #[(.pointer y0),(.int .i64 0),(.int .i64 65535),(.slice (some ⟨b4,0,none⟩) 1 1)] h5 fun h6=>
 callUnit P n_model_writer_fits #[(.pointer y0),(.int .i64 (-2147483648:Int)),(.int .i64 2147483647),(.slice p3 l3 c3)] h6 fun h7=>
 nilI y0 fun a8=>
 callUnit P n_tape_Writer_Row #[(.pointer (some a8)),(.slice p3 l3 c3)] h7 fun h9=>
 K1 (y0,(t6_p,t6_n,t6_c),t7,(IntKind.wrap .i64 (t8+1)),()) h9) (
 Q (.tuple #[]) h1)
def model_writer_rows (y0:Option Addr) (y1p:OA) (y1n y1c:Nat) (h:Heap) (Q:VH):Prop:=
 LoopS (S:=Y1) (fun K1 s h=>model_writer_rows_l1 Q K1 s.1 s.2.1.1 s.2.1.2.1 s.2.1.2.2 s.2.2.1 s.2.2.2.1 h) (y0,(y1p,y1n,y1c),(y1n:Int),(0:Int),()) h
noncomputable def tab_model_writer_rows:Tab:=tb (lookT .done []) (lookT [] [(1,[(0,.sc (.ptr)),(6,SL),(7,I6),(8,I6)])]) (lookT none [])
theorem call_model_writer_rows (y0:Option Addr) (y1p:OA) (y1n y1c:Nat) {h:Heap} {Q:VH} (H:model_writer_rows y0 y1p y1n y1c h Q):callP P n_model_writer_rows #[(.pointer y0),(.slice y1p y1n y1c)] h Q:=
 @callP_of P n_model_writer_rows Tryz.f200 tab_model_writer_rows [(.pointer y0),(.slice y1p y1n y1c)] h Q mixed Tryz.func200 Tryz.call200 (by kernel_rfl) (Eq.mpr (by kernel_rfl) H)
def model_writer_node (y0:Option Addr) (y1:TS A1) (h:Heap) (Q:VH):Prop:=
 newI h (.cells (mkS' A1 y1).toArray 62 (0,0)) fun b1 h2=>
 ldInt .i64 h2 ⟨b1,0,none⟩ fun n3=>
 ldSlice h2 ⟨b1,1,none⟩ fun p4 l4 c4=>
 newI h2 (.cells #[(.int .i64 n3),(.int .i64 (l4:Int))] 3 (0,0)) fun b5 h6=>
 callUnit P n_model_writer_small #[(.pointer y0),(.slice (some ⟨b5,0,none⟩) 2 2)] h6 fun h7=>
 ldSlice h7 ⟨b1,1,none⟩ fun p8 l8 c8=>
 callUnit P n_model_writer_small #[(.pointer y0),(.slice p8 l8 c8)] h7 fun h9=>
 ldInt .i64 h9 ⟨b1,2,none⟩ fun n10=>
 ldInt .i64 h9 ⟨b1,3,none⟩ fun n11=>
 ldInt .i64 h9 ⟨b1,4,none⟩ fun n12=>
 ldInt .i64 h9 ⟨b1,5,none⟩ fun n13=>
 ldInt .i64 h9 ⟨b1,6,none⟩ fun n14=>
 ldInt .i64 h9 ⟨b1,7,none⟩ fun n15=>
 newI h9 (.cells #[(.int .i64 n10),(.int .i64 n11),(.int .i64 n12),(.int .i64 n13),(.int .i64 n14),(.int .i64 n15)] 3 (0,0)) fun b16 h17=>
 callUnit P n_model_writer_small #[(.pointer y0),(.slice (some ⟨b16,0,none⟩) 6 6)] h17 fun h18=>
 ldSlice h18 ⟨b1,8,none⟩ fun p19 l19 c19=>
 ldSlice h18 ⟨b1,9,none⟩ fun p20 l20 c20=>
 newI h18 (.cells #[(.slice p19 l19 c19),(.slice p20 l20 c20)] 22 (0,0)) fun b21 h22=>
 callUnit P n_model_writer_rows #[(.pointer y0),(.slice (some ⟨b21,0,none⟩) 2 2)] h22 fun h23=>
 ldInt .i64 h23 ⟨b1,10,none⟩ fun n24=>
 newI h23 (.cells #[(.int .i64 n24)] 3 (0,0)) fun b25 h26=>
 callUnit P n_model_writer_fits #[(.pointer y0),(.int .i64 0),(.int .i64 65535),(.slice (some ⟨b25,0,none⟩) 1 1)] h26 fun h27=>
 nilI y0 fun a28=>
 ldInt .i64 h27 ⟨b1,10,none⟩ fun n29=>
 callUnit P n_tape_Writer_Short #[(.pointer (some a28)),(.int .i64 n29)] h27 fun h30=>
 ldInt .i64 h30 ⟨b1,11,none⟩ fun n31=>
 newI h30 (.cells #[(.int .i64 n31)] 3 (0,0)) fun b32 h33=>
 callUnit P n_model_writer_small #[(.pointer y0),(.slice (some ⟨b32,0,none⟩) 1 1)] h33 fun h34=>
 ldInt .i64 h34 ⟨b1,12,none⟩ fun n35=>
 ldInt .i64 h34 ⟨b1,13,none⟩ fun n36=>
 newI h34 (.cells #[(.int .i64 n35),(.int .i64 n36)] 3 (0,0)) fun b37 h38=>
 callUnit P n_model_writer_words #[(.pointer y0),(.slice (some ⟨b37,0,none⟩) 2 2)] h38 fun h39=>
 ldInt .i64 h39 ⟨b1,14,none⟩ fun n40=>
 newI h39 (.cells #[(.int .i64 n40)] 3 (0,0)) fun b41 h42=>
 callUnit P n_model_writer_small #[(.pointer y0),(.slice (some ⟨b41,0,none⟩) 1 1)] h42 fun h43=>
 Q (.tuple #[]) h43
noncomputable def tab_model_writer_node:Tab:=tb (lookT .done [(6,(ones [0,1,2,3,4] (.alt 5 .done .stop)))]) (lookT [] []) (lookT none [])
theorem call_model_writer_node (y0:Option Addr) (y1:TS A1) {h:Heap} {Q:VH} (H:model_writer_node y0 y1 h Q):callP P n_model_writer_node #[(.pointer y0),(agS A1 y1)] h Q:=
 @callP_of P n_model_writer_node Tryz.f144 tab_model_writer_node [(.pointer y0),(agS A1 y1)] h Q mixed Tryz.func144 Tryz.call144 (by kernel_rfl) (Eq.mpr (by kernel_rfl) H)
def tape_Writer_Text (y0:Option Addr) (h:Heap) (Q:VH):Prop:=
 ifB ((y0).isNone) (
 Q (.string (ByteArray.mk #[])) h) (
 nilI y0 fun a1=>
 ldSlice h (a1.add 1) fun p2 l2 c2=>
 b2sB p2 l2 h fun s3=>
 ∃s4:ByteArray,Value.string s3=Value.string s4∧
 Q (.string s4) h)
noncomputable def tab_tape_Writer_Text:Tab:=tb (lookT .done []) (lookT [] []) (lookT none [])
theorem call_tape_Writer_Text (y0:Option Addr) {h:Heap} {Q:VH} (H:tape_Writer_Text y0 h Q):callP P n_tape_Writer_Text #[(.pointer y0)] h Q:=
 @callP_of P n_tape_Writer_Text Tryz.f145 tab_tape_Writer_Text [(.pointer y0)] h Q mixed Tryz.func145 Tryz.call145 (by kernel_rfl) (Eq.mpr (by kernel_rfl) H)
def model_Encode_l6 (Q:VH) (K1:YH Y22) (y1 y4:Addr) (t23_p:OA) (t23_n t23_c:Nat) (t24 t25:Int) (h19:Heap):Prop:=
 ifB (decide (t25<t24)) (
 idxI t23_p t25 t23_n fun a20=>
 ldAg A1 h19 (a20.add (t25.toNat*15)) fun x21=>
 newI h19 (.cells (mkS' A1 (zT A1)).toArray 62 (0,0)) fun b22 h23=>
 storeL (mkS' A1 x21) h23 ⟨b22,0,none⟩ 0 fun h24=>
 ldAg A1 h24 ⟨b22,0,none⟩ fun x25=>
 callUnit P n_model_writer_node #[(.pointer (some y4)),(agS A1 x25)] h24 fun h26=>
 K1 (y1,y4,(t23_p,t23_n,t23_c),t24,(IntKind.wrap .i64 (t25+1)),()) h26) (
 ldInt .i64 h19 (y1.add 4) fun n27=>
 newI h19 (.cells #[(.int .i64 n27)] 3 (0,0)) fun b28 h29=>
 callUnit P n_model_writer_small #[(.pointer (some y4)),(.slice (some ⟨b28,0,none⟩) 1 1)] h29 fun h30=>
 ldBool h30 (y4.add 2) fun b31=>
 ifB b31 (
 Q (.tuple #[(.string (ByteArray.mk #[])),(.int .i64 22)]) h30) (
 callStr P n_tape_Writer_Text #[(.pointer (some y4))] h30 fun s33 h32=>
 addStrI (ByteArray.mk #[69,65,82,49]) s33 fun _=>
 Q (.tuple #[(.string ((ByteArray.mk #[69,65,82,49])++s33)),(.int .i64 0)]) h32))
def model_Encode (y0:TS A2) (h:Heap) (Q:VH):Prop:=
 newI h (.cells (mkS' A2 y0).toArray 32 (0,0)) fun b1 h2=>
 newI h2 (.cells #[(.int .i64 0),(.slice none 0 0),(.bool false)] 193 (0,0)) fun b3 h4=>
 ldInt .i64 h4 ⟨b1,0,none⟩ fun n5=>
 newI h4 (.cells #[(.int .i64 n5)] 3 (0,0)) fun b6 h7=>
 callUnit P n_model_writer_small #[(.pointer (some ⟨b3,0,none⟩)),(.slice (some ⟨b6,0,none⟩) 1 1)] h7 fun h8=>
 ldInt .i64 h8 ⟨b1,1,none⟩ fun n9=>
 ldInt .i64 h8 ⟨b1,2,none⟩ fun n10=>
 newI h8 (.cells #[(.int .i64 n9),(.int .i64 n10)] 3 (0,0)) fun b11 h12=>
 callUnit P n_model_writer_words #[(.pointer (some ⟨b3,0,none⟩)),(.slice (some ⟨b11,0,none⟩) 2 2)] h12 fun h13=>
 ldSlice h13 ⟨b1,3,none⟩ fun p14 l14 c14=>
 newI h13 (.cells #[(.int .i64 (l14:Int))] 3 (0,0)) fun b15 h16=>
 callUnit P n_model_writer_small #[(.pointer (some ⟨b3,0,none⟩)),(.slice (some ⟨b15,0,none⟩) 1 1)] h16 fun h17=>
 ldSlice h17 ⟨b1,3,none⟩ fun p18 l18 c18=>
 LoopS (S:=Y22) (fun K1 s h=>model_Encode_l6 Q K1 s.1 s.2.1 s.2.2.1.1 s.2.2.1.2.1 s.2.2.1.2.2 s.2.2.2.1 s.2.2.2.2.1 h) (⟨b1,0,none⟩,⟨b3,0,none⟩,(p18,l18,c18),(l18:Int),(0:Int),()) h17
noncomputable def tab_model_Encode:Tab:=tb (lookT .done []) (lookT [] [(6,[(1,.sc (.adr)),(4,.sc (.adr)),(23,SL),(24,I6),(25,I6)])]) (lookT none [])
theorem call_model_Encode (y0:TS A2) {h:Heap} {Q:VH} (H:model_Encode y0 h Q):callP P n_model_Encode #[(agS A2 y0)] h Q:=
 @callP_of P n_model_Encode Tryz.f88 tab_model_Encode [(agS A2 y0)] h Q mixed Tryz.func88 Tryz.call88 (by kernel_rfl) (Eq.mpr (by kernel_rfl) H)
def crc_Sum_1_l2 (Q:VH) (K1:(Addr×Int×Unit)→Heap→Prop) (t1:Addr) (t8:Int) (h3:Heap):Prop:=
 ifB (decide (t8<8)) (
 ldInt .u32 h3 t1 fun n4=>
 ldInt .u32 h3 t1 fun n5=>
 stI h3 t1 (.int .u32 (xorI .u32 (shrI n5 1) (IntKind.wrap .u32 ((3988292384:Int)*(andI .u32 n4 1))))) fun h6=>
 K1 (t1,(IntKind.wrap .i64 (t8+1)),()) h6) (
 Q (.tuple #[]) h3)
def crc_Sum_1 (y0:Int) (free0:Addr) (h:Heap) (Q:VH):Prop:=
 ldInt .u32 h free0 fun n1=>
 stI h free0 (.int .u32 (xorI .u32 n1 (IntKind.wrap .u32 y0))) fun h2=>
 LoopS (S:=(Addr×Int×Unit)) (fun K1 s h=>crc_Sum_1_l2 Q K1 s.1 s.2.1 h) (free0,(0:Int),()) h2
noncomputable def tab_crc_Sum_1:Tab:=tb (lookT .done []) (lookT [] [(2,[(1,.sc (.adr)),(8,I6)])]) (lookT none [])
theorem call_crc_Sum_1 (y0:Int) (free0:Addr) {h:Heap} {Q:VH} (H:crc_Sum_1 y0 free0 h Q):callP P n_crc_Sum_1 #[(.int .u8 y0),(.pointer (some free0))] h Q:=
 @callP_of P n_crc_Sum_1 Tryz.f146 tab_crc_Sum_1 [(.int .u8 y0),(.pointer (some free0))] h Q mixed Tryz.func146 Tryz.call146 (by kernel_rfl) (Eq.mpr (by kernel_rfl) H)
def crc_Sum_l7 (Q:VH) (K1:YH Y33) (K2:YH Y34) (y3 next_4_c0:Addr) (y6:ByteArray) (t9_p:OA) (t9_n t9_c:Nat) (t10 t11 t16 t17:Int) (h7:Heap):Prop:=
 ifB (decide (t17<t16)) (
 strI y6 t17 fun b8=>
 callUnit P n_crc_Sum_1 #[(.int .u8 (b8.toNat:Int)),(.pointer (some next_4_c0))] h7 fun h9=>
 K2 (y3,((()),(next_4_c0,())),y6,(t9_p,t9_n,t9_c),t10,t11,t16,(IntKind.wrap .i64 (t17+1)),()) h9) (
 K1 (y3,((()),(next_4_c0,())),(t9_p,t9_n,t9_c),t10,(IntKind.wrap .i64 (t11+1)),()) h7)
def crc_Sum_l4 (Q:VH) (K1:YH Y33) (y3 next_4_c0:Addr) (t9_p:OA) (t9_n t9_c:Nat) (t10 t11:Int) (h4:Heap):Prop:=
 ifB (decide (t11<t10)) (
 idxI t9_p t11 t9_n fun a5=>
 ldStr h4 (a5.add (t11.toNat*1)) fun s6=>
 LoopS (S:=Y34) (fun K2 s h=>crc_Sum_l7 Q K1 K2 s.1 s.2.1.2.1 s.2.2.1 s.2.2.2.1.1 s.2.2.2.1.2.1 s.2.2.2.1.2.2 s.2.2.2.2.1 s.2.2.2.2.2.1 s.2.2.2.2.2.2.1 s.2.2.2.2.2.2.2.1 h) (y3,((()),(next_4_c0,())),s6,(t9_p,t9_n,t9_c),t10,t11,((s6.size:Nat):Int),(0:Int),()) h4) (
 ldInt .u32 h4 y3 fun n10=>
 Q (.int .u32 (xorI .u32 (IntKind.max .u32) n10)) h4)
def crc_Sum (y0p:OA) (y0n y0c:Nat) (h:Heap) (Q:VH):Prop:=
 newI h (.cells #[(.int .u32 0)] 37 (0,0)) fun b1 h2=>
 stI h2 ⟨b1,0,none⟩ (.int .u32 4294967295) fun h3=>
 LoopS (S:=Y33) (fun K1 s h=>crc_Sum_l4 Q K1 s.1 s.2.1.2.1 s.2.2.1.1 s.2.2.1.2.1 s.2.2.1.2.2 s.2.2.2.1 s.2.2.2.2.1 h) (⟨b1,0,none⟩,((()),(⟨b1,0,none⟩,())),(y0p,y0n,y0c),(y0n:Int),(0:Int),()) h3
noncomputable def tab_crc_Sum:Tab:=tb (lookT .done []) (lookT [] [(4,[(3,.sc (.adr)),(4,.fn 146 [] [.adr]),(9,SL),(10,I6),(11,I6)]),(7,[(3,.sc (.adr)),(4,.fn 146 [] [.adr]),(6,.sc (.str)),(9,SL),(10,I6),(11,I6),(16,I6),(17,I6)])]) (lookT none [])
theorem call_crc_Sum (y0p:OA) (y0n y0c:Nat) {h:Heap} {Q:VH} (H:crc_Sum y0p y0n y0c h Q):callP P n_crc_Sum #[(.slice y0p y0n y0c)] h Q:=
 @callP_of P n_crc_Sum Tryz.f89 tab_crc_Sum [(.slice y0p y0n y0c)] h Q mixed Tryz.func89 Tryz.call89 (by kernel_rfl) (Eq.mpr (by kernel_rfl) H)
def plan_hash (y0:TS A2) (h:Heap) (Q:VH):Prop:=
 newI h (.cells (mkS' A2 y0).toArray 32 (0,0)) fun b1 h2=>
 ldAg A2 h2 ⟨b1,0,none⟩ fun x3=>
 callP P n_model_Encode #[(agS A2 x3)] h2 fun v5 h4=>
 ∃s6:ByteArray,∃n7:Int,v5=(.tuple #[(.string s6),(.int .i64 n7)])∧
 newI h4 (.cells #[(.string s6)] 9 (0,0)) fun b8 h9=>
 callInt P .u32 n_crc_Sum #[(.slice (some ⟨b8,0,none⟩) 1 1)] h9 fun n11 h10=>
 Q (.int .u32 n11) h10
noncomputable def tab_plan_hash:Tab:=tb (lookT .done []) (lookT [] []) (lookT none [])
theorem call_plan_hash (y0:TS A2) {h:Heap} {Q:VH} (H:plan_hash y0 h Q):callP P n_plan_hash #[(agS A2 y0)] h Q:=
 @callP_of P n_plan_hash Tryz.f39 tab_plan_hash [(agS A2 y0)] h Q mixed Tryz.func39 Tryz.call39 (by kernel_rfl) (Eq.mpr (by kernel_rfl) H)
def plan_Make_l21 (Q:VH) (K1:YH Y35) (K2:YH Y36) (t2 y4:Addr) (y7p:OA) (y7n y7c:Nat) (y11p:OA) (y11n y11c:Nat) (y12 t80 t81:Int) (h54:Heap):Prop:=
 ifB (decide (t81<t80)) (
 idxI y11p t81 y11n fun a55=>
 ldInt .i64 h54 (a55.add (t81.toNat*1)) fun n56=>
 idxI y7p t81 y7n fun a57=>
 stI h54 (a57.add (t81.toNat*3)) (.int .i64 n56) fun h58=>
 K2 (t2,y4,(y7p,y7n,y7c),(y11p,y11n,y11c),y12,t80,(IntKind.wrap .i64 (t81+1)),()) h58) (
 ldAg A2 h54 y4 fun x59=>
 ldAg A2 h54 y4 fun x60=>
 ldAg A2 h54 y4 fun x61=>
 ldAg A2 h54 y4 fun x62=>
 callSlice P n_graph_Order #[(agS A2 x60)] h54 fun p64 l64 c64 h63=>
 holdW (watchL 0 y4 (mkS' A2 x62) 0) h63 (
 holdW (watchL 0 y4 (mkS' A2 x61) 0) h63 (
 holdW (watchL 0 y4 (mkS' A2 x59) 0) h63 (
 callInt P .i64 n_field_Macs #[(agS A2 x61)] h63 fun n66 h65=>
 holdW (watchL 0 y4 (mkS' A2 x62) 0) h65 (
 holdW (watchL 0 y4 (mkS' A2 x60) 0) h65 (
 holdW (watchL 0 y4 (mkS' A2 x59) 0) h65 (
 callInt P .u32 n_plan_hash #[(agS A2 x62)] h65 fun n68 h67=>
 holdW (watchL 0 y4 (mkS' A2 x61) 0) h67 (
 holdW (watchL 0 y4 (mkS' A2 x60) 0) h67 (
 holdW (watchL 0 y4 (mkS' A2 x59) 0) h67 (
 storeL [(.int .i64 x59.1),(.int .i64 x59.2.1),(.int .i64 x59.2.2.1),(.slice x59.2.2.2.1.1 x59.2.2.2.1.2.1 x59.2.2.2.1.2.2),(.int .i64 x59.2.2.2.2.1),(.slice p64 l64 c64),(.slice y7p y7n y7c),(.int .i64 y12),(.int .i64 n66),(.int .u32 n68)] h67 t2 0 fun h69=>
 ldAg A4 h69 t2 fun x70=>
 Q (.tuple #[(agS A4 x70),(.int .i64 0)]) h69))))))))))
def plan_Make_l12 (Q:VH) (K1:YH Y35) (t2 y4:Addr) (y6p:OA) (y6n y6c:Nat) (y7p:OA) (y7n y7c:Nat) (y8p:OA) (y8n y8c:Nat) (t43_p:OA) (t43_n t43_c:Nat) (t44 t45:Int) (h34:Heap):Prop:=
 ifB (decide (t45<t44)) (
 idxI t43_p t45 t43_n fun a35=>
 ldInt .i64 h34 (a35.add (t45.toNat*1)) fun n36=>
 idxI y6p t45 y6n fun a37=>
 ldInt .i64 h34 (a37.add (t45.toNat*1)) fun n38=>
 idxI y7p t45 y7n fun a39=>
 stI h34 (a39.add (t45.toNat*3)) (.int .i64 0) fun h40=>
 stI h40 (Addr.add (a39.add (t45.toNat*3)) 1) (.int .i64 n36) fun h41=>
 stI h41 (Addr.add (a39.add (t45.toNat*3)) 2) (.int .i64 n38) fun h42=>
 idxI y6p t45 y6n fun a43=>
 ldInt .i64 h42 (a43.add (t45.toNat*1)) fun n44=>
 idxI y8p t45 y8n fun a45=>
 stI h42 (a45.add (t45.toNat*1)) (.int .i64 (IntKind.wrap .i64 (n44*n36))) fun h46=>
 K1 (t2,y4,(y6p,y6n,y6c),(y7p,y7n,y7c),(y8p,y8n,y8c),(t43_p,t43_n,t43_c),t44,(IntKind.wrap .i64 (t45+1)),()) h46) (
 callP P n_arena_Layout #[(.slice y8p y8n y8c)] h34 fun v48 h47=>
 ∃p49:Option Addr,∃l49:Nat,∃c49:Nat,∃n50:Int,∃n51:Int,v48=(.tuple #[(.slice p49 l49 c49),(.int .i64 n50),(.int .i64 n51)])∧
 ifB (n51 !=0) (
 storeL [(.int .i64 0),(.int .i64 0),(.int .i64 0),(.slice none 0 0),(.int .i64 0),(.slice none 0 0),(.slice none 0 0),(.int .i64 0),(.int .i64 0),(.int .u32 0)] h47 t2 0 fun h52=>
 ldAg A4 h52 t2 fun x53=>
 Q (.tuple #[(agS A4 x53),(.int .i64 n51)]) h52) (
 LoopS (S:=Y36) (fun K2 s h=>plan_Make_l21 Q K1 K2 s.1 s.2.1 s.2.2.1.1 s.2.2.1.2.1 s.2.2.1.2.2 s.2.2.2.1.1 s.2.2.2.1.2.1 s.2.2.2.1.2.2 s.2.2.2.2.1 s.2.2.2.2.2.1 s.2.2.2.2.2.2.1 h) (t2,y4,(y7p,y7n,y7c),(p49,l49,c49),n50,(y7n:Int),(0:Int),()) h47))
def plan_Make (y0:ByteArray) (h:Heap) (Q:VH):Prop:=
 newI h (.cells (mkS' A4 (zT A4)).toArray 39 (0,0)) fun b1 h2=>
 callP P n_model_Decode #[(.string y0)] h2 fun v4 h3=>
 exS A2 fun x5=> ∃n6:Int,v4=(.tuple #[(agS A2 x5),(.int .i64 n6)])∧
 newI h3 (.cells (mkS' A2 (zT A2)).toArray 32 (0,0)) fun b7 h8=>
 storeL (mkS' A2 x5) h8 ⟨b7,0,none⟩ 0 fun h9=>
 ifB (n6 !=0) (
 storeL [(.int .i64 0),(.int .i64 0),(.int .i64 0),(.slice none 0 0),(.int .i64 0),(.slice none 0 0),(.slice none 0 0),(.int .i64 0),(.int .i64 0),(.int .u32 0)] h9 ⟨b1,0,none⟩ 0 fun h10=>
 ldAg A4 h10 ⟨b1,0,none⟩ fun x11=>
 Q (.tuple #[(agS A4 x11),(.int .i64 n6)]) h10) (
 ldAg A2 h9 ⟨b7,0,none⟩ fun x12=>
 callP P n_bound_Ranges #[(agS A2 x12)] h9 fun v14 h13=>
 ∃p15:Option Addr,∃l15:Nat,∃c15:Nat,∃n16:Int,v14=(.tuple #[(.slice p15 l15 c15),(.int .i64 n16)])∧
 ifB (n16 !=0) (
 storeL [(.int .i64 0),(.int .i64 0),(.int .i64 0),(.slice none 0 0),(.int .i64 0),(.slice none 0 0),(.slice none 0 0),(.int .i64 0),(.int .i64 0),(.int .u32 0)] h13 ⟨b1,0,none⟩ 0 fun h17=>
 ldAg A4 h17 ⟨b1,0,none⟩ fun x18=>
 Q (.tuple #[(agS A4 x18),(.int .i64 n16)]) h17) (
 ldAg A2 h13 ⟨b7,0,none⟩ fun x19=>
 callP P n_fuse_Fuse #[(agS A2 x19)] h13 fun v21 h20=>
 exS A2 fun x22=>v21=(agS A2 x22)∧
 storeL (mkS' A2 x22) h20 ⟨b7,0,none⟩ 0 fun h23=>
 ldAg A2 h23 ⟨b7,0,none⟩ fun x24=>
 callSlice P n_field_Rooms #[(agS A2 x24)] h23 fun p26 l26 c26 h25=>
 mkI 52 3 24 (.agg #[(.int .i64 0),(.int .i64 0),(.int .i64 0)]) (l26:Int) (l26:Int) h25 fun b27 h28=>
 mkI 3 1 8 (.int .i64 0) (l26:Int) (l26:Int) h28 fun b29 h30=>
 ldAg A2 h30 ⟨b7,0,none⟩ fun x31=>
 callSlice P n_graph_Widths #[(agS A2 x31)] h30 fun p33 l33 c33 h32=>
 LoopS (S:=Y35) (fun K1 s h=>plan_Make_l12 Q K1 s.1 s.2.1 s.2.2.1.1 s.2.2.1.2.1 s.2.2.1.2.2 s.2.2.2.1.1 s.2.2.2.1.2.1 s.2.2.2.1.2.2 s.2.2.2.2.1.1 s.2.2.2.2.1.2.1 s.2.2.2.2.1.2.2 s.2.2.2.2.2.1.1 s.2.2.2.2.2.1.2.1 s.2.2.2.2.2.1.2.2 s.2.2.2.2.2.2.1 s.2.2.2.2.2.2.2.1 h) (⟨b1,0,none⟩,⟨b7,0,none⟩,(p26,l26,c26),(some ⟨b27,0,none⟩,(l26:Int).toNat,(l26:Int).toNat),(some ⟨b29,0,none⟩,(l26:Int).toNat,(l26:Int).toNat),(p33,l33,c33),(l33:Int),(0:Int),()) h32))
noncomputable def tab_plan_Make:Tab:=tb (lookT .done [(25,(ones [3,4] (.early 0 (.early 1 (.early 5 (.early 7 (.alt 2 (.alt 6 (.alt 8 (ones [9] (.alt 10 (ones [11] .done) .stop)) .stop) .stop) .stop)))))))]) (lookT [] [(12,[(2,.sc (.adr)),(4,.sc (.adr)),(6,SL),(7,SL),(8,SL),(43,SL),(44,I6),(45,I6)]),(21,[(2,.sc (.adr)),(4,.sc (.adr)),(7,SL),(11,SL),(12,I6),(80,I6),(81,I6)])]) (lookT none [])
theorem call_plan_Make (y0:ByteArray) {h:Heap} {Q:VH} (H:plan_Make y0 h Q):callP P n_plan_Make #[(.string y0)] h Q:=
 @callP_of P n_plan_Make Tryz.f13 tab_plan_Make [(.string y0)] h Q mixed Tryz.func13 Tryz.call13 (by kernel_rfl) (Eq.mpr (by kernel_rfl) H)
def ref15_in (y0 y1 y2:Int) (h:Heap) (Q:VH):Prop:=
 ifB (decide (y0≥y1)) (
 Q (.bool (decide (y0≤y2))) h) (
 Q (.bool false) h)
noncomputable def tab_ref15_in:Tab:=tb (lookT .done []) (lookT [] []) (lookT none [])
theorem call_ref15_in (y0 y1 y2:Int) {h:Heap} {Q:VH} (H:ref15_in y0 y1 y2 h Q):callP P n_ref15_in #[(.int .i64 y0),(.int .i64 y1),(.int .i64 y2)] h Q:=
 @callP_of P n_ref15_in Tryz.f159 tab_ref15_in [(.int .i64 y0),(.int .i64 y1),(.int .i64 y2)] h Q mixed Tryz.func159 Tryz.call159 (by kernel_rfl) (Eq.mpr (by kernel_rfl) H)
def ref06_Bytes_l3 (Q:VH) (K1:(Int×Int×ByteArray×Int×Unit)→Heap→Prop) (y0 y1:Int) (y5:ByteArray) (y6:Int) (h1:Heap):Prop:=
 ifB (decide (y6<y1)) (
 newI h1 (.cells #[(.int .u8 (IntKind.wrap .u8 y0))] 5 (0,0)) fun b2 h3=>
 b2sB (some ⟨b2,0,none⟩) 1 h3 fun s4=>
 ∃s5:ByteArray,Value.string s4=Value.string s5∧
 addStrI y5 s5 fun _=>
 K1 ((IntKind.wrap .u64 (Int.tdiv y0 256)),y1,(y5++s5),(IntKind.wrap .i64 (y6+1)),()) h3) (
 Q (.string y5) h1)
def ref06_Bytes (y0 y1:Int) (h:Heap) (Q:VH):Prop:=
 LoopS (S:=(Int×Int×ByteArray×Int×Unit)) (fun K1 s h=>ref06_Bytes_l3 Q K1 s.1 s.2.1 s.2.2.1 s.2.2.2.1 h) (y0,y1,(ByteArray.mk #[]),(0:Int),()) h
noncomputable def tab_ref06_Bytes:Tab:=tb (lookT .done []) (lookT [] [(3,[(0,.sc (.int .u64)),(1,I6),(5,.sc (.str)),(6,I6)])]) (lookT none [])
theorem call_ref06_Bytes (y0 y1:Int) {h:Heap} {Q:VH} (H:ref06_Bytes y0 y1 h Q):callP P n_ref06_Bytes #[(.int .u64 y0),(.int .i64 y1)] h Q:=
 @callP_of P n_ref06_Bytes Tryz.f160 tab_ref06_Bytes [(.int .u64 y0),(.int .i64 y1)] h Q mixed Tryz.func160 Tryz.call160 (by kernel_rfl) (Eq.mpr (by kernel_rfl) H)
def ref15_Out_put (y0:Option Addr) (y1 y2 y3 y4:Int) (h:Heap) (Q:VH):Prop:=
 callBool P n_ref15_in #[(.int .i64 y1),(.int .i64 y3),(.int .i64 y4)] h fun b2 h1=>
 ifB (!b2) (
 nilI y0 fun a3=>
 stI h1 (a3.add 1) (.bool true) fun h4=>
 nilI y0 fun a5=>
 ldStr h4 a5 fun s6=>
 callStr P n_ref06_Bytes #[(.int .u64 (IntKind.wrap .u64 y1)),(.int .i64 y2)] h4 fun s8 h7=>
 cellH h7 a5=some (.string s6)∧
 addStrI s6 s8 fun _=>
 nilI y0 fun a9=>
 stI h7 a9 (.string (s6++s8)) fun h10=>
 Q (.tuple #[]) h10) (
 nilI y0 fun a11=>
 ldStr h1 a11 fun s12=>
 callStr P n_ref06_Bytes #[(.int .u64 (IntKind.wrap .u64 y1)),(.int .i64 y2)] h1 fun s14 h13=>
 cellH h13 a11=some (.string s12)∧
 addStrI s12 s14 fun _=>
 nilI y0 fun a15=>
 stI h13 a15 (.string (s12++s14)) fun h16=>
 Q (.tuple #[]) h16)
noncomputable def tab_ref15_Out_put:Tab:=tb (lookT .done [(3,(ones [0,1,2,3,5,6,7] (.early 4 (.alt 8 (ones [9,10,11] (.alt 12 .done .stop)) .stop))))]) (lookT [] []) (lookT none [])
theorem call_ref15_Out_put (y0:Option Addr) (y1 y2 y3 y4:Int) {h:Heap} {Q:VH} (H:ref15_Out_put y0 y1 y2 y3 y4 h Q):callP P n_ref15_Out_put #[(.pointer y0),(.int .i64 y1),(.int .i64 y2),(.int .i64 y3),(.int .i64 y4)] h Q:=
 @callP_of P n_ref15_Out_put Tryz.f93 tab_ref15_Out_put [(.pointer y0),(.int .i64 y1),(.int .i64 y2),(.int .i64 y3),(.int .i64 y4)] h Q mixed Tryz.func93 Tryz.call93 (by kernel_rfl) (Eq.mpr (by kernel_rfl) H)
def ref15_Out_byt (y0:Option Addr) (y1:Int) (h:Heap) (Q:VH):Prop:=
 callUnit P n_ref15_Out_put #[(.pointer y0),(.int .i64 y1),(.int .i64 1),(.int .i64 0),(.int .i64 255)] h fun h1=>
 Q (.tuple #[]) h1
noncomputable def tab_ref15_Out_byt:Tab:=tb (lookT .done []) (lookT [] []) (lookT none [])
theorem call_ref15_Out_byt (y0:Option Addr) (y1:Int) {h:Heap} {Q:VH} (H:ref15_Out_byt y0 y1 h Q):callP P n_ref15_Out_byt #[(.pointer y0),(.int .i64 y1)] h Q:=
 @callP_of P n_ref15_Out_byt Tryz.f42 tab_ref15_Out_byt [(.pointer y0),(.int .i64 y1)] h Q mixed Tryz.func42 Tryz.call42 (by kernel_rfl) (Eq.mpr (by kernel_rfl) H)
def ref15_Out_word (y0:Option Addr) (y1:Int) (h:Heap) (Q:VH):Prop:=
 callUnit P n_ref15_Out_put #[(.pointer y0),(.int .i64 y1),(.int .i64 4),(.int .i64 (-2147483648:Int)),(.int .i64 2147483647)] h fun h1=>
 Q (.tuple #[]) h1
noncomputable def tab_ref15_Out_word:Tab:=tb (lookT .done []) (lookT [] []) (lookT none [])
theorem call_ref15_Out_word (y0:Option Addr) (y1:Int) {h:Heap} {Q:VH} (H:ref15_Out_word y0 y1 h Q):callP P n_ref15_Out_word #[(.pointer y0),(.int .i64 y1)] h Q:=
 @callP_of P n_ref15_Out_word Tryz.f43 tab_ref15_Out_word [(.pointer y0),(.int .i64 y1)] h Q mixed Tryz.func43 Tryz.call43 (by kernel_rfl) (Eq.mpr (by kernel_rfl) H)
def ref15_Out_row_l2 (Q:VH) (K1:(Option Addr×S3×Int×Unit)→Heap→Prop) (y0:Option Addr) (y1p:OA) (y1n y1c:Nat) (y4:Int) (h2:Heap):Prop:=
 ifB (decide (y4<(y1n:Int))) (
 idxI y1p y4 y1n fun a3=>
 ldInt .i64 h2 (a3.add (y4.toNat*1)) fun n4=>
 callUnit P n_ref15_Out_word #[(.pointer y0),(.int .i64 n4)] h2 fun h5=>
 K1 (y0,(y1p,y1n,y1c),(IntKind.wrap .i64 (y4+1)),()) h5) (
 Q (.tuple #[]) h2)
def ref15_Out_row (y0:Option Addr) (y1p:OA) (y1n y1c:Nat) (h:Heap) (Q:VH):Prop:=
 callUnit P n_ref15_Out_put #[(.pointer y0),(.int .i64 (y1n:Int)),(.int .i64 2),(.int .i64 0),(.int .i64 65535)] h fun h1=>
 LoopS (S:=(Option Addr×S3×Int×Unit)) (fun K1 s h=>ref15_Out_row_l2 Q K1 s.1 s.2.1.1 s.2.1.2.1 s.2.1.2.2 s.2.2.1 h) (y0,(y1p,y1n,y1c),(0:Int),()) h1
noncomputable def tab_ref15_Out_row:Tab:=tb (lookT .done []) (lookT [] [(2,[(0,.sc (.ptr)),(1,SL),(4,I6)])]) (lookT none [])
theorem call_ref15_Out_row (y0:Option Addr) (y1p:OA) (y1n y1c:Nat) {h:Heap} {Q:VH} (H:ref15_Out_row y0 y1p y1n y1c h Q):callP P n_ref15_Out_row #[(.pointer y0),(.slice y1p y1n y1c)] h Q:=
 @callP_of P n_ref15_Out_row Tryz.f94 tab_ref15_Out_row [(.pointer y0),(.slice y1p y1n y1c)] h Q mixed Tryz.func94 Tryz.call94 (by kernel_rfl) (Eq.mpr (by kernel_rfl) H)
def ref15_Out_node_l9 (Q:VH) (K1:(Option Addr×Addr×Int×Unit)→Heap→Prop) (K2:(Option Addr×Addr×Addr×Int×Unit)→Heap→Prop) (y0:Option Addr) (y3 y5:Addr) (y6:Int) (h22:Heap):Prop:=
 ifB (decide (y6<6)) (
 arrI y6 6 fun _=>
 ldInt .i64 h22 (y5.add (y6.toNat*1)) fun n23=>
 callUnit P n_ref15_Out_byt #[(.pointer y0),(.int .i64 n23)] h22 fun h24=>
 K2 (y0,y3,y5,(IntKind.wrap .i64 (y6+1)),()) h24) (
 ldSlice h22 (y3.add 8) fun p25 l25 c25=>
 callUnit P n_ref15_Out_row #[(.pointer y0),(.slice p25 l25 c25)] h22 fun h26=>
 ldSlice h26 (y3.add 9) fun p27 l27 c27=>
 callUnit P n_ref15_Out_row #[(.pointer y0),(.slice p27 l27 c27)] h26 fun h28=>
 ldInt .i64 h28 (y3.add 10) fun n29=>
 callUnit P n_ref15_Out_put #[(.pointer y0),(.int .i64 n29),(.int .i64 2),(.int .i64 0),(.int .i64 65535)] h28 fun h30=>
 ldInt .i64 h30 (y3.add 11) fun n31=>
 callUnit P n_ref15_Out_byt #[(.pointer y0),(.int .i64 n31)] h30 fun h32=>
 ldInt .i64 h32 (y3.add 12) fun n33=>
 callUnit P n_ref15_Out_word #[(.pointer y0),(.int .i64 n33)] h32 fun h34=>
 ldInt .i64 h34 (y3.add 13) fun n35=>
 callUnit P n_ref15_Out_word #[(.pointer y0),(.int .i64 n35)] h34 fun h36=>
 ldInt .i64 h36 (y3.add 14) fun n37=>
 callUnit P n_ref15_Out_byt #[(.pointer y0),(.int .i64 n37)] h36 fun h38=>
 Q (.tuple #[]) h38)
def ref15_Out_node_l4 (Q:VH) (K1:(Option Addr×Addr×Int×Unit)→Heap→Prop) (y0:Option Addr) (y3:Addr) (y4:Int) (h7:Heap):Prop:=
 ldSlice h7 (y3.add 1) fun p8 l8 c8=>
 ifB (decide (y4<(l8:Int))) (
 ldSlice h7 (y3.add 1) fun p9 l9 c9=>
 idxI p9 y4 l9 fun a10=>
 ldInt .i64 h7 (a10.add (y4.toNat*1)) fun n11=>
 callUnit P n_ref15_Out_byt #[(.pointer y0),(.int .i64 n11)] h7 fun h12=>
 K1 (y0,y3,(IntKind.wrap .i64 (y4+1)),()) h12) (
 ldInt .i64 h7 (y3.add 2) fun n13=>
 ldInt .i64 h7 (y3.add 3) fun n14=>
 ldInt .i64 h7 (y3.add 4) fun n15=>
 ldInt .i64 h7 (y3.add 5) fun n16=>
 ldInt .i64 h7 (y3.add 6) fun n17=>
 ldInt .i64 h7 (y3.add 7) fun n18=>
 newI h7 (.cells #[(.int .i64 0),(.int .i64 0),(.int .i64 0),(.int .i64 0),(.int .i64 0),(.int .i64 0)] 108 (0,0)) fun b19 h20=>
 storeL [(.int .i64 n13),(.int .i64 n14),(.int .i64 n15),(.int .i64 n16),(.int .i64 n17),(.int .i64 n18)] h20 ⟨b19,0,none⟩ 0 fun h21=>
 LoopS (S:=(Option Addr×Addr×Addr×Int×Unit)) (fun K2 s h=>ref15_Out_node_l9 Q K1 K2 s.1 s.2.1 s.2.2.1 s.2.2.2.1 h) (y0,y3,⟨b19,0,none⟩,(0:Int),()) h21)
def ref15_Out_node (y0:Option Addr) (y1:TS A1) (h:Heap) (Q:VH):Prop:=
 newI h (.cells (mkS' A1 y1).toArray 62 (0,0)) fun b1 h2=>
 ldInt .i64 h2 ⟨b1,0,none⟩ fun n3=>
 callUnit P n_ref15_Out_byt #[(.pointer y0),(.int .i64 n3)] h2 fun h4=>
 ldSlice h4 ⟨b1,1,none⟩ fun p5 l5 c5=>
 callUnit P n_ref15_Out_byt #[(.pointer y0),(.int .i64 (l5:Int))] h4 fun h6=>
 LoopS (S:=(Option Addr×Addr×Int×Unit)) (fun K1 s h=>ref15_Out_node_l4 Q K1 s.1 s.2.1 s.2.2.1 h) (y0,⟨b1,0,none⟩,(0:Int),()) h6
noncomputable def tab_ref15_Out_node:Tab:=tb (lookT .done []) (lookT [] [(4,[(0,.sc (.ptr)),(3,.sc (.adr)),(4,I6)]),(9,[(0,.sc (.ptr)),(3,.sc (.adr)),(5,.sc (.adr)),(6,I6)])]) (lookT none [])
theorem call_ref15_Out_node (y0:Option Addr) (y1:TS A1) {h:Heap} {Q:VH} (H:ref15_Out_node y0 y1 h Q):callP P n_ref15_Out_node #[(.pointer y0),(agS A1 y1)] h Q:=
 @callP_of P n_ref15_Out_node Tryz.f44 tab_ref15_Out_node [(.pointer y0),(agS A1 y1)] h Q mixed Tryz.func44 Tryz.call44 (by kernel_rfl) (Eq.mpr (by kernel_rfl) H)
def ref15_Encode_l7 (Q:VH) (K1:(Addr×Addr×Int×Unit)→Heap→Prop) (y1 y4:Addr) (y5:Int) (h13:Heap):Prop:=
 ldSlice h13 (y1.add 3) fun p14 l14 c14=>
 ifB (decide (y5<(l14:Int))) (
 ldSlice h13 (y1.add 3) fun p15 l15 c15=>
 idxI p15 y5 l15 fun a16=>
 ldAg A1 h13 (a16.add (y5.toNat*15)) fun x17=>
 callUnit P n_ref15_Out_node #[(.pointer (some y4)),(agS A1 x17)] h13 fun h18=>
 K1 (y1,y4,(IntKind.wrap .i64 (y5+1)),()) h18) (
 ldInt .i64 h13 (y1.add 4) fun n19=>
 callUnit P n_ref15_Out_byt #[(.pointer (some y4)),(.int .i64 n19)] h13 fun h20=>
 nilI (some y4) fun a21=>
 ldBool h20 (a21.add 1) fun b22=>
 ifB b22 (
 Q (.tuple #[(.string (ByteArray.mk #[])),(.int .i64 22)]) h20) (
 nilI (some y4) fun a23=>
 ldStr h20 a23 fun s24=>
 Q (.tuple #[(.string s24),(.int .i64 0)]) h20))
def ref15_Encode (y0:TS A2) (h:Heap) (Q:VH):Prop:=
 newI h (.cells (mkS' A2 y0).toArray 32 (0,0)) fun b1 h2=>
 newI h2 (.cells #[(.string (ByteArray.mk #[69,65,82,49])),(.bool false)] 89 (0,0)) fun b3 h4=>
 ldInt .i64 h4 ⟨b1,0,none⟩ fun n5=>
 callUnit P n_ref15_Out_byt #[(.pointer (some ⟨b3,0,none⟩)),(.int .i64 n5)] h4 fun h6=>
 ldInt .i64 h6 ⟨b1,1,none⟩ fun n7=>
 callUnit P n_ref15_Out_word #[(.pointer (some ⟨b3,0,none⟩)),(.int .i64 n7)] h6 fun h8=>
 ldInt .i64 h8 ⟨b1,2,none⟩ fun n9=>
 callUnit P n_ref15_Out_word #[(.pointer (some ⟨b3,0,none⟩)),(.int .i64 n9)] h8 fun h10=>
 ldSlice h10 ⟨b1,3,none⟩ fun p11 l11 c11=>
 callUnit P n_ref15_Out_byt #[(.pointer (some ⟨b3,0,none⟩)),(.int .i64 (l11:Int))] h10 fun h12=>
 LoopS (S:=(Addr×Addr×Int×Unit)) (fun K1 s h=>ref15_Encode_l7 Q K1 s.1 s.2.1 s.2.2.1 h) (⟨b1,0,none⟩,⟨b3,0,none⟩,(0:Int),()) h12
noncomputable def tab_ref15_Encode:Tab:=tb (lookT .done []) (lookT [] [(7,[(1,.sc (.adr)),(4,.sc (.adr)),(5,I6)])]) (lookT none [])
theorem call_ref15_Encode (y0:TS A2) {h:Heap} {Q:VH} (H:ref15_Encode y0 h Q):callP P n_ref15_Encode #[(agS A2 y0)] h Q:=
 @callP_of P n_ref15_Encode Tryz.f18 tab_ref15_Encode [(agS A2 y0)] h Q mixed Tryz.func18 Tryz.call18 (by kernel_rfl) (Eq.mpr (by kernel_rfl) H)
def law22_awake (h:Heap) (Q:VH):Prop:=
 callP P n_plan_Make #[(.string (ByteArray.mk #[]))] h fun v2 h1=>
 exS A4 fun x3=> ∃n4:Int,v2=(.tuple #[(agS A4 x3),(.int .i64 n4)])∧
 newI h1 (.cells (mkS' A4 (zT A4)).toArray 39 (0,0)) fun b5 h6=>
 storeL (mkS' A4 x3) h6 ⟨b5,0,none⟩ 0 fun h7=>
 newI h7 (.cells #[(.int .i64 0)] 3 (0,0)) fun b8 h9=>
 newI h9 (.cells #[(.int .i64 3),(.slice (some ⟨b8,0,none⟩) 1 1),(.int .i64 0),(.int .i64 3),(.int .i64 1),(.int .i64 1),(.int .i64 0),(.int .i64 0),(.slice none 0 0),(.slice none 0 0),(.int .i64 0),(.int .i64 0),(.int .i64 0),(.int .i64 0),(.int .i64 0)] 62 (0,0)) fun b10 h11=>
 callP P n_ref15_Encode #[(.agg #[(.int .i64 2),(.int .i64 0),(.int .i64 9),(.slice (some ⟨b10,0,none⟩) 1 1),(.int .i64 1)])] h11 fun v13 h12=>
 ∃s14:ByteArray,∃n15:Int,v13=(.tuple #[(.string s14),(.int .i64 n15)])∧
 callP P n_plan_Make #[(.string s14)] h12 fun v17 h16=>
 exS A4 fun x18=> ∃n19:Int,v17=(.tuple #[(agS A4 x18),(.int .i64 n19)])∧
 newI h16 (.cells (mkS' A4 (zT A4)).toArray 39 (0,0)) fun b20 h21=>
 storeL (mkS' A4 x18) h21 ⟨b20,0,none⟩ 0 fun h22=>
 ifB (n4==10) (
 ifB (n19==0) (
 ldSlice h22 ⟨b20,6,none⟩ fun p23 l23 c23=>
 ifB ((l23:Int)==2) (
 ldSlice h22 ⟨b20,6,none⟩ fun p24 l24 c24=>
 idxI p24 1 l24 fun a25=>
 ldInt .i64 h22 (a25.add ((1:Int).toNat*3)) fun n26=>
 ifB (n26==8) (
 ldInt .i64 h22 ⟨b20,7,none⟩ fun n27=>
 Q (.bool (n27==12)) h22) (
 Q (.bool false) h22)) (
 Q (.bool false) h22)) (
 Q (.bool false) h22)) (
 Q (.bool false) h22)
noncomputable def tab_law22_awake:Tab:=tb (lookT .done []) (lookT [] []) (lookT none [])
theorem call_law22_awake {h:Heap} {Q:VH} (H:law22_awake h Q):callP P n_law22_awake #[] h Q:=
 @callP_of P n_law22_awake Tryz.f8 tab_law22_awake [] h Q mixed Tryz.func8 Tryz.call8 (by kernel_rfl) (Eq.mpr (by kernel_rfl) H)
def ref14_Row_Next (y0:Option Addr) (y1:Int) (h:Heap) (Q:VH):Prop:=
 nilI y0 fun a1=>
 nilI y0 fun a2=>
 ldInt .i64 h (a1.add 1) fun n3=>
 ldSlice h a2 fun p4 l4 c4=>
 ifB (decide (n3≥(l4:Int))) (
 Q (.int .i64 0) h) (
 nilI y0 fun a5=>
 ldInt .i64 h (a5.add 1) fun n6=>
 nilI y0 fun a7=>
 stI h (a7.add 1) (.int .i64 (IntKind.wrap .i64 (n6+1))) fun h8=>
 nilI y0 fun a9=>
 nilI y0 fun a10=>
 ldSlice h8 a9 fun p11 l11 c11=>
 ldInt .i64 h8 (a10.add 1) fun n12=>
 idxI p11 (IntKind.wrap .i64 (n12-1)) l11 fun a13=>
 ldInt .i64 h8 (a13.add ((IntKind.wrap .i64 (n12-1)).toNat*1)) fun n14=>
 neI y1 fun _=>
 neI y1 fun _=>
 Q (.int .i64 (Int.tmod (IntKind.wrap .i64 ((Int.tmod n14 y1)+y1)) y1)) h8)
noncomputable def tab_ref14_Row_Next:Tab:=tb (lookT .done [(1,(ones [0,1,2,4,5,6,3,7,8,9] .done)),(4,(ones [0,1,2,4,5,6,11,13,15,3,7,8,9,10,12,14,16,17] .done))]) (lookT [] []) (lookT none [])
theorem call_ref14_Row_Next (y0:Option Addr) (y1:Int) {h:Heap} {Q:VH} (H:ref14_Row_Next y0 y1 h Q):callP P n_ref14_Row_Next #[(.pointer y0),(.int .i64 y1)] h Q:=
 @callP_of P n_ref14_Row_Next Tryz.f173 tab_ref14_Row_Next [(.pointer y0),(.int .i64 y1)] h Q mixed Tryz.func173 Tryz.call173 (by kernel_rfl) (Eq.mpr (by kernel_rfl) H)
def ref14_Windows (y0:Int) (h:Heap) (Q:VH):Prop:=
 ifB (y0==1) (
 Q (.bool true) h) (
 ifB (y0==2) (
 Q (.bool true) h) (
 ifB (y0==3) (
 Q (.bool true) h) (
 ifB (y0==4) (
 Q (.bool true) h) (
 Q (.bool (y0==12)) h))))
noncomputable def tab_ref14_Windows:Tab:=tb (lookT .done []) (lookT [] []) (lookT none [])
theorem call_ref14_Windows (y0:Int) {h:Heap} {Q:VH} (H:ref14_Windows y0 h Q):callP P n_ref14_Windows #[(.int .i64 y0)] h Q:=
 @callP_of P n_ref14_Windows Tryz.f152 tab_ref14_Windows [(.int .i64 y0)] h Q mixed Tryz.func152 Tryz.call152 (by kernel_rfl) (Eq.mpr (by kernel_rfl) H)
def ref14_Span (y0:TS A1) (h:Heap) (Q:VH):Prop:=
 newI h (.cells (mkS' A1 y0).toArray 62 (0,0)) fun b1 h2=>
 ldInt .i64 h2 ⟨b1,0,none⟩ fun n3=>
 ifB (n3==12) (
 ldInt .i64 h2 ⟨b1,3,none⟩ fun n4=>
 Q (.int .i64 n4) h2) (
 ldInt .i64 h2 ⟨b1,0,none⟩ fun n5=>
 callBool P n_ref14_Windows #[(.int .i64 n5)] h2 fun b7 h6=>
 ifB (!b7) (
 Q (.int .i64 1) h6) (
 ldInt .i64 h6 ⟨b1,3,none⟩ fun n8=>
 ldInt .i64 h6 ⟨b1,5,none⟩ fun n9=>
 Q (.int .i64 (IntKind.wrap .i64 ((IntKind.wrap .i64 ((IntKind.wrap .i64 (n8-1))*n9))+1))) h6))
noncomputable def tab_ref14_Span:Tab:=tb (lookT .done []) (lookT [] []) (lookT none [])
theorem call_ref14_Span (y0:TS A1) {h:Heap} {Q:VH} (H:ref14_Span y0 h Q):callP P n_ref14_Span #[(agS A1 y0)] h Q:=
 @callP_of P n_ref14_Span Tryz.f110 tab_ref14_Span [(agS A1 y0)] h Q mixed Tryz.func110 Tryz.call110 (by kernel_rfl) (Eq.mpr (by kernel_rfl) H)
def ref14_Row_window (y0:Option Addr) (y1:TS A1) (h:Heap) (Q:VH):Prop:=
 newI h (.cells (mkS' A1 y1).toArray 62 (0,0)) fun b1 h2=>
 newI h2 (.cells (mkS' A1 (zT A1)).toArray 62 (0,0)) fun b3 h4=>
 callInt P .i64 n_ref14_Row_Next #[(.pointer y0),(.int .i64 4)] h4 fun n6 h5=>
 stI h5 ⟨b1,3,none⟩ (.int .i64 (IntKind.wrap .i64 ((1:Int)+n6))) fun h7=>
 callInt P .i64 n_ref14_Row_Next #[(.pointer y0),(.int .i64 3)] h7 fun n9 h8=>
 stI h8 ⟨b1,4,none⟩ (.int .i64 (IntKind.wrap .i64 ((1:Int)+n9))) fun h10=>
 callInt P .i64 n_ref14_Row_Next #[(.pointer y0),(.int .i64 3)] h10 fun n12 h11=>
 stI h11 ⟨b1,5,none⟩ (.int .i64 (IntKind.wrap .i64 ((1:Int)+n12))) fun h13=>
 ldAg A1 h13 ⟨b1,0,none⟩ fun x14=>
 callInt P .i64 n_ref14_Span #[(agS A1 x14)] h13 fun n16 h15=>
 callInt P .i64 n_ref14_Row_Next #[(.pointer y0),(.int .i64 n16)] h15 fun n18 h17=>
 stI h17 ⟨b1,6,none⟩ (.int .i64 n18) fun h19=>
 ldAg A1 h19 ⟨b1,0,none⟩ fun x20=>
 callInt P .i64 n_ref14_Span #[(agS A1 x20)] h19 fun n22 h21=>
 callInt P .i64 n_ref14_Row_Next #[(.pointer y0),(.int .i64 n22)] h21 fun n24 h23=>
 stI h23 ⟨b1,7,none⟩ (.int .i64 n24) fun h25=>
 ldAg A1 h25 ⟨b1,0,none⟩ fun x26=>
 storeL (mkS' A1 x26) h25 ⟨b3,0,none⟩ 0 fun h27=>
 ldAg A1 h27 ⟨b3,0,none⟩ fun x28=>
 Q (agS A1 x28) h27
noncomputable def tab_ref14_Row_window:Tab:=tb (lookT .done []) (lookT [] []) (lookT none [])
theorem call_ref14_Row_window (y0:Option Addr) (y1:TS A1) {h:Heap} {Q:VH} (H:ref14_Row_window y0 y1 h Q):callP P n_ref14_Row_window #[(.pointer y0),(agS A1 y1)] h Q:=
 @callP_of P n_ref14_Row_window Tryz.f221 tab_ref14_Row_window [(.pointer y0),(agS A1 y1)] h Q mixed Tryz.func221 Tryz.call221 (by kernel_rfl) (Eq.mpr (by kernel_rfl) H)
def ref14_Row_row_l3 (Q:VH) (K1:YH Y37) (y0:Option Addr) (y1 y2 y3:Int) (y9p:OA) (y9n y9c:Nat) (y10:Int) (h1:Heap):Prop:=
 ifB (decide (y10<y1)) (
 callInt P .i64 n_ref14_Row_Next #[(.pointer y0),(.int .i64 y3)] h1 fun n3 h2=>
 newI h2 (.cells #[(.int .i64 (IntKind.wrap .i64 (y2+n3)))] 3 (0,0)) fun b4 h5=>
 appI 3 1 8 (.int .i64 0) y9p y9n y9c (some ⟨b4,0,none⟩) 1 h5 fun p6 l6 c6 h7=>
 K1 (y0,y1,y2,y3,(p6,l6,c6),(IntKind.wrap .i64 (y10+1)),()) h7) (
 Q (.slice y9p y9n y9c) h1)
def ref14_Row_row (y0:Option Addr) (y1 y2 y3:Int) (h:Heap) (Q:VH):Prop:=
 LoopS (S:=Y37) (fun K1 s h=>ref14_Row_row_l3 Q K1 s.1 s.2.1 s.2.2.1 s.2.2.2.1 s.2.2.2.2.1.1 s.2.2.2.2.1.2.1 s.2.2.2.2.1.2.2 s.2.2.2.2.2.1 h) (y0,y1,y2,y3,(none,0,0),(0:Int),()) h
noncomputable def tab_ref14_Row_row:Tab:=tb (lookT .done []) (lookT [] [(3,[(0,.sc (.ptr)),(1,I6),(2,I6),(3,I6),(9,SL),(10,I6)])]) (lookT none [])
theorem call_ref14_Row_row (y0:Option Addr) (y1 y2 y3:Int) {h:Heap} {Q:VH} (H:ref14_Row_row y0 y1 y2 y3 h Q):callP P n_ref14_Row_row #[(.pointer y0),(.int .i64 y1),(.int .i64 y2),(.int .i64 y3)] h Q:=
 @callP_of P n_ref14_Row_row Tryz.f222 tab_ref14_Row_row [(.pointer y0),(.int .i64 y1),(.int .i64 y2),(.int .i64 y3)] h Q mixed Tryz.func222 Tryz.call222 (by kernel_rfl) (Eq.mpr (by kernel_rfl) H)
def ref14_Made_j22 (Q:VH) (y0:Option Addr) (t8 y9:Addr) (y10:Int) (y14:Addr) (y15:Int) (h16:Heap):Prop:=
 arrI y15 12 fun _=>
 ldInt .i64 h16 (y14.add (y15.toNat*1)) fun n17=>
 stI h16 y9 (.int .i64 n17) fun h18=>
 ldInt .i64 h18 y9 fun n19=>
 ifB (n19==1) (
 ldAg A1 h18 y9 fun x20=>
 callP P n_ref14_Row_window #[(.pointer y0),(agS A1 x20)] h18 fun v22 h21=>
 exS A1 fun x23=>v22=(agS A1 x23)∧
 storeL (mkS' A1 x23) h21 y9 0 fun h24=>
 callInt P .i64 n_ref14_Row_Next #[(.pointer y0),(.int .i64 3)] h24 fun n26 h25=>
 stI h25 (y9.add 2) (.int .i64 (IntKind.wrap .i64 ((1:Int)+n26))) fun h27=>
 ldInt .i64 h27 (y9.add 2) fun n28=>
 ldInt .i64 h27 (y9.add 3) fun n29=>
 callSlice P n_ref14_Row_row #[(.pointer y0),(.int .i64 (IntKind.wrap .i64 ((IntKind.wrap .i64 (n28*n29))*y10))),(.int .i64 (-9:Int)),(.int .i64 19)] h27 fun p31 l31 c31 h30=>
 stI h30 (y9.add 8) (.slice p31 l31 c31) fun h32=>
 ldInt .i64 h32 (y9.add 2) fun n33=>
 callSlice P n_ref14_Row_row #[(.pointer y0),(.int .i64 n33),(.int .i64 (-50:Int)),(.int .i64 101)] h32 fun p35 l35 c35 h34=>
 stI h34 (y9.add 9) (.slice p35 l35 c35) fun h36=>
 ldAg A1 h36 y9 fun x37=>
 storeL (mkS' A1 x37) h36 t8 0 fun h38=>
 ldAg A1 h38 t8 fun x39=>
 Q (agS A1 x39) h38) (
 ifB (n19==2) (
 ldAg A1 h18 y9 fun x40=>
 callP P n_ref14_Row_window #[(.pointer y0),(agS A1 x40)] h18 fun v42 h41=>
 exS A1 fun x43=>v42=(agS A1 x43)∧
 storeL (mkS' A1 x43) h41 y9 0 fun h44=>
 ldInt .i64 h44 (y9.add 3) fun n45=>
 callSlice P n_ref14_Row_row #[(.pointer y0),(.int .i64 (IntKind.wrap .i64 (n45*y10))),(.int .i64 (-9:Int)),(.int .i64 19)] h44 fun p47 l47 c47 h46=>
 stI h46 (y9.add 8) (.slice p47 l47 c47) fun h48=>
 callSlice P n_ref14_Row_row #[(.pointer y0),(.int .i64 y10),(.int .i64 (-50:Int)),(.int .i64 101)] h48 fun p50 l50 c50 h49=>
 stI h49 (y9.add 9) (.slice p50 l50 c50) fun h51=>
 ldAg A1 h51 y9 fun x52=>
 storeL (mkS' A1 x52) h51 t8 0 fun h53=>
 ldAg A1 h53 t8 fun x54=>
 Q (agS A1 x54) h53) (
 ifB (n19==6) (
 callInt P .i64 n_ref14_Row_Next #[(.pointer y0),(.int .i64 3)] h18 fun n56 h55=>
 stI h55 (y9.add 2) (.int .i64 (IntKind.wrap .i64 ((1:Int)+n56))) fun h57=>
 ldInt .i64 h57 (y9.add 2) fun n58=>
 callSlice P n_ref14_Row_row #[(.pointer y0),(.int .i64 (IntKind.wrap .i64 (n58*y10))),(.int .i64 (-12:Int)),(.int .i64 25)] h57 fun p60 l60 c60 h59=>
 stI h59 (y9.add 8) (.slice p60 l60 c60) fun h61=>
 ldInt .i64 h61 (y9.add 2) fun n62=>
 callSlice P n_ref14_Row_row #[(.pointer y0),(.int .i64 n62),(.int .i64 (-5000:Int)),(.int .i64 10001)] h61 fun p64 l64 c64 h63=>
 stI h63 (y9.add 9) (.slice p64 l64 c64) fun h65=>
 ldAg A1 h65 y9 fun x66=>
 storeL (mkS' A1 x66) h65 t8 0 fun h67=>
 ldAg A1 h67 t8 fun x68=>
 Q (agS A1 x68) h67) (
 ifB (n19==3) (
 ldAg A1 h18 y9 fun x69=>
 callP P n_ref14_Row_window #[(.pointer y0),(agS A1 x69)] h18 fun v71 h70=>
 exS A1 fun x72=>v71=(agS A1 x72)∧
 storeL (mkS' A1 x72) h70 y9 0 fun h73=>
 ldAg A1 h73 y9 fun x74=>
 storeL (mkS' A1 x74) h73 t8 0 fun h75=>
 ldAg A1 h75 t8 fun x76=>
 Q (agS A1 x76) h75) (
 ifB (n19==4) (
 ldAg A1 h18 y9 fun x77=>
 callP P n_ref14_Row_window #[(.pointer y0),(agS A1 x77)] h18 fun v79 h78=>
 exS A1 fun x80=>v79=(agS A1 x80)∧
 storeL (mkS' A1 x80) h78 y9 0 fun h81=>
 ldAg A1 h81 y9 fun x82=>
 storeL (mkS' A1 x82) h81 t8 0 fun h83=>
 ldAg A1 h83 t8 fun x84=>
 Q (agS A1 x84) h83) (
 ifB (n19==12) (
 callInt P .i64 n_ref14_Row_Next #[(.pointer y0),(.int .i64 5)] h18 fun n86 h85=>
 stI h85 (y9.add 3) (.int .i64 (IntKind.wrap .i64 ((1:Int)+n86))) fun h87=>
 ldAg A1 h87 y9 fun x88=>
 storeL (mkS' A1 x88) h87 t8 0 fun h89=>
 ldAg A1 h89 t8 fun x90=>
 Q (agS A1 x90) h89) (
 ifB (n19==9) (
 callInt P .i64 n_ref14_Row_Next #[(.pointer y0),(.int .i64 200)] h18 fun n92 h91=>
 stI h91 (y9.add 12) (.int .i64 (IntKind.wrap .i64 (n92-150))) fun h93=>
 ldInt .i64 h93 (y9.add 12) fun n94=>
 callInt P .i64 n_ref14_Row_Next #[(.pointer y0),(.int .i64 300)] h93 fun n96 h95=>
 cellH h95 (y9.add 12)=some (.int .i64 n94)∧
 stI h95 (y9.add 13) (.int .i64 (IntKind.wrap .i64 (n94+n96))) fun h97=>
 ldAg A1 h97 y9 fun x98=>
 storeL (mkS' A1 x98) h97 t8 0 fun h99=>
 ldAg A1 h99 t8 fun x100=>
 Q (agS A1 x100) h99) (
 ifB (n19==10) (
 callInt P .i64 n_ref14_Row_Next #[(.pointer y0),(.int .i64 32768)] h18 fun n102 h101=>
 stI h101 (y9.add 10) (.int .i64 n102) fun h103=>
 callInt P .i64 n_ref14_Row_Next #[(.pointer y0),(.int .i64 20)] h103 fun n105 h104=>
 stI h104 (y9.add 11) (.int .i64 n105) fun h106=>
 ldAg A1 h106 y9 fun x107=>
 storeL (mkS' A1 x107) h106 t8 0 fun h108=>
 ldAg A1 h108 t8 fun x109=>
 Q (agS A1 x109) h108) (
 ldAg A1 h18 y9 fun x110=>
 storeL (mkS' A1 x110) h18 t8 0 fun h111=>
 ldAg A1 h111 t8 fun x112=>
 Q (agS A1 x112) h111))))))))
def ref14_Made_j18 (Q:VH) (y0:Option Addr) (y3:Bool) (t8 y9:Addr) (y10:Int) (h9:Heap):Prop:=
 newI h9 (.cells #[(.int .i64 0),(.int .i64 0),(.int .i64 0),(.int .i64 0),(.int .i64 0),(.int .i64 0),(.int .i64 0),(.int .i64 0),(.int .i64 0),(.int .i64 0),(.int .i64 0),(.int .i64 0)] 234 (0,0)) fun b10 h11=>
 storeL [(.int .i64 1),(.int .i64 2),(.int .i64 3),(.int .i64 4),(.int .i64 12),(.int .i64 1),(.int .i64 5),(.int .i64 6),(.int .i64 9),(.int .i64 10),(.int .i64 11),(.int .i64 6)] h11 ⟨b10,0,none⟩ 0 fun h12=>
 callInt P .i64 n_ref14_Row_Next #[(.pointer y0),(.int .i64 12)] h12 fun n14 h13=>
 ∃J15:(Option Addr×Addr×Addr×Int×Addr×Int×Unit)→Heap→Prop,(∀s h,J15 s h→ref14_Made_j22 Q s.1 s.2.1 s.2.2.1 s.2.2.2.1 s.2.2.2.2.1 s.2.2.2.2.2.1 h)∧
 ifB y3 (
 callInt P .i64 n_ref14_Row_Next #[(.pointer y0),(.int .i64 5)] h13 fun n114 h113=>
 J15 (y0,t8,y9,y10,⟨b10,0,none⟩,(IntKind.wrap .i64 ((7:Int)+n114)),()) h113) (
 J15 (y0,t8,y9,y10,⟨b10,0,none⟩,n14,()) h13)
def ref14_Made_l8 (Q:VH) (J8:(Option Addr×Bool×Addr×Addr×Int×Unit)→Heap→Prop) (K1:YH Y38) (y0:Option Addr) (y1p:OA) (y1n y1c:Nat) (y2p:OA) (y2n y2c:Nat) (y3:Bool) (t8 y9:Addr) (y10 y11:Int) (y12:Bool) (y13:Int) (h116:Heap):Prop:=
 ifB (decide (y13<(y2n:Int))) (
 idxI y2p y13 y2n fun a117=>
 ldInt .i64 h116 (a117.add (y13.toNat*1)) fun n118=>
 ifB y12 (
 idxI y2p y13 y2n fun a119=>
 ldInt .i64 h116 (a119.add (y13.toNat*1)) fun n120=>
 K1 (y0,(y1p,y1n,y1c),(y2p,y2n,y2c),y3,t8,y9,y10,(IntKind.wrap .i64 (y11+n118)),(n120==y10),(IntKind.wrap .i64 (y13+1)),()) h116) (
 K1 (y0,(y1p,y1n,y1c),(y2p,y2n,y2c),y3,t8,y9,y10,(IntKind.wrap .i64 (y11+n118)),false,(IntKind.wrap .i64 (y13+1)),()) h116)) (
 ifB y12 (
 ifB (decide (y11>16)) (
 stI h116 y9 (.int .i64 7) fun h121=>
 ldAg A1 h121 y9 fun x122=>
 storeL (mkS' A1 x122) h121 t8 0 fun h123=>
 ldAg A1 h123 t8 fun x124=>
 Q (agS A1 x124) h123) (
 callInt P .i64 n_ref14_Row_Next #[(.pointer y0),(.int .i64 2)] h116 fun n126 h125=>
 ifB (n126==0) (
 stI h125 y9 (.int .i64 7) fun h127=>
 ldAg A1 h127 y9 fun x128=>
 storeL (mkS' A1 x128) h127 t8 0 fun h129=>
 ldAg A1 h129 t8 fun x130=>
 Q (agS A1 x130) h129) (
 ifB (decide (y11≤16)) (
 ldAg A1 h125 y9 fun x131=>
 storeL (mkS' A1 x131) h125 t8 0 fun h132=>
 ldAg A1 h132 t8 fun x133=>
 Q (agS A1 x133) h132) (
 bndI 1 y1c fun l134=>
 stI h125 (y9.add 1) (.slice (if y1c=0 then y1p else Option.map (fun a=>a.add (0*1)) y1p) (l134-0) (y1c-0)) fun h135=>
 J8 (y0,y3,t8,y9,y10,()) h135)))) (
 ifB (decide (y11≤16)) (
 ldAg A1 h116 y9 fun x136=>
 storeL (mkS' A1 x136) h116 t8 0 fun h137=>
 ldAg A1 h137 t8 fun x138=>
 Q (agS A1 x138) h137) (
 bndI 1 y1c fun l139=>
 stI h116 (y9.add 1) (.slice (if y1c=0 then y1p else Option.map (fun a=>a.add (0*1)) y1p) (l139-0) (y1c-0)) fun h140=>
 J8 (y0,y3,t8,y9,y10,()) h140)))
def ref14_Made (y0:Option Addr) (y1p:OA) (y1n y1c:Nat) (y2p:OA) (y2n y2c:Nat) (y3:Bool) (h:Heap) (Q:VH):Prop:=
 newI h (.cells (mkS' A1 (zT A1)).toArray 62 (0,0)) fun b1 h2=>
 newI h2 (.cells (mkS' A1 (zT A1)).toArray 62 (0,0)) fun b3 h4=>
 storeL [(.int .i64 0),(.slice y1p y1n y1c),(.int .i64 0),(.int .i64 0),(.int .i64 0),(.int .i64 0),(.int .i64 0),(.int .i64 0),(.slice none 0 0),(.slice none 0 0),(.int .i64 0),(.int .i64 0),(.int .i64 0),(.int .i64 0),(.int .i64 0)] h4 ⟨b3,0,none⟩ 0 fun h5=>
 idxI y2p 0 y2n fun a6=>
 ldInt .i64 h5 (a6.add ((0:Int).toNat*1)) fun n7=>
 ∃J8:(Option Addr×Bool×Addr×Addr×Int×Unit)→Heap→Prop,(∀s h,J8 s h→ref14_Made_j18 Q s.1 s.2.1 s.2.2.1 s.2.2.2.1 s.2.2.2.2.1 h)∧
 ifB (decide ((y1n:Int)>1)) (
 stI h5 ⟨b3,0,none⟩ (.int .i64 8) fun h115=>
 LoopS (S:=Y38) (fun K1 s h=>ref14_Made_l8 Q J8 K1 s.1 s.2.1.1 s.2.1.2.1 s.2.1.2.2 s.2.2.1.1 s.2.2.1.2.1 s.2.2.1.2.2 s.2.2.2.1 s.2.2.2.2.1 s.2.2.2.2.2.1 s.2.2.2.2.2.2.1 s.2.2.2.2.2.2.2.1 s.2.2.2.2.2.2.2.2.1 s.2.2.2.2.2.2.2.2.2.1 h) (y0,(y1p,y1n,y1c),(y2p,y2n,y2c),y3,⟨b1,0,none⟩,⟨b3,0,none⟩,n7,(0:Int),true,(0:Int),()) h115) (
 J8 (y0,y3,⟨b1,0,none⟩,⟨b3,0,none⟩,n7,()) h5)
noncomputable def tab_ref14_Made:Tab:=tb (lookT .done [(44,(ones [0,2] (.early 1 (.alt 3 (ones [4,5] (.alt 6 .done .stop)) .stop))))]) (lookT [] [(8,[(0,.sc (.ptr)),(1,SL),(2,SL),(3,BO),(8,.sc (.adr)),(9,.sc (.adr)),(10,I6),(11,I6),(12,BO),(13,I6)])]) (lookT none [(18,some [(0,.sc (.ptr)),(3,BO),(8,.sc (.adr)),(9,.sc (.adr)),(10,I6)]),(22,some [(0,.sc (.ptr)),(8,.sc (.adr)),(9,.sc (.adr)),(10,I6),(14,.sc (.adr)),(15,I6)])])
theorem call_ref14_Made (y0:Option Addr) (y1p:OA) (y1n y1c:Nat) (y2p:OA) (y2n y2c:Nat) (y3:Bool) {h:Heap} {Q:VH} (H:ref14_Made y0 y1p y1n y1c y2p y2n y2c y3 h Q):callP P n_ref14_Made #[(.pointer y0),(.slice y1p y1n y1c),(.slice y2p y2n y2c),(.bool y3)] h Q:=
 @callP_of P n_ref14_Made Tryz.f174 tab_ref14_Made [(.pointer y0),(.slice y1p y1n y1c),(.slice y2p y2n y2c),(.bool y3)] h Q mixed Tryz.func174 Tryz.call174 (by kernel_rfl) (Eq.mpr (by kernel_rfl) H)
def ref14_all_l2 (Q:VH) (K1:(S3×Int×Int×Int×Unit)→Heap→Prop) (y0p:OA) (y0n y0c:Nat) (y1 y2 y7:Int) (h1:Heap):Prop:=
 ifB (decide (y7<(y0n:Int))) (
 idxI y0p y7 y0n fun a2=>
 ldInt .i64 h1 (a2.add (y7.toNat*1)) fun n3=>
 ifB (decide (n3<y1)) (
 Q (.bool false) h1) (
 idxI y0p y7 y0n fun a4=>
 ldInt .i64 h1 (a4.add (y7.toNat*1)) fun n5=>
 ifB (decide (n5>y2)) (
 Q (.bool false) h1) (
 K1 ((y0p,y0n,y0c),y1,y2,(IntKind.wrap .i64 (y7+1)),()) h1))) (
 Q (.bool true) h1)
def ref14_all (y0p:OA) (y0n y0c:Nat) (y1 y2:Int) (h:Heap) (Q:VH):Prop:=
 LoopS (S:=(S3×Int×Int×Int×Unit)) (fun K1 s h=>ref14_all_l2 Q K1 s.1.1 s.1.2.1 s.1.2.2 s.2.1 s.2.2.1 s.2.2.2.1 h) ((y0p,y0n,y0c),y1,y2,(0:Int),()) h
noncomputable def tab_ref14_all:Tab:=tb (lookT .done []) (lookT [] [(2,[(0,SL),(1,I6),(2,I6),(7,I6)])]) (lookT none [])
theorem call_ref14_all (y0p:OA) (y0n y0c:Nat) (y1 y2:Int) {h:Heap} {Q:VH} (H:ref14_all y0p y0n y0c y1 y2 h Q):callP P n_ref14_all #[(.slice y0p y0n y0c),(.int .i64 y1),(.int .i64 y2)] h Q:=
 @callP_of P n_ref14_all Tryz.f203 tab_ref14_all [(.slice y0p y0n y0c),(.int .i64 y1),(.int .i64 y2)] h Q mixed Tryz.func203 Tryz.call203 (by kernel_rfl) (Eq.mpr (by kernel_rfl) H)
def ref14_in (y0 y1 y2:Int) (h:Heap) (Q:VH):Prop:=
 ifB (decide (y0≥y1)) (
 Q (.bool (decide (y0≤y2))) h) (
 Q (.bool false) h)
noncomputable def tab_ref14_in:Tab:=tb (lookT .done []) (lookT [] []) (lookT none [])
theorem call_ref14_in (y0 y1 y2:Int) {h:Heap} {Q:VH} (H:ref14_in y0 y1 y2 h Q):callP P n_ref14_in #[(.int .i64 y0),(.int .i64 y1),(.int .i64 y2)] h Q:=
 @callP_of P n_ref14_in Tryz.f204 tab_ref14_in [(.int .i64 y0),(.int .i64 y1),(.int .i64 y2)] h Q mixed Tryz.func204 Tryz.call204 (by kernel_rfl) (Eq.mpr (by kernel_rfl) H)
def ref14_Many (y0:Int) (h:Heap) (Q:VH):Prop:=
 ifB (y0==7) (
 Q (.bool true) h) (
 Q (.bool (y0==8)) h)
noncomputable def tab_ref14_Many:Tab:=tb (lookT .done []) (lookT [] []) (lookT none [])
theorem call_ref14_Many (y0:Int) {h:Heap} {Q:VH} (H:ref14_Many y0 h Q):callP P n_ref14_Many #[(.int .i64 y0)] h Q:=
 @callP_of P n_ref14_Many Tryz.f172 tab_ref14_Many [(.int .i64 y0)] h Q mixed Tryz.func172 Tryz.call172 (by kernel_rfl) (Eq.mpr (by kernel_rfl) H)
def ref14_weighs (y0:Int) (h:Heap) (Q:VH):Prop:=
 ifB (y0==1) (
 Q (.bool true) h) (
 ifB (y0==2) (
 Q (.bool true) h) (
 Q (.bool (y0==6)) h))
noncomputable def tab_ref14_weighs:Tab:=tb (lookT .done []) (lookT [] []) (lookT none [])
theorem call_ref14_weighs (y0:Int) {h:Heap} {Q:VH} (H:ref14_weighs y0 h Q):callP P n_ref14_weighs #[(.int .i64 y0)] h Q:=
 @callP_of P n_ref14_weighs Tryz.f205 tab_ref14_weighs [(.int .i64 y0)] h Q mixed Tryz.func205 Tryz.call205 (by kernel_rfl) (Eq.mpr (by kernel_rfl) H)
def ref14_four (y0:Int) (h:Heap) (Q:VH):Prop:=
 ifB (y0==1) (
 Q (.bool true) h) (
 ifB (y0==2) (
 Q (.bool true) h) (
 ifB (y0==3) (
 Q (.bool true) h) (
 Q (.bool (y0==4)) h)))
noncomputable def tab_ref14_four:Tab:=tb (lookT .done []) (lookT [] []) (lookT none [])
theorem call_ref14_four (y0:Int) {h:Heap} {Q:VH} (H:ref14_four y0 h Q):callP P n_ref14_four #[(.int .i64 y0)] h Q:=
 @callP_of P n_ref14_four Tryz.f171 tab_ref14_four [(.int .i64 y0)] h Q mixed Tryz.func171 Tryz.call171 (by kernel_rfl) (Eq.mpr (by kernel_rfl) H)
def ref14_else0_j12 (Q:VH) (y1:Addr) (y6 y7:Bool) (h20:Heap):Prop:=
 ifB y6 (
 ifB y7 (
 Q (.bool true) h20) (
 ldInt .i64 h20 (y1.add 12) fun n21=>
 ifB (n21==0) (
 ldInt .i64 h20 (y1.add 13) fun n22=>
 Q (.bool (n22==0)) h20) (
 Q (.bool false) h20))) (
 ldInt .i64 h20 (y1.add 10) fun n23=>
 ifB (n23==0) (
 ldInt .i64 h20 (y1.add 11) fun n24=>
 ifB (n24==0) (
 ifB y7 (
 Q (.bool true) h20) (
 ldInt .i64 h20 (y1.add 12) fun n25=>
 ifB (n25==0) (
 ldInt .i64 h20 (y1.add 13) fun n26=>
 Q (.bool (n26==0)) h20) (
 Q (.bool false) h20))) (
 Q (.bool false) h20)) (
 Q (.bool false) h20))
def ref14_else0_j10 (Q:VH) (y1:Addr) (y4 y6 y7:Bool) (h18:Heap):Prop:=
 ∃J19:(Addr×Bool×Bool×Unit)→Heap→Prop,(∀s h,J19 s h→ref14_else0_j12 Q s.1 s.2.1 s.2.2.1 h)∧
 ifB (!y4) (
 ldSlice h18 (y1.add 8) fun p27 l27 c27=>
 ifB (decide ((l27:Int)>0)) (
 Q (.bool false) h18) (
 ldSlice h18 (y1.add 9) fun p28 l28 c28=>
 ifB (decide ((l28:Int)>0)) (
 Q (.bool false) h18) (
 J19 (y1,y6,y7,()) h18))) (
 J19 (y1,y6,y7,()) h18)
def ref14_else0_j8 (Q:VH) (y1:Addr) (y3 y4 y5 y6 y7:Bool) (h16:Heap):Prop:=
 ∃J17:(Addr×Bool×Bool×Bool×Unit)→Heap→Prop,(∀s h,J17 s h→ref14_else0_j10 Q s.1 s.2.1 s.2.2.1 s.2.2.2.1 h)∧
 ifB (!y3) (
 ldInt .i64 h16 y1 fun n29=>
 ifB (n29 !=12) (
 ldInt .i64 h16 (y1.add 3) fun n30=>
 ifB (n30 !=0) (
 Q (.bool false) h16) (
 ifB (!y5) (
 ldInt .i64 h16 (y1.add 2) fun n31=>
 ifB (n31 !=0) (
 Q (.bool false) h16) (
 J17 (y1,y4,y6,y7,()) h16)) (
 J17 (y1,y4,y6,y7,()) h16))) (
 ifB (!y5) (
 ldInt .i64 h16 (y1.add 2) fun n32=>
 ifB (n32 !=0) (
 Q (.bool false) h16) (
 J17 (y1,y4,y6,y7,()) h16)) (
 J17 (y1,y4,y6,y7,()) h16))) (
 ifB (!y5) (
 ldInt .i64 h16 (y1.add 2) fun n33=>
 ifB (n33 !=0) (
 Q (.bool false) h16) (
 J17 (y1,y4,y6,y7,()) h16)) (
 J17 (y1,y4,y6,y7,()) h16))
def ref14_else0_j6 (Q:VH) (y1:Addr) (y3 y4 y5 y6 y7:Bool) (h14:Heap):Prop:=
 ∃J15:(Addr×Bool×Bool×Bool×Bool×Bool×Unit)→Heap→Prop,(∀s h,J15 s h→ref14_else0_j8 Q s.1 s.2.1 s.2.2.1 s.2.2.2.1 s.2.2.2.2.1 s.2.2.2.2.2.1 h)∧
 ifB (!y3) (
 ldInt .i64 h14 (y1.add 4) fun n34=>
 ifB (n34 !=0) (
 Q (.bool false) h14) (
 ldInt .i64 h14 (y1.add 5) fun n35=>
 ifB (n35 !=0) (
 Q (.bool false) h14) (
 ldInt .i64 h14 (y1.add 6) fun n36=>
 ifB (n36 !=0) (
 Q (.bool false) h14) (
 ldInt .i64 h14 (y1.add 7) fun n37=>
 ifB (n37 !=0) (
 Q (.bool false) h14) (
 J15 (y1,y3,y4,y5,y6,y7,()) h14))))) (
 J15 (y1,y3,y4,y5,y6,y7,()) h14)
def ref14_else0_j5 (Q:VH) (y1:Addr) (y3 y4 y5 y6:Bool) (h12:Heap):Prop:=
 ∃J13:(Addr×Bool×Bool×Bool×Bool×Bool×Unit)→Heap→Prop,(∀s h,J13 s h→ref14_else0_j6 Q s.1 s.2.1 s.2.2.1 s.2.2.2.1 s.2.2.2.2.1 s.2.2.2.2.2.1 h)∧
 ldInt .i64 h12 y1 fun n38=>
 ifB (n38==9) (
 J13 (y1,y3,y4,y5,y6,true,()) h12) (
 ldInt .i64 h12 (y1.add 14) fun n39=>
 J13 (y1,y3,y4,y5,y6,((andI .i64 n39 2)==2),()) h12)
def ref14_else0_j4 (Q:VH) (y1:Addr) (y3 y4 y5:Bool) (h10:Heap):Prop:=
 ∃J11:(Addr×Bool×Bool×Bool×Bool×Unit)→Heap→Prop,(∀s h,J11 s h→ref14_else0_j5 Q s.1 s.2.1 s.2.2.1 s.2.2.2.1 s.2.2.2.2.1 h)∧
 ldInt .i64 h10 y1 fun n40=>
 ifB (n40==10) (
 J11 (y1,y3,y4,y5,true,()) h10) (
 ldInt .i64 h10 (y1.add 14) fun n41=>
 J11 (y1,y3,y4,y5,((andI .i64 n41 1)==1),()) h10)
def ref14_else0 (y0:TS A1) (h:Heap) (Q:VH):Prop:=
 newI h (.cells (mkS' A1 y0).toArray 62 (0,0)) fun b1 h2=>
 ldInt .i64 h2 ⟨b1,0,none⟩ fun n3=>
 callBool P n_ref14_four #[(.int .i64 n3)] h2 fun b5 h4=>
 ldInt .i64 h4 ⟨b1,0,none⟩ fun n6=>
 callBool P n_ref14_weighs #[(.int .i64 n6)] h4 fun b8 h7=>
 ∃J9:(Addr×Bool×Bool×Bool×Unit)→Heap→Prop,(∀s h,J9 s h→ref14_else0_j4 Q s.1 s.2.1 s.2.2.1 s.2.2.2.1 h)∧
 ldInt .i64 h7 ⟨b1,0,none⟩ fun n42=>
 ifB (n42==1) (
 J9 (⟨b1,0,none⟩,b5,b8,true,()) h7) (
 ldInt .i64 h7 ⟨b1,0,none⟩ fun n43=>
 J9 (⟨b1,0,none⟩,b5,b8,(n43==6),()) h7)
noncomputable def tab_ref14_else0:Tab:=tb (lookT .done []) (lookT [] []) (lookT none [(4,some [(1,.sc (.adr)),(3,BO),(4,BO),(5,BO)]),(5,some [(1,.sc (.adr)),(3,BO),(4,BO),(5,BO),(6,BO)]),(6,some [(1,.sc (.adr)),(3,BO),(4,BO),(5,BO),(6,BO),(7,BO)]),(8,some [(1,.sc (.adr)),(3,BO),(4,BO),(5,BO),(6,BO),(7,BO)]),(10,some [(1,.sc (.adr)),(4,BO),(6,BO),(7,BO)]),(12,some [(1,.sc (.adr)),(6,BO),(7,BO)])])
theorem call_ref14_else0 (y0:TS A1) {h:Heap} {Q:VH} (H:ref14_else0 y0 h Q):callP P n_ref14_else0 #[(agS A1 y0)] h Q:=
 @callP_of P n_ref14_else0 Tryz.f206 tab_ref14_else0 [(agS A1 y0)] h Q mixed Tryz.func206 Tryz.call206 (by kernel_rfl) (Eq.mpr (by kernel_rfl) H)
def ref14_weights (y0:TS A1) (y1:Int) (h:Heap) (Q:VH):Prop:=
 newI h (.cells (mkS' A1 y0).toArray 62 (0,0)) fun b1 h2=>
 ldInt .i64 h2 ⟨b1,0,none⟩ fun n3=>
 ifB (n3==1) (
 ldInt .i64 h2 ⟨b1,2,none⟩ fun n4=>
 ldInt .i64 h2 ⟨b1,3,none⟩ fun n5=>
 Q (.int .i64 (IntKind.wrap .i64 ((IntKind.wrap .i64 (n4*n5))*y1))) h2) (
 ldInt .i64 h2 ⟨b1,0,none⟩ fun n6=>
 ifB (n6==2) (
 ldInt .i64 h2 ⟨b1,3,none⟩ fun n7=>
 Q (.int .i64 (IntKind.wrap .i64 (y1*n7))) h2) (
 ldInt .i64 h2 ⟨b1,2,none⟩ fun n8=>
 Q (.int .i64 (IntKind.wrap .i64 (n8*y1))) h2))
noncomputable def tab_ref14_weights:Tab:=tb (lookT .done []) (lookT [] []) (lookT none [])
theorem call_ref14_weights (y0:TS A1) (y1:Int) {h:Heap} {Q:VH} (H:ref14_weights y0 y1 h Q):callP P n_ref14_weights #[(agS A1 y0),(.int .i64 y1)] h Q:=
 @callP_of P n_ref14_weights Tryz.f230 tab_ref14_weights [(agS A1 y0),(.int .i64 y1)] h Q mixed Tryz.func230 Tryz.call230 (by kernel_rfl) (Eq.mpr (by kernel_rfl) H)
def ref14_sized_j23 (Q:VH) (y2:Addr) (h30:Heap):Prop:=
 ldInt .i64 h30 (y2.add 10) fun n31=>
 callBool P n_ref14_in #[(.int .i64 n31),(.int .i64 0),(.int .i64 32767)] h30 fun b33 h32=>
 ldInt .i64 h32 (y2.add 11) fun n34=>
 callBool P n_ref14_in #[(.int .i64 n34),(.int .i64 0),(.int .i64 30)] h32 fun b36 h35=>
 ldInt .i64 h35 (y2.add 12) fun n37=>
 callBool P n_ref14_in #[(.int .i64 n37),(.int .i64 (-2147483648:Int)),(.int .i64 2147483647)] h35 fun b39 h38=>
 ldInt .i64 h38 (y2.add 13) fun n40=>
 callBool P n_ref14_in #[(.int .i64 n40),(.int .i64 (-2147483648:Int)),(.int .i64 2147483647)] h38 fun b42 h41=>
 ifB b33 (
 ifB b36 (
 ifB b39 (
 ifB b42 (
 ldInt .i64 h41 (y2.add 12) fun n43=>
 ldInt .i64 h41 (y2.add 13) fun n44=>
 Q (.bool (decide (n43≤n44))) h41) (
 Q (.bool false) h41)) (
 Q (.bool false) h41)) (
 Q (.bool false) h41)) (
 Q (.bool false) h41)
def ref14_sized_j19 (Q:VH) (J29:(Addr×Unit)→Heap→Prop) (y1:Int) (y2:Addr) (y11:Int) (h47:Heap):Prop:=
 ldSlice h47 (y2.add 8) fun p48 l48 c48=>
 callBool P n_ref14_all #[(.slice p48 l48 c48),(.int .i64 (-128:Int)),(.int .i64 127)] h47 fun b50 h49=>
 ldSlice h49 (y2.add 9) fun p51 l51 c51=>
 callBool P n_ref14_all #[(.slice p51 l51 c51),(.int .i64 (-16777216:Int)),(.int .i64 16777216)] h49 fun b53 h52=>
 ldAg A1 h52 y2 fun x54=>
 ldSlice h52 (y2.add 8) fun p55 l55 c55=>
 callInt P .i64 n_ref14_weights #[(agS A1 x54),(.int .i64 y1)] h52 fun n57 h56=>
 cellH h56 (y2.add 8)=some (.slice p55 l55 c55)∧
 ifB ((l55:Int) !=n57) (
 Q (.bool false) h56) (
 ldSlice h56 (y2.add 9) fun p58 l58 c58=>
 ifB ((l58:Int) !=y11) (
 Q (.bool false) h56) (
 ifB (!b50) (
 Q (.bool false) h56) (
 ifB (!b53) (
 Q (.bool false) h56) (
 J29 (y2,()) h56))))
def ref14_sized_j15 (Q:VH) (y1:Int) (y2:Addr) (y6:Bool) (h28:Heap):Prop:=
 ∃J29:(Addr×Unit)→Heap→Prop,(∀s h,J29 s h→ref14_sized_j23 Q s.1 h)∧
 ifB y6 (
 ldInt .i64 h28 (y2.add 2) fun n45=>
 ∃J46:(Int×Addr×Int×Unit)→Heap→Prop,(∀s h,J46 s h→ref14_sized_j19 Q J29 s.1 s.2.1 s.2.2.1 h)∧
 ldInt .i64 h28 y2 fun n59=>
 ifB (n59==2) (
 J46 (y1,y2,y1,()) h28) (
 J46 (y1,y2,n45,()) h28)) (
 J29 (y2,()) h28)
def ref14_sized_j12 (Q:VH) (y1:Int) (y2:Addr) (y6:Bool) (h23:Heap):Prop:=
 ldInt .i64 h23 (y2.add 2) fun n24=>
 callBool P n_ref14_in #[(.int .i64 n24),(.int .i64 1),(.int .i64 16)] h23 fun b26 h25=>
 ∃J27:(Int×Addr×Bool×Unit)→Heap→Prop,(∀s h,J27 s h→ref14_sized_j15 Q s.1 s.2.1 s.2.2.1 h)∧
 ldInt .i64 h25 y2 fun n60=>
 ifB (n60==1) (
 ifB (!b26) (
 Q (.bool false) h25) (
 J27 (y1,y2,y6,()) h25)) (
 ldInt .i64 h25 y2 fun n61=>
 ifB (n61==6) (
 ifB (!b26) (
 Q (.bool false) h25) (
 J27 (y1,y2,y6,()) h25)) (
 J27 (y1,y2,y6,()) h25))
def ref14_sized_j10 (Q:VH) (y1:Int) (y2:Addr) (y5 y6:Bool) (h21:Heap):Prop:=
 ∃J22:(Int×Addr×Bool×Unit)→Heap→Prop,(∀s h,J22 s h→ref14_sized_j12 Q s.1 s.2.1 s.2.2.1 h)∧
 ifB y5 (
 ldInt .i64 h21 (y2.add 6) fun n62=>
 ifB (decide (n62<0)) (
 Q (.bool false) h21) (
 ldInt .i64 h21 (y2.add 6) fun n63=>
 ldAg A1 h21 y2 fun x64=>
 callInt P .i64 n_ref14_Span #[(agS A1 x64)] h21 fun n66 h65=>
 cellH h65 (y2.add 6)=some (.int .i64 n63)∧
 ifB (decide (n63≥n66)) (
 cellH h65 (y2.add 6)=some (.int .i64 n63)∧
 Q (.bool false) h65) (
 ldInt .i64 h65 (y2.add 7) fun n67=>
 ifB (decide (n67<0)) (
 cellH h65 (y2.add 6)=some (.int .i64 n63)∧
 Q (.bool false) h65) (
 ldAg A1 h65 y2 fun x68=>
 ldInt .i64 h65 (y2.add 7) fun n69=>
 callInt P .i64 n_ref14_Span #[(agS A1 x68)] h65 fun n71 h70=>
 cellH h70 (y2.add 7)=some (.int .i64 n69)∧
 cellH h70 (y2.add 6)=some (.int .i64 n63)∧
 ifB (decide (n69≥n71)) (
 Q (.bool false) h70) (
 J22 (y1,y2,y6,()) h70))))) (
 J22 (y1,y2,y6,()) h21)
def ref14_sized_j6 (Q:VH) (y1:Int) (y2:Addr) (y5 y6:Bool) (h13:Heap):Prop:=
 ldInt .i64 h13 (y2.add 4) fun n14=>
 callBool P n_ref14_in #[(.int .i64 n14),(.int .i64 1),(.int .i64 4)] h13 fun b16 h15=>
 ldInt .i64 h15 (y2.add 5) fun n17=>
 callBool P n_ref14_in #[(.int .i64 n17),(.int .i64 1),(.int .i64 4)] h15 fun b19 h18=>
 ∃J20:(Int×Addr×Bool×Bool×Unit)→Heap→Prop,(∀s h,J20 s h→ref14_sized_j10 Q s.1 s.2.1 s.2.2.1 s.2.2.2.1 h)∧
 ifB y5 (
 ifB (!b16) (
 Q (.bool false) h18) (
 ifB (!b19) (
 Q (.bool false) h18) (
 J20 (y1,y2,y5,y6,()) h18))) (
 J20 (y1,y2,y5,y6,()) h18)
def ref14_sized (y0:TS A1) (y1:Int) (h:Heap) (Q:VH):Prop:=
 newI h (.cells (mkS' A1 y0).toArray 62 (0,0)) fun b1 h2=>
 ldInt .i64 h2 ⟨b1,0,none⟩ fun n3=>
 callBool P n_ref14_four #[(.int .i64 n3)] h2 fun b5 h4=>
 ldInt .i64 h4 ⟨b1,0,none⟩ fun n6=>
 callBool P n_ref14_weighs #[(.int .i64 n6)] h4 fun b8 h7=>
 ldInt .i64 h7 ⟨b1,3,none⟩ fun n9=>
 callBool P n_ref14_in #[(.int .i64 n9),(.int .i64 1),(.int .i64 8)] h7 fun b11 h10=>
 ∃J12:(Int×Addr×Bool×Bool×Unit)→Heap→Prop,(∀s h,J12 s h→ref14_sized_j6 Q s.1 s.2.1 s.2.2.1 s.2.2.2.1 h)∧
 ifB b5 (
 ifB (!b11) (
 Q (.bool false) h10) (
 J12 (y1,⟨b1,0,none⟩,b5,b8,()) h10)) (
 ldInt .i64 h10 ⟨b1,0,none⟩ fun n72=>
 ifB (n72==12) (
 ifB (!b11) (
 Q (.bool false) h10) (
 J12 (y1,⟨b1,0,none⟩,b5,b8,()) h10)) (
 J12 (y1,⟨b1,0,none⟩,b5,b8,()) h10))
noncomputable def tab_ref14_sized:Tab:=tb (lookT .done [(10,(ones [0,1,2] (.alt 3 (ones [4,5,6] (.early 7 (.alt 8 (.alt 9 (ones [10,11,12,13] (.alt 14 (ones [15,16,17,18,20] (.early 19 (.alt 21 (ones [22,23,24] .done) .stop))) .stop)) .stop) .stop))) .stop))),(21,(ones [0,4,3] (.early 1 (ones [2] (.alt 5 (ones [6,7,8,11,9,10,12,13,14,15,16,17,18,19,20,21] .done) .stop)))))]) (lookT [] []) (lookT none [(6,some [(1,I6),(2,.sc (.adr)),(5,BO),(6,BO)]),(10,some [(1,I6),(2,.sc (.adr)),(5,BO),(6,BO)]),(12,some [(1,I6),(2,.sc (.adr)),(6,BO)]),(15,some [(1,I6),(2,.sc (.adr)),(6,BO)]),(19,some [(1,I6),(2,.sc (.adr)),(11,I6)]),(23,some [(2,.sc (.adr))])])
theorem call_ref14_sized (y0:TS A1) (y1:Int) {h:Heap} {Q:VH} (H:ref14_sized y0 y1 h Q):callP P n_ref14_sized #[(agS A1 y0),(.int .i64 y1)] h Q:=
 @callP_of P n_ref14_sized Tryz.f207 tab_ref14_sized [(agS A1 y0),(.int .i64 y1)] h Q mixed Tryz.func207 Tryz.call207 (by kernel_rfl) (Eq.mpr (by kernel_rfl) H)
def ref14_Check_l19 (Q:VH) (K1:(S3×Addr×Int×Int×Unit)→Heap→Prop) (y1p:OA) (y1n y1c:Nat) (y2:Addr) (y11 y12:Int) (h28:Heap):Prop:=
 ifB (decide (y12<(y1n:Int))) (
 idxI y1p y12 y1n fun a29=>
 ldInt .i64 h28 (a29.add (y12.toNat*1)) fun n30=>
 ldInt .i64 h28 y2 fun n31=>
 ifB (n31==7) (
 idxI y1p y12 y1n fun a32=>
 idxI y1p 0 y1n fun a33=>
 ldInt .i64 h28 (a32.add (y12.toNat*1)) fun n34=>
 ldInt .i64 h28 (a33.add ((0:Int).toNat*1)) fun n35=>
 ifB (n34 !=n35) (
 Q (.int .i64 14) h28) (
 K1 ((y1p,y1n,y1c),y2,(IntKind.wrap .i64 (y11+n30)),(IntKind.wrap .i64 (y12+1)),()) h28)) (
 K1 ((y1p,y1n,y1c),y2,(IntKind.wrap .i64 (y11+n30)),(IntKind.wrap .i64 (y12+1)),()) h28)) (
 ldInt .i64 h28 y2 fun n36=>
 ifB (n36==8) (
 ifB (decide (y11>16)) (
 Q (.int .i64 14) h28) (
 Q (.int .i64 0) h28)) (
 Q (.int .i64 0) h28))
def ref14_Check_j11 (Q:VH) (y1p:OA) (y1n y1c:Nat) (y2:Addr) (h19:Heap):Prop:=
 ldAg A1 h19 y2 fun x20=>
 callBool P n_ref14_else0 #[(agS A1 x20)] h19 fun b22 h21=>
 ifB (!b22) (
 Q (.int .i64 12) h21) (
 idxI y1p 0 y1n fun a23=>
 ldAg A1 h21 y2 fun x24=>
 ldInt .i64 h21 (a23.add ((0:Int).toNat*1)) fun n25=>
 callBool P n_ref14_sized #[(agS A1 x24),(.int .i64 n25)] h21 fun b27 h26=>
 ifB (!b27) (
 Q (.int .i64 22) h26) (
 LoopS (S:=(S3×Addr×Int×Int×Unit)) (fun K1 s h=>ref14_Check_l19 Q K1 s.1.1 s.1.2.1 s.1.2.2 s.2.1 s.2.2.1 s.2.2.2.1 h) ((y1p,y1n,y1c),y2,(0:Int),(0:Int),()) h26))
def ref14_Check_j9 (Q:VH) (y1p:OA) (y1n y1c:Nat) (y2:Addr) (y8:Bool) (h17:Heap):Prop:=
 ∃J18:(S3×Addr×Unit)→Heap→Prop,(∀s h,J18 s h→ref14_Check_j11 Q s.1.1 s.1.2.1 s.1.2.2 s.2.1 h)∧
 ldInt .i64 h17 (y2.add 14) fun n37=>
 ifB (decide (n37<0)) (
 Q (.int .i64 12) h17) (
 ldInt .i64 h17 (y2.add 14) fun n38=>
 ifB (decide (n38>3)) (
 Q (.int .i64 12) h17) (
 ldInt .i64 h17 (y2.add 14) fun n39=>
 ifB (n39 !=0) (
 ifB (!y8) (
 Q (.int .i64 12) h17) (
 J18 ((y1p,y1n,y1c),y2,()) h17)) (
 J18 ((y1p,y1n,y1c),y2,()) h17)))
def ref14_Check_j4 (Q:VH) (y1p:OA) (y1n y1c:Nat) (y2:Addr) (h6:Heap):Prop:=
 ldInt .i64 h6 y2 fun n7=>
 callBool P n_ref14_in #[(.int .i64 n7),(.int .i64 1),(.int .i64 12)] h6 fun b9 h8=>
 ldInt .i64 h8 y2 fun n10=>
 callBool P n_ref14_Many #[(.int .i64 n10)] h8 fun b12 h11=>
 ldInt .i64 h11 y2 fun n13=>
 callBool P n_ref14_weighs #[(.int .i64 n13)] h11 fun b15 h14=>
 ∃J16:(S3×Addr×Bool×Unit)→Heap→Prop,(∀s h,J16 s h→ref14_Check_j9 Q s.1.1 s.1.2.1 s.1.2.2 s.2.1 s.2.2.1 h)∧
 ifB (!b9) (
 Q (.int .i64 12) h14) (
 ifB b12 (
 ifB (decide ((y1n:Int)<2)) (
 Q (.int .i64 12) h14) (
 ifB (decide ((y1n:Int)>4)) (
 Q (.int .i64 12) h14) (
 ifB (!b12) (
 ifB ((y1n:Int) !=1) (
 Q (.int .i64 12) h14) (
 J16 ((y1p,y1n,y1c),y2,b15,()) h14)) (
 J16 ((y1p,y1n,y1c),y2,b15,()) h14)))) (
 ifB (!b12) (
 ifB ((y1n:Int) !=1) (
 Q (.int .i64 12) h14) (
 J16 ((y1p,y1n,y1c),y2,b15,()) h14)) (
 J16 ((y1p,y1n,y1c),y2,b15,()) h14)))
def ref14_Check (y0:TS A1) (y1p:OA) (y1n y1c:Nat) (h:Heap) (Q:VH):Prop:=
 newI h (.cells (mkS' A1 y0).toArray 62 (0,0)) fun b1 h2=>
 callBool P n_ref14_all #[(.slice y1p y1n y1c),(.int .i64 1),(.int .i64 16)] h2 fun b4 h3=>
 ∃J5:(S3×Addr×Unit)→Heap→Prop,(∀s h,J5 s h→ref14_Check_j4 Q s.1.1 s.1.2.1 s.1.2.2 s.2.1 h)∧
 ldSlice h3 ⟨b1,1,none⟩ fun p40 l40 c40=>
 ifB ((y1n:Int) !=(l40:Int)) (
 Q (.int .i64 1) h3) (
 ifB (!b4) (
 Q (.int .i64 1) h3) (
 J5 ((y1p,y1n,y1c),⟨b1,0,none⟩,()) h3))
noncomputable def tab_ref14_Check:Tab:=tb (lookT .done [(14,(ones [1,2,0,3] (.alt 4 (ones [5] .done) .stop))),(22,(ones [0,1,2,3,4,5,6,8,9,7,10,11,12] .done))]) (lookT [] [(19,[(1,SL),(2,.sc (.adr)),(11,I6),(12,I6)])]) (lookT none [(4,some [(1,SL),(2,.sc (.adr))]),(9,some [(1,SL),(2,.sc (.adr)),(8,BO)]),(11,some [(1,SL),(2,.sc (.adr))])])
theorem call_ref14_Check (y0:TS A1) (y1p:OA) (y1n y1c:Nat) {h:Heap} {Q:VH} (H:ref14_Check y0 y1p y1n y1c h Q):callP P n_ref14_Check #[(agS A1 y0),(.slice y1p y1n y1c)] h Q:=
 @callP_of P n_ref14_Check Tryz.f149 tab_ref14_Check [(agS A1 y0),(.slice y1p y1n y1c)] h Q mixed Tryz.func149 Tryz.call149 (by kernel_rfl) (Eq.mpr (by kernel_rfl) H)
def ref14_Width_l11 (Q:VH) (K1:(S3×Int×Int×Unit)→Heap→Prop) (y1p:OA) (y1n y1c:Nat) (y5 y6:Int) (h12:Heap):Prop:=
 ifB (decide (y6<(y1n:Int))) (
 idxI y1p y6 y1n fun a13=>
 ldInt .i64 h12 (a13.add (y6.toNat*1)) fun n14=>
 K1 ((y1p,y1n,y1c),(IntKind.wrap .i64 (y5+n14)),(IntKind.wrap .i64 (y6+1)),()) h12) (
 Q (.int .i64 y5) h12)
def ref14_Width_j5 (Q:VH) (y1p:OA) (y1n y1c:Nat) (y2:Addr) (h7:Heap):Prop:=
 ldInt .i64 h7 y2 fun n8=>
 ifB (n8==11) (
 Q (.int .i64 1) h7) (
 ldInt .i64 h7 y2 fun n9=>
 ifB (n9 !=8) (
 idxI y1p 0 y1n fun a10=>
 ldInt .i64 h7 (a10.add ((0:Int).toNat*1)) fun n11=>
 Q (.int .i64 n11) h7) (
 LoopS (S:=(S3×Int×Int×Unit)) (fun K1 s h=>ref14_Width_l11 Q K1 s.1.1 s.1.2.1 s.1.2.2 s.2.1 s.2.2.1 h) ((y1p,y1n,y1c),(0:Int),(0:Int),()) h7))
def ref14_Width (y0:TS A1) (y1p:OA) (y1n y1c:Nat) (h:Heap) (Q:VH):Prop:=
 newI h (.cells (mkS' A1 y0).toArray 62 (0,0)) fun b1 h2=>
 ldAg A1 h2 ⟨b1,0,none⟩ fun x3=>
 callInt P .i64 n_ref14_Check #[(agS A1 x3),(.slice y1p y1n y1c)] h2 fun n5 h4=>
 ifB (n5 !=0) (
 Q (.int .i64 0) h4) (
 ∃J6:(S3×Addr×Unit)→Heap→Prop,(∀s h,J6 s h→ref14_Width_j5 Q s.1.1 s.1.2.1 s.1.2.2 s.2.1 h)∧
 ldInt .i64 h4 ⟨b1,0,none⟩ fun n15=>
 ifB (n15==1) (
 ldInt .i64 h4 ⟨b1,2,none⟩ fun n16=>
 Q (.int .i64 n16) h4) (
 ldInt .i64 h4 ⟨b1,0,none⟩ fun n17=>
 ifB (n17==6) (
 ldInt .i64 h4 ⟨b1,2,none⟩ fun n18=>
 Q (.int .i64 n18) h4) (
 J6 ((y1p,y1n,y1c),⟨b1,0,none⟩,()) h4)))
noncomputable def tab_ref14_Width:Tab:=tb (lookT .done []) (lookT [] [(11,[(1,SL),(5,I6),(6,I6)])]) (lookT none [(5,some [(1,SL),(2,.sc (.adr))])])
theorem call_ref14_Width (y0:TS A1) (y1p:OA) (y1n y1c:Nat) {h:Heap} {Q:VH} (H:ref14_Width y0 y1p y1n y1c h Q):callP P n_ref14_Width #[(agS A1 y0),(.slice y1p y1n y1c)] h Q:=
 @callP_of P n_ref14_Width Tryz.f150 tab_ref14_Width [(agS A1 y0),(.slice y1p y1n y1c)] h Q mixed Tryz.func150 Tryz.call150 (by kernel_rfl) (Eq.mpr (by kernel_rfl) H)
def ref14_Step (y0:TS A1) (h:Heap) (Q:VH):Prop:=
 newI h (.cells (mkS' A1 y0).toArray 62 (0,0)) fun b1 h2=>
 ldInt .i64 h2 ⟨b1,0,none⟩ fun n3=>
 callBool P n_ref14_four #[(.int .i64 n3)] h2 fun b5 h4=>
 ifB b5 (
 ldInt .i64 h4 ⟨b1,4,none⟩ fun n6=>
 Q (.int .i64 n6) h4) (
 Q (.int .i64 1) h4)
noncomputable def tab_ref14_Step:Tab:=tb (lookT .done []) (lookT [] []) (lookT none [])
theorem call_ref14_Step (y0:TS A1) {h:Heap} {Q:VH} (H:ref14_Step y0 h Q):callP P n_ref14_Step #[(agS A1 y0)] h Q:=
 @callP_of P n_ref14_Step Tryz.f208 tab_ref14_Step [(agS A1 y0)] h Q mixed Tryz.func208 Tryz.call208 (by kernel_rfl) (Eq.mpr (by kernel_rfl) H)
def ref15_rate_l3 (Q:VH) (K1:(S3×Addr×Int×Int×Unit)→Heap→Prop) (y1p:OA) (y1n y1c:Nat) (y2:Addr) (y5 y6:Int) (h5:Heap):Prop:=
 ifB (decide (y6<(y1n:Int))) (
 idxI y1p y6 y1n fun a6=>
 ldInt .i64 h5 (a6.add (y6.toNat*1)) fun n7=>
 ifB (n7 !=y5) (
 Q (.int .i64 (-1:Int)) h5) (
 K1 ((y1p,y1n,y1c),y2,y5,(IntKind.wrap .i64 (y6+1)),()) h5)) (
 ldInt .i64 h5 y2 fun n8=>
 callBool P n_ref14_Windows #[(.int .i64 n8)] h5 fun b10 h9=>
 ifB (y5==0) (
 ifB b10 (
 Q (.int .i64 (-1:Int)) h9) (
 ldInt .i64 h9 y2 fun n11=>
 ifB (n11==5) (
 Q (.int .i64 (-1:Int)) h9) (
 ldInt .i64 h9 y2 fun n12=>
 ifB (n12==5) (
 Q (.int .i64 0) h9) (
 ldAg A1 h9 y2 fun x13=>
 callInt P .i64 n_ref14_Step #[(agS A1 x13)] h9 fun n15 h14=>
 Q (.int .i64 (IntKind.wrap .i64 (y5*n15))) h14)))) (
 ldInt .i64 h9 y2 fun n16=>
 ifB (n16==5) (
 Q (.int .i64 0) h9) (
 ldAg A1 h9 y2 fun x17=>
 callInt P .i64 n_ref14_Step #[(agS A1 x17)] h9 fun n19 h18=>
 Q (.int .i64 (IntKind.wrap .i64 (y5*n19))) h18)))
def ref15_rate (y0:TS A1) (y1p:OA) (y1n y1c:Nat) (h:Heap) (Q:VH):Prop:=
 newI h (.cells (mkS' A1 y0).toArray 62 (0,0)) fun b1 h2=>
 idxI y1p 0 y1n fun a3=>
 ldInt .i64 h2 (a3.add ((0:Int).toNat*1)) fun n4=>
 LoopS (S:=(S3×Addr×Int×Int×Unit)) (fun K1 s h=>ref15_rate_l3 Q K1 s.1.1 s.1.2.1 s.1.2.2 s.2.1 s.2.2.1 s.2.2.2.1 h) ((y1p,y1n,y1c),⟨b1,0,none⟩,n4,(0:Int),()) h2
noncomputable def tab_ref15_rate:Tab:=tb (lookT .done []) (lookT [] [(3,[(1,SL),(2,.sc (.adr)),(5,I6),(6,I6)])]) (lookT none [])
theorem call_ref15_rate (y0:TS A1) (y1p:OA) (y1n y1c:Nat) {h:Heap} {Q:VH} (H:ref15_rate y0 y1p y1n y1c h Q):callP P n_ref15_rate #[(agS A1 y0),(.slice y1p y1n y1c)] h Q:=
 @callP_of P n_ref15_rate Tryz.f175 tab_ref15_rate [(agS A1 y0),(.slice y1p y1n y1c)] h Q mixed Tryz.func175 Tryz.call175 (by kernel_rfl) (Eq.mpr (by kernel_rfl) H)
def ref15_turned_l9 (Q:VH) (K1:(Addr×Addr×Int×Addr×Int×Unit)→Heap→Prop) (K2:YH Y39) (y1 t2:Addr) (y3:Int) (y4:Addr) (y5:Int) (y6:Addr) (y7p:OA) (y7n y7c:Nat) (y8:Int) (h25:Heap):Prop:=
 ifB (decide (y8<(y7n:Int))) (
 idxI y7p y8 y7n fun a26=>
 ldInt .i64 h25 (a26.add (y8.toNat*1)) fun n27=>
 ifB (decide (n27>0)) (
 idxI y7p y8 y7n fun a28=>
 ldInt .i64 h25 (a28.add (y8.toNat*1)) fun n29=>
 idxI y7p y8 y7n fun a30=>
 stI h25 (a30.add (y8.toNat*1)) (.int .i64 (IntKind.wrap .i64 ((IntKind.wrap .i64 (y3+1))-n29))) fun h31=>
 K2 (y1,t2,y3,y4,y5,y6,(y7p,y7n,y7c),(IntKind.wrap .i64 (y8+1)),()) h31) (
 K2 (y1,t2,y3,y4,y5,y6,(y7p,y7n,y7c),(IntKind.wrap .i64 (y8+1)),()) h25)) (
 stI h25 (y6.add 1) (.slice y7p y7n y7c) fun h32=>
 ldSlice h32 (y4.add 3) fun p33 l33 c33=>
 ldAg A1 h32 y6 fun x34=>
 newI h32 (.cells (mkS' A1 x34).toArray 62 (0,0)) fun b35 h36=>
 appI 62 15 168 (agS A1 (zT A1)) p33 l33 c33 (some ⟨b35,0,none⟩) 1 h36 fun p37 l37 c37 h38=>
 stI h38 (y4.add 3) (.slice p37 l37 c37) fun h39=>
 K1 (y1,t2,y3,y4,(IntKind.wrap .i64 (y5-1)),()) h39)
def ref15_turned_l4 (Q:VH) (K1:(Addr×Addr×Int×Addr×Int×Unit)→Heap→Prop) (y1 t2:Addr) (y3:Int) (y4:Addr) (y5:Int) (h13:Heap):Prop:=
 ifB (decide (y5≥1)) (
 ldSlice h13 (y1.add 3) fun p14 l14 c14=>
 idxI p14 (IntKind.wrap .i64 (y5-1)) l14 fun a15=>
 ldAg A1 h13 (a15.add ((IntKind.wrap .i64 (y5-1)).toNat*15)) fun x16=>
 newI h13 (.cells (mkS' A1 (zT A1)).toArray 62 (0,0)) fun b17 h18=>
 storeL (mkS' A1 x16) h18 ⟨b17,0,none⟩ 0 fun h19=>
 newI h19 (.cells #[] 3 (0,0)) fun b20 h21=>
 ldSlice h21 ⟨b17,1,none⟩ fun p22 l22 c22=>
 appI 3 1 8 (.int .i64 0) (some ⟨b20,0,none⟩) 0 0 p22 l22 h21 fun p23 l23 c23 h24=>
 LoopS (S:=Y39) (fun K2 s h=>ref15_turned_l9 Q K1 K2 s.1 s.2.1 s.2.2.1 s.2.2.2.1 s.2.2.2.2.1 s.2.2.2.2.2.1 s.2.2.2.2.2.2.1.1 s.2.2.2.2.2.2.1.2.1 s.2.2.2.2.2.2.1.2.2 s.2.2.2.2.2.2.2.1 h) (y1,t2,y3,y4,y5,⟨b17,0,none⟩,(p23,l23,c23),(0:Int),()) h24) (
 ldAg A2 h13 y4 fun x40=>
 storeL (mkS' A2 x40) h13 t2 0 fun h41=>
 ldAg A2 h41 t2 fun x42=>
 Q (agS A2 x42) h41)
def ref15_turned (y0:TS A2) (h:Heap) (Q:VH):Prop:=
 newI h (.cells (mkS' A2 y0).toArray 32 (0,0)) fun b1 h2=>
 newI h2 (.cells (mkS' A2 (zT A2)).toArray 32 (0,0)) fun b3 h4=>
 ldSlice h4 ⟨b1,3,none⟩ fun p5 l5 c5=>
 ldInt .i64 h4 ⟨b1,0,none⟩ fun n6=>
 ldInt .i64 h4 ⟨b1,1,none⟩ fun n7=>
 ldInt .i64 h4 ⟨b1,2,none⟩ fun n8=>
 ldInt .i64 h4 ⟨b1,4,none⟩ fun n9=>
 newI h4 (.cells (mkS' A2 (zT A2)).toArray 32 (0,0)) fun b10 h11=>
 storeL [(.int .i64 n6),(.int .i64 n7),(.int .i64 n8),(.slice none 0 0),(.int .i64 (IntKind.wrap .i64 ((IntKind.wrap .i64 ((l5:Int)+1))-n9)))] h11 ⟨b10,0,none⟩ 0 fun h12=>
 LoopS (S:=(Addr×Addr×Int×Addr×Int×Unit)) (fun K1 s h=>ref15_turned_l4 Q K1 s.1 s.2.1 s.2.2.1 s.2.2.2.1 s.2.2.2.2.1 h) (⟨b1,0,none⟩,⟨b3,0,none⟩,(l5:Int),⟨b10,0,none⟩,(l5:Int),()) h12
noncomputable def tab_ref15_turned:Tab:=tb (lookT .done []) (lookT [] [(4,[(1,.sc (.adr)),(2,.sc (.adr)),(3,I6),(4,.sc (.adr)),(5,I6)]),(9,[(1,.sc (.adr)),(2,.sc (.adr)),(3,I6),(4,.sc (.adr)),(5,I6),(6,.sc (.adr)),(7,SL),(8,I6)])]) (lookT none [])
theorem call_ref15_turned (y0:TS A2) {h:Heap} {Q:VH} (H:ref15_turned y0 h Q):callP P n_ref15_turned #[(agS A2 y0)] h Q:=
 @callP_of P n_ref15_turned Tryz.f176 tab_ref15_turned [(agS A2 y0)] h Q mixed Tryz.func176 Tryz.call176 (by kernel_rfl) (Eq.mpr (by kernel_rfl) H)
def ref15_Made_j23 (Q:VH) (K1:YH Y40) (t2 y3 y4:Addr) (y5:Bool) (y6:Int) (y7p:OA) (y7n y7c:Nat) (y8p:OA) (y8n y8c:Nat) (y9 y10:Int) (y11p:OA) (y11n y11c:Nat) (y12p:OA) (y12n y12c:Nat) (h39:Heap):Prop:=
 idxI y8p y10 y8n fun a40=>
 ldInt .i64 h39 (a40.add (y10.toNat*1)) fun n41=>
 callP P n_ref14_Made #[(.pointer (some y3)),(.slice y11p y11n y11c),(.slice y12p y12n y12c),(.bool (n41==0))] h39 fun v43 h42=>
 exS A1 fun x44=>v43=(agS A1 x44)∧
 newI h42 (.cells (mkS' A1 (zT A1)).toArray 62 (0,0)) fun b45 h46=>
 storeL (mkS' A1 x44) h46 ⟨b45,0,none⟩ 0 fun h47=>
 ldSlice h47 (y4.add 3) fun p48 l48 c48=>
 ldAg A1 h47 ⟨b45,0,none⟩ fun x49=>
 newI h47 (.cells (mkS' A1 x49).toArray 62 (0,0)) fun b50 h51=>
 appI 62 15 168 (agS A1 (zT A1)) p48 l48 c48 (some ⟨b50,0,none⟩) 1 h51 fun p52 l52 c52 h53=>
 stI h53 (y4.add 3) (.slice p52 l52 c52) fun h54=>
 ldAg A1 h54 ⟨b45,0,none⟩ fun x55=>
 ldSlice h54 ⟨b45,1,none⟩ fun p56 l56 c56=>
 bndI (l56:Int) y12c fun l57=>
 callInt P .i64 n_ref14_Width #[(agS A1 x55),(.slice (if y12c=0 then y12p else Option.map (fun a=>a.add (0*1)) y12p) (l57-0) (y12c-0))] h54 fun n59 h58=>
 newI h58 (.cells #[(.int .i64 n59)] 3 (0,0)) fun b60 h61=>
 appI 3 1 8 (.int .i64 0) y7p y7n y7c (some ⟨b60,0,none⟩) 1 h61 fun p62 l62 c62 h63=>
 holdW (watchL 0 ⟨b45,0,none⟩ (mkS' A1 x55) 0) h63 (
 idxI y8p y10 y8n fun a64=>
 ldAg A1 h63 ⟨b45,0,none⟩ fun x65=>
 ldInt .i64 h63 (a64.add (y10.toNat*1)) fun n66=>
 newI h63 (.cells #[(.int .i64 n66)] 3 (0,0)) fun b67 h68=>
 callInt P .i64 n_ref15_rate #[(agS A1 x65),(.slice (some ⟨b67,0,none⟩) 1 1)] h68 fun n70 h69=>
 newI h69 (.cells #[(.int .i64 n70)] 3 (0,0)) fun b71 h72=>
 appI 3 1 8 (.int .i64 0) y8p y8n y8c (some ⟨b71,0,none⟩) 1 h72 fun p73 l73 c73 h74=>
 holdW (watchL 0 ⟨b45,0,none⟩ (mkS' A1 x65) 0) h74 (
 K1 (t2,y3,y4,y5,y6,(p62,l62,c62),(p73,l73,c73),(IntKind.wrap .i64 (y9+1)),()) h74))
def ref15_Made_j17 (Q:VH) (K1:YH Y40) (t2 y3 y4:Addr) (y5:Bool) (y6:Int) (y7p:OA) (y7n y7c:Nat) (y8p:OA) (y8n y8c:Nat) (y9 y10:Int) (h29:Heap):Prop:=
 newI h29 (.cells #[(.int .i64 y10)] 3 (0,0)) fun b30 h31=>
 idxI y7p y10 y7n fun a32=>
 ldInt .i64 h31 (a32.add (y10.toNat*1)) fun n33=>
 newI h31 (.cells #[(.int .i64 n33)] 3 (0,0)) fun b34 h35=>
 callInt P .i64 n_ref14_Row_Next #[(.pointer (some y3)),(.int .i64 y9)] h35 fun n37 h36=>
 ∃J38:YH Y42,(∀s h,J38 s h→ref15_Made_j23 Q K1 s.1 s.2.1 s.2.2.1 s.2.2.2.1 s.2.2.2.2.1 s.2.2.2.2.2.1.1 s.2.2.2.2.2.1.2.1 s.2.2.2.2.2.1.2.2 s.2.2.2.2.2.2.1.1 s.2.2.2.2.2.2.1.2.1 s.2.2.2.2.2.2.1.2.2 s.2.2.2.2.2.2.2.1 s.2.2.2.2.2.2.2.2.1 s.2.2.2.2.2.2.2.2.2.1.1 s.2.2.2.2.2.2.2.2.2.1.2.1 s.2.2.2.2.2.2.2.2.2.1.2.2 s.2.2.2.2.2.2.2.2.2.2.1.1 s.2.2.2.2.2.2.2.2.2.2.1.2.1 s.2.2.2.2.2.2.2.2.2.2.1.2.2 h)∧
 callInt P .i64 n_ref14_Row_Next #[(.pointer (some y3)),(.int .i64 3)] h36 fun n76 h75=>
 ifB (n76==0) (
 idxI y8p n37 y8n fun a77=>
 idxI y8p y10 y8n fun a78=>
 ldInt .i64 h75 (a77.add (n37.toNat*1)) fun n79=>
 ldInt .i64 h75 (a78.add (y10.toNat*1)) fun n80=>
 ifB (n79==n80) (
 newI h75 (.cells #[(.int .i64 n37)] 3 (0,0)) fun b81 h82=>
 appI 3 1 8 (.int .i64 0) (some ⟨b30,0,none⟩) 1 1 (some ⟨b81,0,none⟩) 1 h82 fun p83 l83 c83 h84=>
 idxI y7p n37 y7n fun a85=>
 ldInt .i64 h84 (a85.add (n37.toNat*1)) fun n86=>
 newI h84 (.cells #[(.int .i64 n86)] 3 (0,0)) fun b87 h88=>
 appI 3 1 8 (.int .i64 0) (some ⟨b34,0,none⟩) 1 1 (some ⟨b87,0,none⟩) 1 h88 fun p89 l89 c89 h90=>
 J38 (t2,y3,y4,y5,y6,(y7p,y7n,y7c),(y8p,y8n,y8c),y9,y10,(p83,l83,c83),(p89,l89,c89),()) h90) (
 J38 (t2,y3,y4,y5,y6,(y7p,y7n,y7c),(y8p,y8n,y8c),y9,y10,(some ⟨b30,0,none⟩,1,1),(some ⟨b34,0,none⟩,1,1),()) h75)) (
 J38 (t2,y3,y4,y5,y6,(y7p,y7n,y7c),(y8p,y8n,y8c),y9,y10,(some ⟨b30,0,none⟩,1,1),(some ⟨b34,0,none⟩,1,1),()) h75)
def ref15_Made_l12 (Q:VH) (K1:YH Y40) (t2 y3 y4:Addr) (y5:Bool) (y6:Int) (y7p:OA) (y7n y7c:Nat) (y8p:OA) (y8n y8c:Nat) (y9:Int) (h27:Heap):Prop:=
 ifB (decide (y9≤y6)) (
 ∃J28:YH Y41,(∀s h,J28 s h→ref15_Made_j17 Q K1 s.1 s.2.1 s.2.2.1 s.2.2.2.1 s.2.2.2.2.1 s.2.2.2.2.2.1.1 s.2.2.2.2.2.1.2.1 s.2.2.2.2.2.1.2.2 s.2.2.2.2.2.2.1.1 s.2.2.2.2.2.2.1.2.1 s.2.2.2.2.2.2.1.2.2 s.2.2.2.2.2.2.2.1 s.2.2.2.2.2.2.2.2.1 h)∧
 callInt P .i64 n_ref14_Row_Next #[(.pointer (some y3)),(.int .i64 3)] h27 fun n92 h91=>
 ifB (n92==0) (
 callInt P .i64 n_ref14_Row_Next #[(.pointer (some y3)),(.int .i64 y9)] h91 fun n94 h93=>
 J28 (t2,y3,y4,y5,y6,(y7p,y7n,y7c),(y8p,y8n,y8c),y9,n94,()) h93) (
 J28 (t2,y3,y4,y5,y6,(y7p,y7n,y7c),(y8p,y8n,y8c),y9,(IntKind.wrap .i64 (y9-1)),()) h91)) (
 stI h27 (y4.add 4) (.int .i64 y6) fun h95=>
 callInt P .i64 n_ref14_Row_Next #[(.pointer (some y3)),(.int .i64 5)] h95 fun n97 h96=>
 ifB (n97==0) (
 callInt P .i64 n_ref14_Row_Next #[(.pointer (some y3)),(.int .i64 y6)] h96 fun n99 h98=>
 stI h98 (y4.add 4) (.int .i64 (IntKind.wrap .i64 ((1:Int)+n99))) fun h100=>
 ifB y5 (
 ldAg A2 h100 y4 fun x101=>
 callP P n_ref15_turned #[(agS A2 x101)] h100 fun v103 h102=>
 exS A2 fun x104=>v103=(agS A2 x104)∧
 storeL (mkS' A2 x104) h102 t2 0 fun h105=>
 ldAg A2 h105 t2 fun x106=>
 Q (agS A2 x106) h105) (
 ldAg A2 h100 y4 fun x107=>
 storeL (mkS' A2 x107) h100 t2 0 fun h108=>
 ldAg A2 h108 t2 fun x109=>
 Q (agS A2 x109) h108)) (
 ifB y5 (
 ldAg A2 h96 y4 fun x110=>
 callP P n_ref15_turned #[(agS A2 x110)] h96 fun v112 h111=>
 exS A2 fun x113=>v112=(agS A2 x113)∧
 storeL (mkS' A2 x113) h111 t2 0 fun h114=>
 ldAg A2 h114 t2 fun x115=>
 Q (agS A2 x115) h114) (
 ldAg A2 h96 y4 fun x116=>
 storeL (mkS' A2 x116) h96 t2 0 fun h117=>
 ldAg A2 h117 t2 fun x118=>
 Q (agS A2 x118) h117)))
def ref15_Made_j3 (Q:VH) (y0p:OA) (y0n y0c:Nat) (t2:Addr) (h4:Heap):Prop:=
 newI h4 (.cells #[(.slice y0p y0n y0c),(.int .i64 0)] 216 (0,0)) fun b5 h6=>
 callInt P .i64 n_ref14_Row_Next #[(.pointer (some ⟨b5,0,none⟩)),(.int .i64 3)] h6 fun n8 h7=>
 newI h7 (.cells (mkS' A2 (zT A2)).toArray 32 (0,0)) fun b9 h10=>
 storeL [(.int .i64 (IntKind.wrap .i64 ((1:Int)+n8))),(.int .i64 0),(.int .i64 0),(.slice none 0 0),(.int .i64 0)] h10 ⟨b9,0,none⟩ 0 fun h11=>
 callInt P .i64 n_ref14_Row_Next #[(.pointer (some ⟨b5,0,none⟩)),(.int .i64 200)] h11 fun n13 h12=>
 stI h12 ⟨b9,1,none⟩ (.int .i64 (IntKind.wrap .i64 ((0:Int)-n13))) fun h14=>
 callInt P .i64 n_ref14_Row_Next #[(.pointer (some ⟨b5,0,none⟩)),(.int .i64 200)] h14 fun n16 h15=>
 stI h15 ⟨b9,2,none⟩ (.int .i64 n16) fun h17=>
 callInt P .i64 n_ref14_Row_Next #[(.pointer (some ⟨b5,0,none⟩)),(.int .i64 2)] h17 fun n19 h18=>
 callInt P .i64 n_ref14_Row_Next #[(.pointer (some ⟨b5,0,none⟩)),(.int .i64 6)] h18 fun n21 h20=>
 ldInt .i64 h20 ⟨b9,0,none⟩ fun n22=>
 newI h20 (.cells #[(.int .i64 n22)] 3 (0,0)) fun b23 h24=>
 newI h24 (.cells #[(.int .i64 1)] 3 (0,0)) fun b25 h26=>
 LoopS (S:=Y40) (fun K1 s h=>ref15_Made_l12 Q K1 s.1 s.2.1 s.2.2.1 s.2.2.2.1 s.2.2.2.2.1 s.2.2.2.2.2.1.1 s.2.2.2.2.2.1.2.1 s.2.2.2.2.2.1.2.2 s.2.2.2.2.2.2.1.1 s.2.2.2.2.2.2.1.2.1 s.2.2.2.2.2.2.1.2.2 s.2.2.2.2.2.2.2.1 h) (t2,⟨b5,0,none⟩,⟨b9,0,none⟩,(n19==1),(IntKind.wrap .i64 ((1:Int)+n21)),(some ⟨b23,0,none⟩,1,1),(some ⟨b25,0,none⟩,1,1),(1:Int),()) h26
def ref15_Made (y0p:OA) (y0n y0c:Nat) (h:Heap) (Q:VH):Prop:=
 newI h (.cells (mkS' A2 (zT A2)).toArray 32 (0,0)) fun b1 h2=>
 ∃J3:(S3×Addr×Unit)→Heap→Prop,(∀s h,J3 s h→ref15_Made_j3 Q s.1.1 s.1.2.1 s.1.2.2 s.2.1 h)∧
 ifB (decide ((y0n:Int)>240)) (
 bndI 240 y0c fun l119=>
 J3 (((if y0c=0 then y0p else Option.map (fun a=>a.add (0*1)) y0p),(l119-0),(y0c-0)),⟨b1,0,none⟩,()) h2) (
 J3 ((y0p,y0n,y0c),⟨b1,0,none⟩,()) h2)
noncomputable def tab_ref15_Made:Tab:=tb (lookT .done [(20,(ones [0] (.alt 1 (ones [2,3,4,5,6,8,9,10,7,11,12,13] .done) .stop))),(25,(ones [0,2,3] (.early 1 (.alt 4 (ones [5,6] (.alt 7 (.alt 8 (.alt 9 (ones [10] .done) .stop) .stop) .stop)) .stop)))),(26,(ones [0,2,3,4] (.early 1 (.alt 5 (.alt 6 (.alt 7 (.alt 8 (.alt 9 (ones [10] .done) .stop) .stop) .stop) .stop) .stop))))]) (lookT [] [(12,[(2,.sc (.adr)),(3,.sc (.adr)),(4,.sc (.adr)),(5,BO),(6,I6),(7,SL),(8,SL),(9,I6)])]) (lookT none [(3,some [(0,SL),(2,.sc (.adr))]),(17,some [(2,.sc (.adr)),(3,.sc (.adr)),(4,.sc (.adr)),(5,BO),(6,I6),(7,SL),(8,SL),(9,I6),(10,I6)]),(23,some [(2,.sc (.adr)),(3,.sc (.adr)),(4,.sc (.adr)),(5,BO),(6,I6),(7,SL),(8,SL),(9,I6),(10,I6),(11,SL),(12,SL)])])
theorem call_ref15_Made (y0p:OA) (y0n y0c:Nat) {h:Heap} {Q:VH} (H:ref15_Made y0p y0n y0c h Q):callP P n_ref15_Made #[(.slice y0p y0n y0c)] h Q:=
 @callP_of P n_ref15_Made Tryz.f114 tab_ref15_Made [(.slice y0p y0n y0c)] h Q mixed Tryz.func114 Tryz.call114 (by kernel_rfl) (Eq.mpr (by kernel_rfl) H)
def ref16_Made (y0p:OA) (y0n y0c:Nat) (h:Heap) (Q:VH):Prop:=
 newI h (.cells (mkS' A2 (zT A2)).toArray 32 (0,0)) fun b1 h2=>
 callP P n_ref15_Made #[(.slice y0p y0n y0c)] h2 fun v4 h3=>
 exS A2 fun x5=>v4=(agS A2 x5)∧
 storeL (mkS' A2 x5) h3 ⟨b1,0,none⟩ 0 fun h6=>
 ldAg A2 h6 ⟨b1,0,none⟩ fun x7=>
 Q (agS A2 x7) h6
noncomputable def tab_ref16_Made:Tab:=tb (lookT .done []) (lookT [] []) (lookT none [])
theorem call_ref16_Made (y0p:OA) (y0n y0c:Nat) {h:Heap} {Q:VH} (H:ref16_Made y0p y0n y0c h Q):callP P n_ref16_Made #[(.slice y0p y0n y0c)] h Q:=
 @callP_of P n_ref16_Made Tryz.f64 tab_ref16_Made [(.slice y0p y0n y0c)] h Q mixed Tryz.func64 Tryz.call64 (by kernel_rfl) (Eq.mpr (by kernel_rfl) H)
def ref21_Made_l4 (Q:VH) (K1:(Int×Addr×Addr×Int×Unit)→Heap→Prop) (y1:Int) (t4 y5:Addr) (y6:Int) (h15:Heap):Prop:=
 ifB (decide (y6<(andI .i64 (shrI y1 1) 3))) (
 ldInt .i64 h15 (y5.add 4) fun n16=>
 newI h15 (.cells #[(.int .i64 n16)] 3 (0,0)) fun b17 h18=>
 newI h18 (.cells (mkS' A1 (zT A1)).toArray 62 (0,0)) fun b19 h20=>
 storeL [(.int .i64 9),(.slice (some ⟨b17,0,none⟩) 1 1),(.int .i64 0),(.int .i64 0),(.int .i64 0),(.int .i64 0),(.int .i64 0),(.int .i64 0),(.slice none 0 0),(.slice none 0 0),(.int .i64 0),(.int .i64 0),(.int .i64 (-90:Int)),(.int .i64 700),(.int .i64 0)] h20 ⟨b19,0,none⟩ 0 fun h21=>
 nonnegI (IntKind.wrap .u64 (IntKind.wrap .i64 ((3:Int)+y6))) fun _=>
 ifB ((andI .i64 (shrI y1 (min (IntKind.wrap .u64 (IntKind.wrap .i64 ((3:Int)+y6))).toNat 64)) 1)==1) (
 ldInt .i64 h21 (y5.add 4) fun n22=>
 newI h21 (.cells #[(.int .i64 n22)] 3 (0,0)) fun b23 h24=>
 storeL [(.int .i64 10),(.slice (some ⟨b23,0,none⟩) 1 1),(.int .i64 0),(.int .i64 0),(.int .i64 0),(.int .i64 0),(.int .i64 0),(.int .i64 0),(.slice none 0 0),(.slice none 0 0),(.int .i64 21000),(.int .i64 14),(.int .i64 0),(.int .i64 0),(.int .i64 0)] h24 ⟨b19,0,none⟩ 0 fun h25=>
 ldSlice h25 (y5.add 3) fun p26 l26 c26=>
 ldAg A1 h25 ⟨b19,0,none⟩ fun x27=>
 newI h25 (.cells (mkS' A1 x27).toArray 62 (0,0)) fun b28 h29=>
 appI 62 15 168 (agS A1 (zT A1)) p26 l26 c26 (some ⟨b28,0,none⟩) 1 h29 fun p30 l30 c30 h31=>
 stI h31 (y5.add 3) (.slice p30 l30 c30) fun h32=>
 ldSlice h32 (y5.add 3) fun p33 l33 c33=>
 stI h32 (y5.add 4) (.int .i64 (l33:Int)) fun h34=>
 K1 (y1,t4,y5,(IntKind.wrap .i64 (y6+1)),()) h34) (
 ldSlice h21 (y5.add 3) fun p35 l35 c35=>
 ldAg A1 h21 ⟨b19,0,none⟩ fun x36=>
 newI h21 (.cells (mkS' A1 x36).toArray 62 (0,0)) fun b37 h38=>
 appI 62 15 168 (agS A1 (zT A1)) p35 l35 c35 (some ⟨b37,0,none⟩) 1 h38 fun p39 l39 c39 h40=>
 stI h40 (y5.add 3) (.slice p39 l39 c39) fun h41=>
 ldSlice h41 (y5.add 3) fun p42 l42 c42=>
 stI h41 (y5.add 4) (.int .i64 (l42:Int)) fun h43=>
 K1 (y1,t4,y5,(IntKind.wrap .i64 (y6+1)),()) h43)) (
 ifB ((andI .i64 y1 1)==1) (
 ldSlice h15 (y5.add 3) fun p44 l44 c44=>
 ldInt .i64 h15 (y5.add 4) fun n45=>
 newI h15 (.cells #[(.int .i64 n45)] 3 (0,0)) fun b46 h47=>
 newI h47 (.cells #[(.int .i64 11),(.slice (some ⟨b46,0,none⟩) 1 1),(.int .i64 0),(.int .i64 0),(.int .i64 0),(.int .i64 0),(.int .i64 0),(.int .i64 0),(.slice none 0 0),(.slice none 0 0),(.int .i64 0),(.int .i64 0),(.int .i64 0),(.int .i64 0),(.int .i64 0)] 62 (0,0)) fun b48 h49=>
 appI 62 15 168 (agS A1 (zT A1)) p44 l44 c44 (some ⟨b48,0,none⟩) 1 h49 fun p50 l50 c50 h51=>
 stI h51 (y5.add 3) (.slice p50 l50 c50) fun h52=>
 ldAg A2 h52 y5 fun x53=>
 storeL (mkS' A2 x53) h52 t4 0 fun h54=>
 ldAg A2 h54 t4 fun x55=>
 Q (agS A2 x55) h54) (
 ldAg A2 h15 y5 fun x56=>
 storeL (mkS' A2 x56) h15 t4 0 fun h57=>
 ldAg A2 h57 t4 fun x58=>
 Q (agS A2 x58) h57))
def ref21_Made (y0p:OA) (y0n y0c:Nat) (y1:Int) (h:Heap) (Q:VH):Prop:=
 newI h (.cells (mkS' A2 (zT A2)).toArray 32 (0,0)) fun b1 h2=>
 callP P n_ref16_Made #[(.slice y0p y0n y0c)] h2 fun v4 h3=>
 exS A2 fun x5=>v4=(agS A2 x5)∧
 newI h3 (.cells (mkS' A2 (zT A2)).toArray 32 (0,0)) fun b6 h7=>
 storeL (mkS' A2 x5) h7 ⟨b6,0,none⟩ 0 fun h8=>
 newI h8 (.cells #[] 62 (0,0)) fun b9 h10=>
 ldSlice h10 ⟨b6,3,none⟩ fun p11 l11 c11=>
 appI 62 15 168 (agS A1 (zT A1)) (some ⟨b9,0,none⟩) 0 0 p11 l11 h10 fun p12 l12 c12 h13=>
 stI h13 ⟨b6,3,none⟩ (.slice p12 l12 c12) fun h14=>
 LoopS (S:=(Int×Addr×Addr×Int×Unit)) (fun K1 s h=>ref21_Made_l4 Q K1 s.1 s.2.1 s.2.2.1 s.2.2.2.1 h) (y1,⟨b1,0,none⟩,⟨b6,0,none⟩,(0:Int),()) h14
noncomputable def tab_ref21_Made:Tab:=tb (lookT .done []) (lookT [] [(4,[(1,I6),(4,.sc (.adr)),(5,.sc (.adr)),(6,I6)])]) (lookT none [])
theorem call_ref21_Made (y0p:OA) (y0n y0c:Nat) (y1:Int) {h:Heap} {Q:VH} (H:ref21_Made y0p y0n y0c y1 h Q):callP P n_ref21_Made #[(.slice y0p y0n y0c),(.int .i64 y1)] h Q:=
 @callP_of P n_ref21_Made Tryz.f25 tab_ref21_Made [(.slice y0p y0n y0c),(.int .i64 y1)] h Q mixed Tryz.func25 Tryz.call25 (by kernel_rfl) (Eq.mpr (by kernel_rfl) H)
def ref22_Made (y0p:OA) (y0n y0c:Nat) (y1:Int) (h:Heap) (Q:VH):Prop:=
 callP P n_ref21_Made #[(.slice y0p y0n y0c),(.int .i64 y1)] h fun v2 h1=>
 exS A2 fun x3=>v2=(agS A2 x3)∧
 callP P n_ref15_Encode #[(agS A2 x3)] h1 fun v5 h4=>
 ∃s6:ByteArray,∃n7:Int,v5=(.tuple #[(.string s6),(.int .i64 n7)])∧
 Q (.string s6) h4
noncomputable def tab_ref22_Made:Tab:=tb (lookT .done []) (lookT [] []) (lookT none [])
theorem call_ref22_Made (y0p:OA) (y0n y0c:Nat) (y1:Int) {h:Heap} {Q:VH} (H:ref22_Made y0p y0n y0c y1 h Q):callP P n_ref22_Made #[(.slice y0p y0n y0c),(.int .i64 y1)] h Q:=
 @callP_of P n_ref22_Made Tryz.f9 tab_ref22_Made [(.slice y0p y0n y0c),(.int .i64 y1)] h Q mixed Tryz.func9 Tryz.call9 (by kernel_rfl) (Eq.mpr (by kernel_rfl) H)
def law22_PlanApart_j12 (Q:VH) (K1:(Bool×Addr×Int×Int×Unit)→Heap→Prop) (y5:Bool) (y6:Addr) (y9:Int) (y10:Addr) (h31:Heap):Prop:=
 ldInt .i64 h31 y10 fun n32=>
 ldInt .i64 h31 (y10.add 1) fun n33=>
 ldInt .i64 h31 (y10.add 2) fun n34=>
 K1 (y5,y6,(IntKind.wrap .i64 (n32+(IntKind.wrap .i64 (n33*n34)))),(IntKind.wrap .i64 (y9+1)),()) h31
def law22_PlanApart_l7 (Q:VH) (K1:(Bool×Addr×Int×Int×Unit)→Heap→Prop) (y5:Bool) (y6:Addr) (y8 y9:Int) (h18:Heap):Prop:=
 ldSlice h18 (y6.add 6) fun p19 l19 c19=>
 ifB (decide (y9<(l19:Int))) (
 ldSlice h18 (y6.add 6) fun p20 l20 c20=>
 idxI p20 y9 l20 fun a21=>
 ldInt .i64 h18 (a21.add (y9.toNat*3)) fun n22=>
 ldInt .i64 h18 (Addr.add (a21.add (y9.toNat*3)) 1) fun n23=>
 ldInt .i64 h18 (Addr.add (a21.add (y9.toNat*3)) 2) fun n24=>
 newI h18 (.cells #[(.int .i64 0),(.int .i64 0),(.int .i64 0)] 52 (0,0)) fun b25 h26=>
 stI h26 ⟨b25,0,none⟩ (.int .i64 n22) fun h27=>
 stI h27 ⟨b25,1,none⟩ (.int .i64 n23) fun h28=>
 stI h28 ⟨b25,2,none⟩ (.int .i64 n24) fun h29=>
 ∃J30:(Bool×Addr×Int×Addr×Unit)→Heap→Prop,(∀s h,J30 s h→law22_PlanApart_j12 Q K1 s.1 s.2.1 s.2.2.1 s.2.2.2.1 h)∧
 ldInt .i64 h29 ⟨b25,0,none⟩ fun n35=>
 ifB ((Int.tmod n35 4) !=0) (
 Q (.bool false) h29) (
 ldInt .i64 h29 ⟨b25,0,none⟩ fun n36=>
 ifB (decide (n36<y8)) (
 Q (.bool false) h29) (
 ldInt .i64 h29 ⟨b25,0,none⟩ fun n37=>
 ifB (decide (n37>(IntKind.wrap .i64 (y8+3)))) (
 Q (.bool false) h29) (
 ldInt .i64 h29 ⟨b25,1,none⟩ fun n38=>
 ifB (decide (n38<1)) (
 Q (.bool false) h29) (
 ldInt .i64 h29 ⟨b25,2,none⟩ fun n39=>
 ifB (decide (n39<1)) (
 Q (.bool false) h29) (
 J30 (y5,y6,y9,⟨b25,0,none⟩,()) h29)))))) (
 ifB y5 (
 ldInt .i64 h18 (y6.add 7) fun n40=>
 ifB (decide (n40≥y8)) (
 ldInt .i64 h18 (y6.add 7) fun n41=>
 ifB (decide (n41≤(IntKind.wrap .i64 (y8+3)))) (
 ldInt .i64 h18 (y6.add 7) fun n42=>
 ifB ((Int.tmod n42 4)==0) (
 ldInt .i64 h18 (y6.add 7) fun n43=>
 ifB (decide (n43≤4096)) (
 ldSlice h18 (y6.add 6) fun p44 l44 c44=>
 ldSlice h18 (y6.add 3) fun p45 l45 c45=>
 ifB ((l44:Int)==(IntKind.wrap .i64 ((l45:Int)+1))) (
 ldSlice h18 (y6.add 5) fun p46 l46 c46=>
 ldSlice h18 (y6.add 3) fun p47 l47 c47=>
 Q (.bool ((l46:Int)==(l47:Int))) h18) (
 Q (.bool false) h18)) (
 Q (.bool false) h18)) (
 Q (.bool false) h18)) (
 Q (.bool false) h18)) (
 Q (.bool false) h18)) (
 Q (.bool false) h18))
def law22_PlanApart (y0p:OA) (y0n y0c:Nat) (y1:Int) (h:Heap) (Q:VH):Prop:=
 callBool P n_law22_awake #[] h fun b2 h1=>
 callStr P n_ref22_Made #[(.slice y0p y0n y0c),(.int .i64 y1)] h1 fun s4 h3=>
 callP P n_plan_Make #[(.string s4)] h3 fun v6 h5=>
 exS A4 fun x7=> ∃n8:Int,v6=(.tuple #[(agS A4 x7),(.int .i64 n8)])∧
 newI h5 (.cells (mkS' A4 (zT A4)).toArray 39 (0,0)) fun b9 h10=>
 storeL (mkS' A4 x7) h10 ⟨b9,0,none⟩ 0 fun h11=>
 ifB (n8 !=0) (
 ifB b2 (
 ifB (n8==16) (
 ldSlice h11 ⟨b9,6,none⟩ fun p12 l12 c12=>
 ldSlice h11 ⟨b9,5,none⟩ fun p13 l13 c13=>
 ldInt .i64 h11 ⟨b9,7,none⟩ fun n14=>
 Q (.bool ((IntKind.wrap .i64 ((IntKind.wrap .i64 ((l12:Int)+(l13:Int)))+n14))==0)) h11) (
 ifB (n8==17) (
 ldSlice h11 ⟨b9,6,none⟩ fun p15 l15 c15=>
 ldSlice h11 ⟨b9,5,none⟩ fun p16 l16 c16=>
 ldInt .i64 h11 ⟨b9,7,none⟩ fun n17=>
 Q (.bool ((IntKind.wrap .i64 ((IntKind.wrap .i64 ((l15:Int)+(l16:Int)))+n17))==0)) h11) (
 Q (.bool false) h11))) (
 Q (.bool false) h11)) (
 LoopS (S:=(Bool×Addr×Int×Int×Unit)) (fun K1 s h=>law22_PlanApart_l7 Q K1 s.1 s.2.1 s.2.2.1 s.2.2.2.1 h) (b2,⟨b9,0,none⟩,(0:Int),(0:Int),()) h11)
noncomputable def tab_law22_PlanApart:Tab:=tb (lookT .done []) (lookT [] [(7,[(5,BO),(6,.sc (.adr)),(8,I6),(9,I6)])]) (lookT none [(12,some [(5,BO),(6,.sc (.adr)),(9,I6),(10,.sc (.adr))])])
theorem call_law22_PlanApart (y0p:OA) (y0n y0c:Nat) (y1:Int) {h:Heap} {Q:VH} (H:law22_PlanApart y0p y0n y0c y1 h Q):callP P n_law22_PlanApart #[(.slice y0p y0n y0c),(.int .i64 y1)] h Q:=
 @callP_of P n_law22_PlanApart Tryz.f5 tab_law22_PlanApart [(.slice y0p y0n y0c),(.int .i64 y1)] h Q mixed Tryz.func5 Tryz.call5 (by kernel_rfl) (Eq.mpr (by kernel_rfl) H)
end Go.Proofs.YtdhpmegbmjoekaaGreatDoor.G
