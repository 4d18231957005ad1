/- Printed by shp.py out of the program's own print: for each Go function a typed formula over heaps, and the proof that a call does just that. -/
import Derived.Test.YtbgplllcjhgdhaaGreatDoorProg
import Derived.Test.YtbgplllcjhgdhaaGreatDoorShW
set_option linter.unusedVariables false
set_option maxRecDepth 100000
namespace Go.Proofs.YtbgplllcjhgdhaaGreatDoor.G
open Go Go.Sh
noncomputable abbrev P:Program:=Tryz.prog
abbrev OA:=Option Addr
abbrev S3:=OA×Nat×Nat
abbrev VH:=Value→Heap→Prop
abbrev YH (α:Type):=α→Heap→Prop
abbrev tb (a:Nat→Sch) (b:Nat→Live) (c:Nat→Option Live):Tab:={sch:=a,lp:=b,jn:=c}
abbrev I6:Ls:= .sc (.int .i64)
abbrev SL:Ls:= .sc .slice
abbrev BO:Ls:= .sc .bool
theorem mixed:P.follows .mixedOrders=true:=by kernel_rfl
abbrev A1:List Sc:=[.int .i64,.int .i64,.int .i64,.slice,.int .i64]
abbrev A2:List Sc:=[.int .i64,.slice,.int .i64,.int .i64,.int .i64,.int .i64,.int .i64,.int .i64,.slice,.slice,.int .i64,.int .i64,.int .i64,.int .i64,.int .i64]
abbrev A3:List Sc:=[.int .i64,.bool,.int .i64,.bool,.int .i64,.bool,.int .i64,.bool,.int .i64,.bool,.int .i64,.bool]
abbrev Y1:=(Int×S3×Int×Int×S3×Int×Int×Unit)
abbrev Y2:=(S3×Addr×S3×Int×Int×Unit)
abbrev Y3:=(S3×Addr×S3×Int×Int×S3×Int×Int×Unit)
abbrev Y4:=(S3×S3×S3×Int×Int×Unit)
abbrev Y5:=(S3×Addr×Int×S3×Int×Int×Unit)
abbrev Y6:=(Addr×Addr×Addr×S3×Int×Int×Unit)
abbrev Y7:=(S3×Int×Int×Addr×Int×Int×Unit)
abbrev Y8:=(S3×Int×Int×Int×Int×Int×Unit)
abbrev Y9:=(S3×Int×Int×Int×Bool×Bool×Unit)
abbrev Y10:=(S3×Int×Int×Int×Bool×Bool×Int×Unit)
abbrev Y11:=(S3×Int×Int×Int×Bool×Bool×Int×Int×Int×Unit)
abbrev Y12:=(S3×Int×Int×Int×Bool×Bool×Int×Int×Unit)
abbrev Y13:=(S3×Int×S3×Int×Unit)
abbrev Y14:=(Addr×Addr×S3×Int×Int×Unit)
abbrev Y15:=(OA×Option Nat×Int×Addr×Int×Int×Int×S3×Int×Int×Unit)
abbrev Y16:=(OA×Option Nat×Int×Int×Int×Int×Int×S3×Int×Int×Unit)
abbrev Y17:=(Addr×Addr×Option Nat×Option Nat×S3×S3×Int×Int×Unit)
abbrev Y18:=(Addr×Addr×Option Nat×S3×S3×Int×Int×Unit)
abbrev Y19:=(Addr×Addr×Option Nat×S3×Addr×S3×Int×Int×S3×Int×Int×Unit)
abbrev Y20:=(OA×Int×Int×Int×S3×Int×Unit)
abbrev Y21:=(OA×S3×S3×Bool×Addr×Addr×Int×Int×Bool×Int×Unit)
abbrev Y22:=(Addr×Addr×Int×Addr×Int×Addr×S3×Int×Unit)
abbrev Y23:=(Addr×Addr×Addr×Bool×Int×S3×S3×Int×Unit)
abbrev Y24:=(Addr×Addr×Addr×Bool×Int×S3×S3×Int×Int×Unit)
abbrev Y25:=(Addr×Addr×Addr×Bool×Int×S3×S3×Int×Int×S3×S3×Unit)
abbrev Y26:=(Int×S3×Addr×S3×Int×Unit)
abbrev Y27:=(Int×S3×Addr×S3×Int×S3×Int×Unit)
abbrev Y28:=(Addr×S3×Int×Int×Bool×S3×Int×Unit)
abbrev Y29:=(Addr×Addr×S3×Addr×Int×Unit)
abbrev Y30:=(Addr×Addr×S3×Addr×Int×Addr×S3×S3×Int×Unit)
abbrev Y31:=(S3×Addr×Bool×S3×Int×Unit)
abbrev Y32:=(S3×Addr×Bool×S3×Int×Int×Unit)
abbrev Y33:=(S3×Addr×Int×S3×Int×Unit)
abbrev Y34:=(S3×Addr×Int×S3×Int×Int×Int×Unit)
abbrev Y35:=(S3×Addr×Int×S3×Int×Int×Int×Int×Unit)
abbrev Y36:=(S3×S3×Int×Unit)
abbrev Y37:=(S3×Addr×S3×Unit)
abbrev Y38:=(S3×Addr×S3×Int×Unit)
abbrev Y39:=(S3×Int×Addr×S3×Int×Unit)
abbrev Y40:=(S3×Int×Addr×S3×Bool×S3×Int×Unit)
abbrev Y41:=(S3×Int×Addr×S3×Bool×S3×Int×S3×Int×Unit)
abbrev Y42:=(S3×Addr×Addr×Addr×Int×Unit)
abbrev Y43:=(S3×Addr×Addr×Addr×Int×Int×Unit)
abbrev Y44:=(Addr×Addr×Addr×S3×Int×Unit)
abbrev Y45:=(Addr×Addr×Addr×S3×Int×Addr×S3×Int×Unit)
abbrev Y46:=(S3×S3×Int×Int×Unit)
abbrev Y47:=(Bool×Addr×Addr×S3×Int×Unit)
abbrev Y48:=(Bool×Addr×Addr×S3×Int×Addr×S3×Int×Unit)
abbrev Y49:=(S3×((Unit)×(Addr×Unit))×Int×Int×Unit)
abbrev n_graph_may:FuncId:=49
abbrev n_graph_ordered_1:FuncId:=71
abbrev n_slices_IndexFunc_int_int:FuncId:=95
abbrev n_slices_ContainsFunc_int_int:FuncId:=70
abbrev n_graph_ordered:FuncId:=50
abbrev n_graph_pick:FuncId:=51
abbrev n_kind_in:FuncId:=73
abbrev n_kind_every:FuncId:=72
abbrev n_kind_has:FuncId:=74
abbrev n_kind_bare:FuncId:=75
abbrev n_kind_Span:FuncId:=77
abbrev n_kind_fits:FuncId:=76
abbrev n_kind_Check:FuncId:=52
abbrev n_graph_rate_1:FuncId:=78
abbrev n_kind_Step:FuncId:=79
abbrev n_graph_rate:FuncId:=53
abbrev n_kind_Width:FuncId:=54
abbrev n_graph_look:FuncId:=25
abbrev n_graph_Check:FuncId:=13
abbrev n_slices_Clone_api_Node_api_Node:FuncId:=26
abbrev n_slices_Clone_int_int:FuncId:=27
abbrev n_fuse_own:FuncId:=14
abbrev n_slices_Values_int_int_1:FuncId:=57
abbrev n_slices_Values_int_int:FuncId:=31
abbrev n_slices_AppendSeq_int_int:FuncId:=80
abbrev n_slices_Collect_int:FuncId:=55
abbrev n_math_bits_Len32:FuncId:=105
abbrev n_math_bits_Len64:FuncId:=106
abbrev n_math_bits_Len:FuncId:=82
abbrev n_cmp_isNaN_int:FuncId:=120
abbrev n_cmp_Less_int:FuncId:=102
abbrev n_slices_insertionSortOrdered_int:FuncId:=96
abbrev n_slices_heapSortOrdered_int:FuncId:=97
abbrev n_slices_breakPatternsOrdered_int:FuncId:=98
abbrev n_slices_choosePivotOrdered_int:FuncId:=99
abbrev n_slices_reverseRangeOrdered_int:FuncId:=100
abbrev n_slices_partialInsertionSortOrdered_int:FuncId:=101
abbrev n_slices_partitionEqualOrdered_int:FuncId:=103
abbrev n_slices_partitionOrdered_int:FuncId:=104
abbrev n_slices_pdqsortOrdered_int:FuncId:=81
abbrev n_slices_Sort_int_int:FuncId:=56
abbrev n_slices_Sorted_int:FuncId:=30
abbrev n_slices_Compact_int_int:FuncId:=29
abbrev n_fuse_live_1:FuncId:=28
abbrev n_fuse_live:FuncId:=15
abbrev n_slices_Index_int_int:FuncId:=58
abbrev n_slices_Contains_int_int:FuncId:=32
abbrev n_fuse_take:FuncId:=33
abbrev n_fuse_step:FuncId:=16
abbrev n_fuse_Fuse:FuncId:=6
abbrev n_law21_awake:FuncId:=4
abbrev n_ref14_Row_Next:FuncId:=45
abbrev n_ref14_Windows:FuncId:=41
abbrev n_ref14_Span:FuncId:=60
abbrev n_ref14_Row_window:FuncId:=68
abbrev n_ref14_Row_row:FuncId:=69
abbrev n_ref14_Made:FuncId:=46
abbrev n_ref14_all:FuncId:=35
abbrev n_ref14_in:FuncId:=36
abbrev n_ref14_Many:FuncId:=37
abbrev n_ref14_weighs:FuncId:=38
abbrev n_ref14_four:FuncId:=59
abbrev n_ref14_else0:FuncId:=39
abbrev n_ref14_weights:FuncId:=61
abbrev n_ref14_sized:FuncId:=40
abbrev n_ref14_Check:FuncId:=19
abbrev n_ref14_Width:FuncId:=20
abbrev n_ref14_Step:FuncId:=42
abbrev n_ref15_rate:FuncId:=47
abbrev n_ref15_turned:FuncId:=48
abbrev n_ref15_Made:FuncId:=24
abbrev n_ref16_Made:FuncId:=12
abbrev n_ref21_Made:FuncId:=5
abbrev n_ref18_Made:FuncId:=7
abbrev n_ref16_first:FuncId:=17
abbrev n_ref16_has:FuncId:=34
abbrev n_ref16_order:FuncId:=18
abbrev n_ref16_rate:FuncId:=21
abbrev n_ref16_Look:FuncId:=8
abbrev n_ref14_least:FuncId:=83
abbrev n_ref14_Right:FuncId:=85
abbrev n_ref14_Left:FuncId:=86
abbrev n_ref14_ends:FuncId:=84
abbrev n_ref14_Count:FuncId:=62
abbrev n_ref14_First:FuncId:=64
abbrev n_ref18_gap:FuncId:=65
abbrev n_ref18_at:FuncId:=63
abbrev n_ref07_Word:FuncId:=107
abbrev n_ref17_may:FuncId:=87
abbrev n_ref01_May:FuncId:=123
abbrev n_ref01_Low:FuncId:=124
abbrev n_ref01_Clamp:FuncId:=93
abbrev n_ref01_Sat:FuncId:=111
abbrev n_ref01_Mul:FuncId:=113
abbrev n_ref02_power:FuncId:=125
abbrev n_ref02_Quot:FuncId:=121
abbrev n_ref02_Rest:FuncId:=122
abbrev n_ref02_Div:FuncId:=110
abbrev n_ref02_Half:FuncId:=114
abbrev n_ref02_Scale:FuncId:=94
abbrev n_ref17_post:FuncId:=108
abbrev n_ref17_weighed:FuncId:=88
abbrev n_ref17_most:FuncId:=89
abbrev n_ref17_column:FuncId:=90
abbrev n_ref01_Sum:FuncId:=109
abbrev n_ref02_Mean:FuncId:=91
abbrev n_ref01_plus:FuncId:=112
abbrev n_ref01_Add:FuncId:=92
abbrev n_ref17_Frame:FuncId:=66
abbrev n_ref18_Node:FuncId:=43
abbrev n_ref18_Streams:FuncId:=22
abbrev n_ref18_Eval:FuncId:=10
abbrev n_ref18_Same:FuncId:=9
abbrev n_ref14_Ready:FuncId:=67
abbrev n_ref18_counts:FuncId:=44
abbrev n_ref18_Readies:FuncId:=23
abbrev n_ref18_Ready:FuncId:=11
abbrev n_law21_FuseKeeps:FuncId:=3
def graph_may_l10 (Q:VH) (K1:(Int×S3×Int×Int×Unit)→Heap→Prop) (K2:YH Y1) (y3:Int) (t54_p:OA) (t54_n t54_c:Nat) (t55 t56:Int) (t61_p:OA) (t61_n t61_c:Nat) (t62 t63:Int) (h16:Heap):Prop:=
 ifB (decide (t63<t62)) (
 idxI t61_p t63 t61_n fun a17=>
 ldInt .i64 h16 (a17.add (t63.toNat*1)) fun n18=>
 ifB (decide (n18<0)) (
 Q (.int .i64 1) h16) (
 ifB (decide (n18>y3)) (
 Q (.int .i64 1) h16) (
 K2 (y3,(t54_p,t54_n,t54_c),t55,t56,(t61_p,t61_n,t61_c),t62,(IntKind.wrap .i64 (t63+1)),()) h16))) (
 K1 (y3,(t54_p,t54_n,t54_c),t55,(IntKind.wrap .i64 (t56+1)),()) h16)
def graph_may_l7 (Q:VH) (K1:(Int×S3×Int×Int×Unit)→Heap→Prop) (y3:Int) (t54_p:OA) (t54_n t54_c:Nat) (t55 t56:Int) (h9:Heap):Prop:=
 ifB (decide (t56<t55)) (
 idxI t54_p t56 t54_n fun a10=>
 ldAg A2 h9 (a10.add (t56.toNat*15)) fun x11=>
 newI h9 (.cells (mkS' A2 (zT A2)).toArray 40 (0,0)) fun b12 h13=>
 storeL (mkS' A2 x11) h13 ⟨b12,0,none⟩ 0 fun h14=>
 ldSlice h14 ⟨b12,1,none⟩ fun p15 l15 c15=>
 LoopS (S:=Y1) (fun K2 s h=>graph_may_l10 Q K1 K2 s.1 s.2.1.1 s.2.1.2.1 s.2.1.2.2 s.2.2.1 s.2.2.2.1 s.2.2.2.2.1.1 s.2.2.2.2.1.2.1 s.2.2.2.2.1.2.2 s.2.2.2.2.2.1 s.2.2.2.2.2.2.1 h) (y3,(t54_p,t54_n,t54_c),t55,t56,(p15,l15,c15),(l15:Int),(0:Int),()) h14) (
 Q (.int .i64 0) h9)
def graph_may_j6 (Q:VH) (y1:Addr) (y3:Int) (h7:Heap):Prop:=
 ldSlice h7 (y1.add 3) fun p8 l8 c8=>
 LoopS (S:=(Int×S3×Int×Int×Unit)) (fun K1 s h=>graph_may_l7 Q K1 s.1 s.2.1.1 s.2.1.2.1 s.2.1.2.2 s.2.2.1 s.2.2.2.1 h) (y3,(p8,l8,c8),(l8:Int),(0:Int),()) h7
def graph_may_j4 (Q:VH) (y1:Addr) (y3:Int) (h5:Heap):Prop:=
 ∃J6:(Addr×Int×Unit)→Heap→Prop,(∀s h,J6 s h→graph_may_j6 Q s.1 s.2.1 h)∧
 ldInt .i64 h5 y1 fun n19=>
 ifB (decide (n19<1)) (
 Q (.int .i64 1) h5) (
 ldInt .i64 h5 y1 fun n20=>
 ifB (decide (n20>16)) (
 Q (.int .i64 1) h5) (
 ldInt .i64 h5 (y1.add 1) fun n21=>
 ldInt .i64 h5 (y1.add 2) fun n22=>
 ifB (decide (n21>n22)) (
 Q (.int .i64 1) h5) (
 ldInt .i64 h5 (y1.add 1) fun n23=>
 ifB (decide (n23<(-32768:Int))) (
 Q (.int .i64 1) h5) (
 ldInt .i64 h5 (y1.add 2) fun n24=>
 ifB (decide (n24>32767)) (
 Q (.int .i64 1) h5) (
 ldInt .i64 h5 (y1.add 4) fun n25=>
 ifB (decide (n25<1)) (
 Q (.int .i64 1) h5) (
 ldInt .i64 h5 (y1.add 4) fun n26=>
 ifB (decide (n26>y3)) (
 Q (.int .i64 1) h5) (
 J6 (y1,y3,()) h5)))))))
def graph_may (y0:TS A1) (h:Heap) (Q:VH):Prop:=
 newI h (.cells (mkS' A1 y0).toArray 26 (0,0)) fun b1 h2=>
 ldSlice h2 ⟨b1,3,none⟩ fun p3 l3 c3=>
 ∃J4:(Addr×Int×Unit)→Heap→Prop,(∀s h,J4 s h→graph_may_j4 Q s.1 s.2.1 h)∧
 ifB (decide ((l3:Int)<1)) (
 Q (.int .i64 22) h2) (
 ifB (decide ((l3:Int)>12)) (
 Q (.int .i64 22) h2) (
 J4 (⟨b1,0,none⟩,(l3:Int),()) h2))
noncomputable def tab_graph_may:Tab:=tb (lookT .done []) (lookT [] [(7,[(3,I6),(54,SL),(55,I6),(56,I6)]),(10,[(3,I6),(54,SL),(55,I6),(56,I6),(61,SL),(62,I6),(63,I6)])]) (lookT none [(4,some [(1,.sc (.adr)),(3,I6)]),(6,some [(1,.sc (.adr)),(3,I6)])])
theorem call_graph_may (y0:TS A1) {h:Heap} {Q:VH} (H:graph_may y0 h Q):callP P n_graph_may #[(agS A1 y0)] h Q:=
 @callP_of P n_graph_may Tryz.f49 tab_graph_may [(agS A1 y0)] h Q mixed Tryz.func49 Tryz.call49 (by kernel_rfl) (Eq.mpr (by kernel_rfl) H)
def graph_ordered_1 (y0:Int) (free0:Addr) (h:Heap) (Q:VH):Prop:=
 ldMap h free0 fun m1=>
 lookB .i64 (.int .i64 0) m1 y0 h fun v3 b4=>
 ∃n5:Int,∃b6:Bool,(Value.tuple #[v3,.bool b4])=(.tuple #[(.int .i64 n5),(.bool b6)])∧
 Q (.bool (!b6)) h
noncomputable def tab_graph_ordered_1:Tab:=tb (lookT .done []) (lookT [] []) (lookT none [])
theorem call_graph_ordered_1 (y0:Int) (free0:Addr) {h:Heap} {Q:VH} (H:graph_ordered_1 y0 free0 h Q):callP P n_graph_ordered_1 #[(.int .i64 y0),(.pointer (some free0))] h Q:=
 @callP_of P n_graph_ordered_1 Tryz.f71 tab_graph_ordered_1 [(.int .i64 y0),(.pointer (some free0))] h Q mixed Tryz.func71 Tryz.call71 (by kernel_rfl) (Eq.mpr (by kernel_rfl) H)
def slices_IndexFunc_int_int_at_graph_ordered_1_l2 (Q:VH) (K1:YH Y49) (y0p:OA) (y0n y0c:Nat) (f_1_c0:Addr) (t7 t8:Int) (h1:Heap):Prop:=
 ifB (decide (t8<t7)) (
 idxI y0p t8 y0n fun a2=>
 ldInt .i64 h1 (a2.add (t8.toNat*1)) fun n3=>
 callBool P n_graph_ordered_1 #[(.int .i64 n3),(.pointer (some f_1_c0))] h1 fun b5 h4=>
 ifB b5 (
 Q (.int .i64 t8) h4) (
 K1 ((y0p,y0n,y0c),((()),(f_1_c0,())),t7,(IntKind.wrap .i64 (t8+1)),()) h4)) (
 Q (.int .i64 (-1:Int)) h1)
def slices_IndexFunc_int_int_at_graph_ordered_1 (y0p:OA) (y0n y0c:Nat) (f_1_c0:Addr) (h:Heap) (Q:VH):Prop:=
 LoopS (S:=Y49) (fun K1 s h=>slices_IndexFunc_int_int_at_graph_ordered_1_l2 Q K1 s.1.1 s.1.2.1 s.1.2.2 s.2.1.2.1 s.2.2.1 s.2.2.2.1 h) ((y0p,y0n,y0c),((()),(f_1_c0,())),(y0n:Int),(0:Int),()) h
noncomputable def tab_slices_IndexFunc_int_int_at_graph_ordered_1:Tab:=tb (lookT .done []) (lookT [] [(2,[(0,SL),(1,.fn 71 [] [.adr]),(7,I6),(8,I6)])]) (lookT none [])
theorem call_slices_IndexFunc_int_int_at_graph_ordered_1 (y0p:OA) (y0n y0c:Nat) (f_1_c0:Addr) {h:Heap} {Q:VH} (H:slices_IndexFunc_int_int_at_graph_ordered_1 y0p y0n y0c f_1_c0 h Q):callP P n_slices_IndexFunc_int_int #[(.slice y0p y0n y0c),(.func (.func n_graph_ordered_1) #[] #[(.pointer (some f_1_c0))])] h Q:=
 @callP_of P n_slices_IndexFunc_int_int Tryz.f95 tab_slices_IndexFunc_int_int_at_graph_ordered_1 [(.slice y0p y0n y0c),(.func (.func n_graph_ordered_1) #[] #[(.pointer (some f_1_c0))])] h Q mixed Tryz.func95 Tryz.call95 (by kernel_rfl) (Eq.mpr (by kernel_rfl) H)
def slices_IndexFunc_int_int_at_graph_rate_1_l2 (Q:VH) (K1:YH Y49) (y0p:OA) (y0n y0c:Nat) (f_1_c0:Addr) (t7 t8:Int) (h1:Heap):Prop:=
 ifB (decide (t8<t7)) (
 idxI y0p t8 y0n fun a2=>
 ldInt .i64 h1 (a2.add (t8.toNat*1)) fun n3=>
 callBool P n_graph_rate_1 #[(.int .i64 n3),(.pointer (some f_1_c0))] h1 fun b5 h4=>
 ifB b5 (
 Q (.int .i64 t8) h4) (
 K1 ((y0p,y0n,y0c),((()),(f_1_c0,())),t7,(IntKind.wrap .i64 (t8+1)),()) h4)) (
 Q (.int .i64 (-1:Int)) h1)
def slices_IndexFunc_int_int_at_graph_rate_1 (y0p:OA) (y0n y0c:Nat) (f_1_c0:Addr) (h:Heap) (Q:VH):Prop:=
 LoopS (S:=Y49) (fun K1 s h=>slices_IndexFunc_int_int_at_graph_rate_1_l2 Q K1 s.1.1 s.1.2.1 s.1.2.2 s.2.1.2.1 s.2.2.1 s.2.2.2.1 h) ((y0p,y0n,y0c),((()),(f_1_c0,())),(y0n:Int),(0:Int),()) h
noncomputable def tab_slices_IndexFunc_int_int_at_graph_rate_1:Tab:=tb (lookT .done []) (lookT [] [(2,[(0,SL),(1,.fn 78 [] [.adr]),(7,I6),(8,I6)])]) (lookT none [])
theorem call_slices_IndexFunc_int_int_at_graph_rate_1 (y0p:OA) (y0n y0c:Nat) (f_1_c0:Addr) {h:Heap} {Q:VH} (H:slices_IndexFunc_int_int_at_graph_rate_1 y0p y0n y0c f_1_c0 h Q):callP P n_slices_IndexFunc_int_int #[(.slice y0p y0n y0c),(.func (.func n_graph_rate_1) #[] #[(.pointer (some f_1_c0))])] h Q:=
 @callP_of P n_slices_IndexFunc_int_int Tryz.f95 tab_slices_IndexFunc_int_int_at_graph_rate_1 [(.slice y0p y0n y0c),(.func (.func n_graph_rate_1) #[] #[(.pointer (some f_1_c0))])] h Q mixed Tryz.func95 Tryz.call95 (by kernel_rfl) (Eq.mpr (by kernel_rfl) H)
def slices_ContainsFunc_int_int_at_graph_ordered_1 (y0p:OA) (y0n y0c:Nat) (f_1_c0:Addr) (h:Heap) (Q:VH):Prop:=
 callInt P .i64 n_slices_IndexFunc_int_int #[(.slice y0p y0n y0c),(.func (.func n_graph_ordered_1) #[] #[(.pointer (some f_1_c0))])] h fun n2 h1=>
 Q (.bool (decide (n2≥0))) h1
noncomputable def tab_slices_ContainsFunc_int_int_at_graph_ordered_1:Tab:=tb (lookT .done []) (lookT [] []) (lookT none [])
theorem call_slices_ContainsFunc_int_int_at_graph_ordered_1 (y0p:OA) (y0n y0c:Nat) (f_1_c0:Addr) {h:Heap} {Q:VH} (H:slices_ContainsFunc_int_int_at_graph_ordered_1 y0p y0n y0c f_1_c0 h Q):callP P n_slices_ContainsFunc_int_int #[(.slice y0p y0n y0c),(.func (.func n_graph_ordered_1) #[] #[(.pointer (some f_1_c0))])] h Q:=
 @callP_of P n_slices_ContainsFunc_int_int Tryz.f70 tab_slices_ContainsFunc_int_int_at_graph_ordered_1 [(.slice y0p y0n y0c),(.func (.func n_graph_ordered_1) #[] #[(.pointer (some f_1_c0))])] h Q mixed Tryz.func70 Tryz.call70 (by kernel_rfl) (Eq.mpr (by kernel_rfl) H)
def slices_ContainsFunc_int_int_at_graph_rate_1 (y0p:OA) (y0n y0c:Nat) (f_1_c0:Addr) (h:Heap) (Q:VH):Prop:=
 callInt P .i64 n_slices_IndexFunc_int_int #[(.slice y0p y0n y0c),(.func (.func n_graph_rate_1) #[] #[(.pointer (some f_1_c0))])] h fun n2 h1=>
 Q (.bool (decide (n2≥0))) h1
noncomputable def tab_slices_ContainsFunc_int_int_at_graph_rate_1:Tab:=tb (lookT .done []) (lookT [] []) (lookT none [])
theorem call_slices_ContainsFunc_int_int_at_graph_rate_1 (y0p:OA) (y0n y0c:Nat) (f_1_c0:Addr) {h:Heap} {Q:VH} (H:slices_ContainsFunc_int_int_at_graph_rate_1 y0p y0n y0c f_1_c0 h Q):callP P n_slices_ContainsFunc_int_int #[(.slice y0p y0n y0c),(.func (.func n_graph_rate_1) #[] #[(.pointer (some f_1_c0))])] h Q:=
 @callP_of P n_slices_ContainsFunc_int_int Tryz.f70 tab_slices_ContainsFunc_int_int_at_graph_rate_1 [(.slice y0p y0n y0c),(.func (.func n_graph_rate_1) #[] #[(.pointer (some f_1_c0))])] h Q mixed Tryz.func70 Tryz.call70 (by kernel_rfl) (Eq.mpr (by kernel_rfl) H)
def graph_ordered_l6 (Q:VH) (K1:YH Y2) (K2:YH Y3) (y0p:OA) (y0n y0c:Nat) (y4:Addr) (y5p:OA) (y5n y5c:Nat) (t13 t14:Int) (t16_p:OA) (t16_n t16_c:Nat) (t17 t18:Int) (h8:Heap):Prop:=
 ifB (decide (t18<t17)) (
 idxI t16_p t18 t16_n fun a9=>
 ldAg A2 h8 (a9.add (t18.toNat*15)) fun x10=>
 newI h8 (.cells (mkS' A2 (zT A2)).toArray 40 (0,0)) fun b11 h12=>
 storeL (mkS' A2 x10) h12 ⟨b11,0,none⟩ 0 fun h13=>
 ldMap h13 y4 fun m14=>
 lookB .i64 (.int .i64 0) m14 (IntKind.wrap .i64 (t18+1)) h13 fun v16 b17=>
 ∃n18:Int,∃b19:Bool,(Value.tuple #[v16,.bool b17])=(.tuple #[(.int .i64 n18),(.bool b19)])∧
 ifB b19 (
 K2 ((y0p,y0n,y0c),y4,(y5p,y5n,y5c),t13,t14,(t16_p,t16_n,t16_c),t17,(IntKind.wrap .i64 (t18+1)),()) h13) (
 ldSlice h13 ⟨b11,1,none⟩ fun p20 l20 c20=>
 callBool P n_slices_ContainsFunc_int_int #[(.slice p20 l20 c20),(.func (.func n_graph_ordered_1) #[] #[(.pointer (some y4))])] h13 fun b22 h21=>
 ifB b22 (
 K2 ((y0p,y0n,y0c),y4,(y5p,y5n,y5c),t13,t14,(t16_p,t16_n,t16_c),t17,(IntKind.wrap .i64 (t18+1)),()) h21) (
 ldMap h21 y4 fun m23=>
 updB .i64 m23 (IntKind.wrap .i64 (t18+1)) (.int .i64 (y5n:Int)) h21 fun h24=>
 newI h24 (.cells #[(.int .i64 (IntKind.wrap .i64 (t18+1)))] 3 (0,0)) fun b25 h26=>
 appI 3 1 8 (.int .i64 0) y5p y5n y5c (some ⟨b25,0,none⟩) 1 h26 fun p27 l27 c27 h28=>
 K1 ((y0p,y0n,y0c),y4,(p27,l27,c27),t13,(IntKind.wrap .i64 (t14+1)),()) h28))) (
 K1 ((y0p,y0n,y0c),y4,(y5p,y5n,y5c),t13,(IntKind.wrap .i64 (t14+1)),()) h8)
def graph_ordered_l4 (Q:VH) (K1:YH Y2) (y0p:OA) (y0n y0c:Nat) (y4:Addr) (y5p:OA) (y5n y5c:Nat) (t13 t14:Int) (h7:Heap):Prop:=
 ifB (decide (t14<t13)) (
 LoopS (S:=Y3) (fun K2 s h=>graph_ordered_l6 Q K1 K2 s.1.1 s.1.2.1 s.1.2.2 s.2.1 s.2.2.1.1 s.2.2.1.2.1 s.2.2.1.2.2 s.2.2.2.1 s.2.2.2.2.1 s.2.2.2.2.2.1.1 s.2.2.2.2.2.1.2.1 s.2.2.2.2.2.1.2.2 s.2.2.2.2.2.2.1 s.2.2.2.2.2.2.2.1 h) ((y0p,y0n,y0c),y4,(y5p,y5n,y5c),t13,t14,(y0p,y0n,y0c),(y0n:Int),(0:Int),()) h7) (
 Q (.tuple #[(.slice y5p y5n y5c),(.bool ((y5n:Int)==(y0n:Int)))]) h7)
def graph_ordered (y0p:OA) (y0n y0c:Nat) (h:Heap) (Q:VH):Prop:=
 newI h (.map #[] 0) fun r2 h1=>
 updB .i64 (some r2) 0 (.int .i64 0) h1 fun h3=>
 newI h3 (.cells #[(.map none)] 43 (0,0)) fun b4 h5=>
 stI h5 ⟨b4,0,none⟩ (.map (some r2)) fun h6=>
 LoopS (S:=Y2) (fun K1 s h=>graph_ordered_l4 Q K1 s.1.1 s.1.2.1 s.1.2.2 s.2.1 s.2.2.1.1 s.2.2.1.2.1 s.2.2.1.2.2 s.2.2.2.1 s.2.2.2.2.1 h) ((y0p,y0n,y0c),⟨b4,0,none⟩,(none,0,0),(y0n:Int),(0:Int),()) h6
noncomputable def tab_graph_ordered:Tab:=tb (lookT .done []) (lookT [] [(4,[(0,SL),(4,.sc (.adr)),(5,SL),(13,I6),(14,I6)]),(6,[(0,SL),(4,.sc (.adr)),(5,SL),(13,I6),(14,I6),(16,SL),(17,I6),(18,I6)])]) (lookT none [])
theorem call_graph_ordered (y0p:OA) (y0n y0c:Nat) {h:Heap} {Q:VH} (H:graph_ordered y0p y0n y0c h Q):callP P n_graph_ordered #[(.slice y0p y0n y0c)] h Q:=
 @callP_of P n_graph_ordered Tryz.f50 tab_graph_ordered [(.slice y0p y0n y0c)] h Q mixed Tryz.func50 Tryz.call50 (by kernel_rfl) (Eq.mpr (by kernel_rfl) H)
def graph_pick_l3 (Q:VH) (K1:YH Y4) (y0p:OA) (y0n y0c:Nat) (y5p:OA) (y5n y5c:Nat) (t11_p:OA) (t11_n t11_c:Nat) (t12 t13:Int) (h3:Heap):Prop:=
 ifB (decide (t13<t12)) (
 idxI t11_p t13 t11_n fun a4=>
 ldInt .i64 h3 (a4.add (t13.toNat*1)) fun n5=>
 idxI y0p n5 y0n fun a6=>
 ldInt .i64 h3 (a6.add (n5.toNat*1)) fun n7=>
 idxI y5p t13 y5n fun a8=>
 stI h3 (a8.add (t13.toNat*1)) (.int .i64 n7) fun h9=>
 K1 ((y0p,y0n,y0c),(y5p,y5n,y5c),(t11_p,t11_n,t11_c),t12,(IntKind.wrap .i64 (t13+1)),()) h9) (
 Q (.slice y5p y5n y5c) h3)
def graph_pick (y0p:OA) (y0n y0c:Nat) (y1p:OA) (y1n y1c:Nat) (h:Heap) (Q:VH):Prop:=
 mkI 3 1 8 (.int .i64 0) (y1n:Int) (y1n:Int) h fun b1 h2=>
 LoopS (S:=Y4) (fun K1 s h=>graph_pick_l3 Q K1 s.1.1 s.1.2.1 s.1.2.2 s.2.1.1 s.2.1.2.1 s.2.1.2.2 s.2.2.1.1 s.2.2.1.2.1 s.2.2.1.2.2 s.2.2.2.1 s.2.2.2.2.1 h) ((y0p,y0n,y0c),(some ⟨b1,0,none⟩,(y1n:Int).toNat,(y1n:Int).toNat),(y1p,y1n,y1c),(y1n:Int),(0:Int),()) h2
noncomputable def tab_graph_pick:Tab:=tb (lookT .done []) (lookT [] [(3,[(0,SL),(5,SL),(11,SL),(12,I6),(13,I6)])]) (lookT none [])
theorem call_graph_pick (y0p:OA) (y0n y0c:Nat) (y1p:OA) (y1n y1c:Nat) {h:Heap} {Q:VH} (H:graph_pick y0p y0n y0c y1p y1n y1c h Q):callP P n_graph_pick #[(.slice y0p y0n y0c),(.slice y1p y1n y1c)] h Q:=
 @callP_of P n_graph_pick Tryz.f51 tab_graph_pick [(.slice y0p y0n y0c),(.slice y1p y1n y1c)] h Q mixed Tryz.func51 Tryz.call51 (by kernel_rfl) (Eq.mpr (by kernel_rfl) H)
def kind_in (y0 y1 y2:Int) (h:Heap) (Q:VH):Prop:=
 ifB (decide (y0≥y1)) (
 Q (.bool (decide (y0≤y2))) h) (
 Q (.bool false) h)
noncomputable def tab_kind_in:Tab:=tb (lookT .done []) (lookT [] []) (lookT none [])
theorem call_kind_in (y0 y1 y2:Int) {h:Heap} {Q:VH} (H:kind_in y0 y1 y2 h Q):callP P n_kind_in #[(.int .i64 y0),(.int .i64 y1),(.int .i64 y2)] h Q:=
 @callP_of P n_kind_in Tryz.f73 tab_kind_in [(.int .i64 y0),(.int .i64 y1),(.int .i64 y2)] h Q mixed Tryz.func73 Tryz.call73 (by kernel_rfl) (Eq.mpr (by kernel_rfl) H)
def kind_every_l2 (Q:VH) (K1:(Int×Int×S3×Int×Int×Unit)→Heap→Prop) (y1 y2:Int) (t9_p:OA) (t9_n t9_c:Nat) (t10 t11:Int) (h1:Heap):Prop:=
 ifB (decide (t11<t10)) (
 idxI t9_p t11 t9_n fun a2=>
 ldInt .i64 h1 (a2.add (t11.toNat*1)) fun n3=>
 callBool P n_kind_in #[(.int .i64 n3),(.int .i64 y1),(.int .i64 y2)] h1 fun b5 h4=>
 ifB (!b5) (
 Q (.bool false) h4) (
 K1 (y1,y2,(t9_p,t9_n,t9_c),t10,(IntKind.wrap .i64 (t11+1)),()) h4)) (
 Q (.bool true) h1)
def kind_every (y0p:OA) (y0n y0c:Nat) (y1 y2:Int) (h:Heap) (Q:VH):Prop:=
 LoopS (S:=(Int×Int×S3×Int×Int×Unit)) (fun K1 s h=>kind_every_l2 Q K1 s.1 s.2.1 s.2.2.1.1 s.2.2.1.2.1 s.2.2.1.2.2 s.2.2.2.1 s.2.2.2.2.1 h) (y1,y2,(y0p,y0n,y0c),(y0n:Int),(0:Int),()) h
noncomputable def tab_kind_every:Tab:=tb (lookT .done []) (lookT [] [(2,[(1,I6),(2,I6),(9,SL),(10,I6),(11,I6)])]) (lookT none [])
theorem call_kind_every (y0p:OA) (y0n y0c:Nat) (y1 y2:Int) {h:Heap} {Q:VH} (H:kind_every y0p y0n y0c y1 y2 h Q):callP P n_kind_every #[(.slice y0p y0n y0c),(.int .i64 y1),(.int .i64 y2)] h Q:=
 @callP_of P n_kind_every Tryz.f72 tab_kind_every [(.slice y0p y0n y0c),(.int .i64 y1),(.int .i64 y2)] h Q mixed Tryz.func72 Tryz.call72 (by kernel_rfl) (Eq.mpr (by kernel_rfl) H)
def kind_has (y0:TS A2) (y1:Int) (h:Heap) (Q:VH):Prop:=
 newI h (.cells (mkS' A2 y0).toArray 40 (0,0)) fun b1 h2=>
 ldInt .i64 h2 ⟨b1,0,none⟩ fun n3=>
 ifB (decide (n3<1)) (
 Q (.bool false) h2) (
 ldInt .i64 h2 ⟨b1,0,none⟩ fun n4=>
 ifB (decide (n4≥13)) (
 Q (.bool false) h2) (
 ldInt .i64 h2 ⟨b1,0,none⟩ fun n5=>
 arrI n5 13 fun _=>
 ldInt .i64 h2 (Addr.add ⟨0,0,none⟩ (n5.toNat*1)) fun n6=>
 ldInt .i64 h2 ⟨b1,14,none⟩ fun n7=>
 ifB ((andI .i64 n7 1) !=0) (
 ldInt .i64 h2 ⟨b1,14,none⟩ fun n8=>
 ifB ((andI .i64 n8 2) !=0) (
 Q (.bool ((andI .i64 (orI .i64 (orI .i64 n6 64) 32) y1) !=0)) h2) (
 Q (.bool ((andI .i64 (orI .i64 n6 64) y1) !=0)) h2)) (
 ldInt .i64 h2 ⟨b1,14,none⟩ fun n9=>
 ifB ((andI .i64 n9 2) !=0) (
 Q (.bool ((andI .i64 (orI .i64 n6 32) y1) !=0)) h2) (
 Q (.bool ((andI .i64 n6 y1) !=0)) h2))))
noncomputable def tab_kind_has:Tab:=tb (lookT .done []) (lookT [] []) (lookT none [])
theorem call_kind_has (y0:TS A2) (y1:Int) {h:Heap} {Q:VH} (H:kind_has y0 y1 h Q):callP P n_kind_has #[(agS A2 y0),(.int .i64 y1)] h Q:=
 @callP_of P n_kind_has Tryz.f74 tab_kind_has [(agS A2 y0),(.int .i64 y1)] h Q mixed Tryz.func74 Tryz.call74 (by kernel_rfl) (Eq.mpr (by kernel_rfl) H)
def kind_bare_l2 (Q:VH) (K1:(Addr×TS A3×Int×Unit)→Heap→Prop) (y1:Addr) (t61:TS A3) (t62:Int) (h5:Heap):Prop:=
 ifB (decide (t62<6)) (
 arrI t62 6 fun _=> ∃n6:Int,∃b7:Bool,Array.extract (#[(.int .i64 t61.1),(.bool t61.2.1),(.int .i64 t61.2.2.1),(.bool t61.2.2.2.1),(.int .i64 t61.2.2.2.2.1),(.bool t61.2.2.2.2.2.1),(.int .i64 t61.2.2.2.2.2.2.1),(.bool t61.2.2.2.2.2.2.2.1),(.int .i64 t61.2.2.2.2.2.2.2.2.1),(.bool t61.2.2.2.2.2.2.2.2.2.1),(.int .i64 t61.2.2.2.2.2.2.2.2.2.2.1),(.bool t61.2.2.2.2.2.2.2.2.2.2.2.1)]:Array Value) (t62.toNat*2) (t62.toNat*2+2)=(#[(.int .i64 n6),(.bool b7)]:Array Value)∧
 newI h5 (.cells #[(.int .i64 0),(.bool false)] 108 (0,0)) fun b8 h9=>
 stI h9 ⟨b8,0,none⟩ (.int .i64 n6) fun h10=>
 stI h10 ⟨b8,1,none⟩ (.bool b7) fun h11=>
 ldBool h11 ⟨b8,1,none⟩ fun b12=>
 ifB b12 (
 ldAg A2 h11 y1 fun x13=>
 ldInt .i64 h11 ⟨b8,0,none⟩ fun n14=>
 callBool P n_kind_has #[(agS A2 x13),(.int .i64 n14)] h11 fun b16 h15=>
 ifB (!b16) (
 Q (.bool false) h15) (
 K1 (y1,t61,(IntKind.wrap .i64 (t62+1)),()) h15)) (
 K1 (y1,t61,(IntKind.wrap .i64 (t62+1)),()) h11)) (
 Q (.bool true) h5)
def kind_bare_j2 (Q:VH) (y1:Addr) (t61:TS A3) (t62:Int) (h4:Heap):Prop:=
 LoopS (S:=(Addr×TS A3×Int×Unit)) (fun K1 s h=>kind_bare_l2 Q K1 s.1 s.2.1 s.2.2.1 h) (y1,t61,t62,()) h4
def kind_bare (y0:TS A2) (h:Heap) (Q:VH):Prop:=
 newI h (.cells (mkS' A2 y0).toArray 40 (0,0)) fun b1 h2=>
 ∃J3:(Addr×TS A3×Int×Unit)→Heap→Prop,(∀s h,J3 s h→kind_bare_j2 Q s.1 s.2.1 s.2.2.1 h)∧
 ldInt .i64 h2 ⟨b1,4,none⟩ fun n17=>
 ifB (n17 !=0) (
 ldInt .i64 h2 ⟨b1,3,none⟩ fun n18=>
 ldInt .i64 h2 ⟨b1,2,none⟩ fun n19=>
 ldSlice h2 ⟨b1,8,none⟩ fun p20 l20 c20=>
 ifB (decide ((l20:Int)>0)) (
 ldInt .i64 h2 ⟨b1,12,none⟩ fun n21=>
 ifB (n21 !=0) (
 ldInt .i64 h2 ⟨b1,10,none⟩ fun n22=>
 ifB (n22 !=0) (
 J3 (⟨b1,0,none⟩,((1:Int),true,(17:Int),(n18 !=0),(2:Int),(n19 !=0),(4:Int),true,(32:Int),true,(64:Int),true,()),(0:Int),()) h2) (
 ldInt .i64 h2 ⟨b1,11,none⟩ fun n23=>
 J3 (⟨b1,0,none⟩,((1:Int),true,(17:Int),(n18 !=0),(2:Int),(n19 !=0),(4:Int),true,(32:Int),true,(64:Int),(n23 !=0),()),(0:Int),()) h2)) (
 ldInt .i64 h2 ⟨b1,13,none⟩ fun n24=>
 ldInt .i64 h2 ⟨b1,10,none⟩ fun n25=>
 ifB (n25 !=0) (
 J3 (⟨b1,0,none⟩,((1:Int),true,(17:Int),(n18 !=0),(2:Int),(n19 !=0),(4:Int),true,(32:Int),(n24 !=0),(64:Int),true,()),(0:Int),()) h2) (
 ldInt .i64 h2 ⟨b1,11,none⟩ fun n26=>
 J3 (⟨b1,0,none⟩,((1:Int),true,(17:Int),(n18 !=0),(2:Int),(n19 !=0),(4:Int),true,(32:Int),(n24 !=0),(64:Int),(n26 !=0),()),(0:Int),()) h2))) (
 ldSlice h2 ⟨b1,9,none⟩ fun p27 l27 c27=>
 ldInt .i64 h2 ⟨b1,12,none⟩ fun n28=>
 ifB (n28 !=0) (
 ldInt .i64 h2 ⟨b1,10,none⟩ fun n29=>
 ifB (n29 !=0) (
 J3 (⟨b1,0,none⟩,((1:Int),true,(17:Int),(n18 !=0),(2:Int),(n19 !=0),(4:Int),(decide ((l27:Int)>0)),(32:Int),true,(64:Int),true,()),(0:Int),()) h2) (
 ldInt .i64 h2 ⟨b1,11,none⟩ fun n30=>
 J3 (⟨b1,0,none⟩,((1:Int),true,(17:Int),(n18 !=0),(2:Int),(n19 !=0),(4:Int),(decide ((l27:Int)>0)),(32:Int),true,(64:Int),(n30 !=0),()),(0:Int),()) h2)) (
 ldInt .i64 h2 ⟨b1,13,none⟩ fun n31=>
 ldInt .i64 h2 ⟨b1,10,none⟩ fun n32=>
 ifB (n32 !=0) (
 J3 (⟨b1,0,none⟩,((1:Int),true,(17:Int),(n18 !=0),(2:Int),(n19 !=0),(4:Int),(decide ((l27:Int)>0)),(32:Int),(n31 !=0),(64:Int),true,()),(0:Int),()) h2) (
 ldInt .i64 h2 ⟨b1,11,none⟩ fun n33=>
 J3 (⟨b1,0,none⟩,((1:Int),true,(17:Int),(n18 !=0),(2:Int),(n19 !=0),(4:Int),(decide ((l27:Int)>0)),(32:Int),(n31 !=0),(64:Int),(n33 !=0),()),(0:Int),()) h2)))) (
 ldInt .i64 h2 ⟨b1,5,none⟩ fun n34=>
 ifB (n34 !=0) (
 ldInt .i64 h2 ⟨b1,3,none⟩ fun n35=>
 ldInt .i64 h2 ⟨b1,2,none⟩ fun n36=>
 ldSlice h2 ⟨b1,8,none⟩ fun p37 l37 c37=>
 ifB (decide ((l37:Int)>0)) (
 ldInt .i64 h2 ⟨b1,12,none⟩ fun n38=>
 ifB (n38 !=0) (
 ldInt .i64 h2 ⟨b1,10,none⟩ fun n39=>
 ifB (n39 !=0) (
 J3 (⟨b1,0,none⟩,((1:Int),true,(17:Int),(n35 !=0),(2:Int),(n36 !=0),(4:Int),true,(32:Int),true,(64:Int),true,()),(0:Int),()) h2) (
 ldInt .i64 h2 ⟨b1,11,none⟩ fun n40=>
 J3 (⟨b1,0,none⟩,((1:Int),true,(17:Int),(n35 !=0),(2:Int),(n36 !=0),(4:Int),true,(32:Int),true,(64:Int),(n40 !=0),()),(0:Int),()) h2)) (
 ldInt .i64 h2 ⟨b1,13,none⟩ fun n41=>
 ldInt .i64 h2 ⟨b1,10,none⟩ fun n42=>
 ifB (n42 !=0) (
 J3 (⟨b1,0,none⟩,((1:Int),true,(17:Int),(n35 !=0),(2:Int),(n36 !=0),(4:Int),true,(32:Int),(n41 !=0),(64:Int),true,()),(0:Int),()) h2) (
 ldInt .i64 h2 ⟨b1,11,none⟩ fun n43=>
 J3 (⟨b1,0,none⟩,((1:Int),true,(17:Int),(n35 !=0),(2:Int),(n36 !=0),(4:Int),true,(32:Int),(n41 !=0),(64:Int),(n43 !=0),()),(0:Int),()) h2))) (
 ldSlice h2 ⟨b1,9,none⟩ fun p44 l44 c44=>
 ldInt .i64 h2 ⟨b1,12,none⟩ fun n45=>
 ifB (n45 !=0) (
 ldInt .i64 h2 ⟨b1,10,none⟩ fun n46=>
 ifB (n46 !=0) (
 J3 (⟨b1,0,none⟩,((1:Int),true,(17:Int),(n35 !=0),(2:Int),(n36 !=0),(4:Int),(decide ((l44:Int)>0)),(32:Int),true,(64:Int),true,()),(0:Int),()) h2) (
 ldInt .i64 h2 ⟨b1,11,none⟩ fun n47=>
 J3 (⟨b1,0,none⟩,((1:Int),true,(17:Int),(n35 !=0),(2:Int),(n36 !=0),(4:Int),(decide ((l44:Int)>0)),(32:Int),true,(64:Int),(n47 !=0),()),(0:Int),()) h2)) (
 ldInt .i64 h2 ⟨b1,13,none⟩ fun n48=>
 ldInt .i64 h2 ⟨b1,10,none⟩ fun n49=>
 ifB (n49 !=0) (
 J3 (⟨b1,0,none⟩,((1:Int),true,(17:Int),(n35 !=0),(2:Int),(n36 !=0),(4:Int),(decide ((l44:Int)>0)),(32:Int),(n48 !=0),(64:Int),true,()),(0:Int),()) h2) (
 ldInt .i64 h2 ⟨b1,11,none⟩ fun n50=>
 J3 (⟨b1,0,none⟩,((1:Int),true,(17:Int),(n35 !=0),(2:Int),(n36 !=0),(4:Int),(decide ((l44:Int)>0)),(32:Int),(n48 !=0),(64:Int),(n50 !=0),()),(0:Int),()) h2)))) (
 ldInt .i64 h2 ⟨b1,6,none⟩ fun n51=>
 ifB (n51 !=0) (
 ldInt .i64 h2 ⟨b1,3,none⟩ fun n52=>
 ldInt .i64 h2 ⟨b1,2,none⟩ fun n53=>
 ldSlice h2 ⟨b1,8,none⟩ fun p54 l54 c54=>
 ifB (decide ((l54:Int)>0)) (
 ldInt .i64 h2 ⟨b1,12,none⟩ fun n55=>
 ifB (n55 !=0) (
 ldInt .i64 h2 ⟨b1,10,none⟩ fun n56=>
 ifB (n56 !=0) (
 J3 (⟨b1,0,none⟩,((1:Int),true,(17:Int),(n52 !=0),(2:Int),(n53 !=0),(4:Int),true,(32:Int),true,(64:Int),true,()),(0:Int),()) h2) (
 ldInt .i64 h2 ⟨b1,11,none⟩ fun n57=>
 J3 (⟨b1,0,none⟩,((1:Int),true,(17:Int),(n52 !=0),(2:Int),(n53 !=0),(4:Int),true,(32:Int),true,(64:Int),(n57 !=0),()),(0:Int),()) h2)) (
 ldInt .i64 h2 ⟨b1,13,none⟩ fun n58=>
 ldInt .i64 h2 ⟨b1,10,none⟩ fun n59=>
 ifB (n59 !=0) (
 J3 (⟨b1,0,none⟩,((1:Int),true,(17:Int),(n52 !=0),(2:Int),(n53 !=0),(4:Int),true,(32:Int),(n58 !=0),(64:Int),true,()),(0:Int),()) h2) (
 ldInt .i64 h2 ⟨b1,11,none⟩ fun n60=>
 J3 (⟨b1,0,none⟩,((1:Int),true,(17:Int),(n52 !=0),(2:Int),(n53 !=0),(4:Int),true,(32:Int),(n58 !=0),(64:Int),(n60 !=0),()),(0:Int),()) h2))) (
 ldSlice h2 ⟨b1,9,none⟩ fun p61 l61 c61=>
 ldInt .i64 h2 ⟨b1,12,none⟩ fun n62=>
 ifB (n62 !=0) (
 ldInt .i64 h2 ⟨b1,10,none⟩ fun n63=>
 ifB (n63 !=0) (
 J3 (⟨b1,0,none⟩,((1:Int),true,(17:Int),(n52 !=0),(2:Int),(n53 !=0),(4:Int),(decide ((l61:Int)>0)),(32:Int),true,(64:Int),true,()),(0:Int),()) h2) (
 ldInt .i64 h2 ⟨b1,11,none⟩ fun n64=>
 J3 (⟨b1,0,none⟩,((1:Int),true,(17:Int),(n52 !=0),(2:Int),(n53 !=0),(4:Int),(decide ((l61:Int)>0)),(32:Int),true,(64:Int),(n64 !=0),()),(0:Int),()) h2)) (
 ldInt .i64 h2 ⟨b1,13,none⟩ fun n65=>
 ldInt .i64 h2 ⟨b1,10,none⟩ fun n66=>
 ifB (n66 !=0) (
 J3 (⟨b1,0,none⟩,((1:Int),true,(17:Int),(n52 !=0),(2:Int),(n53 !=0),(4:Int),(decide ((l61:Int)>0)),(32:Int),(n65 !=0),(64:Int),true,()),(0:Int),()) h2) (
 ldInt .i64 h2 ⟨b1,11,none⟩ fun n67=>
 J3 (⟨b1,0,none⟩,((1:Int),true,(17:Int),(n52 !=0),(2:Int),(n53 !=0),(4:Int),(decide ((l61:Int)>0)),(32:Int),(n65 !=0),(64:Int),(n67 !=0),()),(0:Int),()) h2)))) (
 ldInt .i64 h2 ⟨b1,7,none⟩ fun n68=>
 ldInt .i64 h2 ⟨b1,3,none⟩ fun n69=>
 ldInt .i64 h2 ⟨b1,2,none⟩ fun n70=>
 ldSlice h2 ⟨b1,8,none⟩ fun p71 l71 c71=>
 ifB (decide ((l71:Int)>0)) (
 ldInt .i64 h2 ⟨b1,12,none⟩ fun n72=>
 ifB (n72 !=0) (
 ldInt .i64 h2 ⟨b1,10,none⟩ fun n73=>
 ifB (n73 !=0) (
 J3 (⟨b1,0,none⟩,((1:Int),(n68 !=0),(17:Int),(n69 !=0),(2:Int),(n70 !=0),(4:Int),true,(32:Int),true,(64:Int),true,()),(0:Int),()) h2) (
 ldInt .i64 h2 ⟨b1,11,none⟩ fun n74=>
 J3 (⟨b1,0,none⟩,((1:Int),(n68 !=0),(17:Int),(n69 !=0),(2:Int),(n70 !=0),(4:Int),true,(32:Int),true,(64:Int),(n74 !=0),()),(0:Int),()) h2)) (
 ldInt .i64 h2 ⟨b1,13,none⟩ fun n75=>
 ldInt .i64 h2 ⟨b1,10,none⟩ fun n76=>
 ifB (n76 !=0) (
 J3 (⟨b1,0,none⟩,((1:Int),(n68 !=0),(17:Int),(n69 !=0),(2:Int),(n70 !=0),(4:Int),true,(32:Int),(n75 !=0),(64:Int),true,()),(0:Int),()) h2) (
 ldInt .i64 h2 ⟨b1,11,none⟩ fun n77=>
 J3 (⟨b1,0,none⟩,((1:Int),(n68 !=0),(17:Int),(n69 !=0),(2:Int),(n70 !=0),(4:Int),true,(32:Int),(n75 !=0),(64:Int),(n77 !=0),()),(0:Int),()) h2))) (
 ldSlice h2 ⟨b1,9,none⟩ fun p78 l78 c78=>
 ldInt .i64 h2 ⟨b1,12,none⟩ fun n79=>
 ifB (n79 !=0) (
 ldInt .i64 h2 ⟨b1,10,none⟩ fun n80=>
 ifB (n80 !=0) (
 J3 (⟨b1,0,none⟩,((1:Int),(n68 !=0),(17:Int),(n69 !=0),(2:Int),(n70 !=0),(4:Int),(decide ((l78:Int)>0)),(32:Int),true,(64:Int),true,()),(0:Int),()) h2) (
 ldInt .i64 h2 ⟨b1,11,none⟩ fun n81=>
 J3 (⟨b1,0,none⟩,((1:Int),(n68 !=0),(17:Int),(n69 !=0),(2:Int),(n70 !=0),(4:Int),(decide ((l78:Int)>0)),(32:Int),true,(64:Int),(n81 !=0),()),(0:Int),()) h2)) (
 ldInt .i64 h2 ⟨b1,13,none⟩ fun n82=>
 ldInt .i64 h2 ⟨b1,10,none⟩ fun n83=>
 ifB (n83 !=0) (
 J3 (⟨b1,0,none⟩,((1:Int),(n68 !=0),(17:Int),(n69 !=0),(2:Int),(n70 !=0),(4:Int),(decide ((l78:Int)>0)),(32:Int),(n82 !=0),(64:Int),true,()),(0:Int),()) h2) (
 ldInt .i64 h2 ⟨b1,11,none⟩ fun n84=>
 J3 (⟨b1,0,none⟩,((1:Int),(n68 !=0),(17:Int),(n69 !=0),(2:Int),(n70 !=0),(4:Int),(decide ((l78:Int)>0)),(32:Int),(n82 !=0),(64:Int),(n84 !=0),()),(0:Int),()) h2))))))
noncomputable def tab_kind_bare:Tab:=tb (lookT .done []) (lookT [] [(2,[(1,.sc (.adr)),(61,.ag A3),(62,I6)])]) (lookT none [(2,some [(1,.sc (.adr)),(61,.ag A3),(62,I6)])])
theorem call_kind_bare (y0:TS A2) {h:Heap} {Q:VH} (H:kind_bare y0 h Q):callP P n_kind_bare #[(agS A2 y0)] h Q:=
 @callP_of P n_kind_bare Tryz.f75 tab_kind_bare [(agS A2 y0)] h Q mixed Tryz.func75 Tryz.call75 (by kernel_rfl) (Eq.mpr (by kernel_rfl) H)
def kind_Span (y0:TS A2) (h:Heap) (Q:VH):Prop:=
 newI h (.cells (mkS' A2 y0).toArray 40 (0,0)) fun b1 h2=>
 ldAg A2 h2 ⟨b1,0,none⟩ fun x3=>
 callBool P n_kind_has #[(agS A2 x3),(.int .i64 1)] h2 fun b5 h4=>
 ifB b5 (
 ldInt .i64 h4 ⟨b1,3,none⟩ fun n6=>
 ldInt .i64 h4 ⟨b1,5,none⟩ fun n7=>
 Q (.int .i64 (IntKind.wrap .i64 ((IntKind.wrap .i64 ((IntKind.wrap .i64 (n6-1))*n7))+1))) h4) (
 ldAg A2 h4 ⟨b1,0,none⟩ fun x8=>
 callBool P n_kind_has #[(agS A2 x8),(.int .i64 16)] h4 fun b10 h9=>
 ifB b10 (
 ldInt .i64 h9 ⟨b1,3,none⟩ fun n11=>
 Q (.int .i64 n11) h9) (
 Q (.int .i64 1) h9))
noncomputable def tab_kind_Span:Tab:=tb (lookT .done []) (lookT [] []) (lookT none [])
theorem call_kind_Span (y0:TS A2) {h:Heap} {Q:VH} (H:kind_Span y0 h Q):callP P n_kind_Span #[(agS A2 y0)] h Q:=
 @callP_of P n_kind_Span Tryz.f77 tab_kind_Span [(agS A2 y0)] h Q mixed Tryz.func77 Tryz.call77 (by kernel_rfl) (Eq.mpr (by kernel_rfl) H)
def kind_fits_j14 (Q:VH) (y2:Addr) (h8:Heap):Prop:=
 ldInt .i64 h8 (y2.add 10) fun n9=>
 callBool P n_kind_in #[(.int .i64 n9),(.int .i64 0),(.int .i64 32767)] h8 fun b11 h10=>
 ifB b11 (
 ldInt .i64 h10 (y2.add 11) fun n12=>
 callBool P n_kind_in #[(.int .i64 n12),(.int .i64 0),(.int .i64 30)] h10 fun b14 h13=>
 ifB b14 (
 ldInt .i64 h13 (y2.add 12) fun n15=>
 ldInt .i64 h13 (y2.add 13) fun n16=>
 callBool P n_kind_in #[(.int .i64 n15),(.int .i64 (-2147483648:Int)),(.int .i64 n16)] h13 fun b18 h17=>
 ifB b18 (
 ldInt .i64 h17 (y2.add 13) fun n19=>
 ldInt .i64 h17 (y2.add 12) fun n20=>
 callBool P n_kind_in #[(.int .i64 n19),(.int .i64 n20),(.int .i64 2147483647)] h17 fun b22 h21=>
 Q (.bool b22) h21) (
 Q (.bool false) h17)) (
 Q (.bool false) h13)) (
 Q (.bool false) h10)
def kind_fits_j5 (Q:VH) (y1:Int) (y2:Addr) (h6:Heap):Prop:=
 ∃J7:(Addr×Unit)→Heap→Prop,(∀s h,J7 s h→kind_fits_j14 Q s.1 h)∧
 ldAg A2 h6 y2 fun x23=>
 callBool P n_kind_has #[(agS A2 x23),(.int .i64 4)] h6 fun b25 h24=>
 ifB b25 (
 ldInt .i64 h24 (y2.add 2) fun n26=>
 ldInt .i64 h24 y2 fun n27=>
 ifB (n27==2) (
 ldInt .i64 h24 (y2.add 3) fun n28=>
 ldSlice h24 (y2.add 8) fun p29 l29 c29=>
 ifB ((l29:Int) !=(IntKind.wrap .i64 (y1*(IntKind.wrap .i64 ((1:Int)*n28))))) (
 Q (.bool false) h24) (
 ldSlice h24 (y2.add 9) fun p30 l30 c30=>
 ifB ((l30:Int) !=y1) (
 Q (.bool false) h24) (
 ldSlice h24 (y2.add 8) fun p31 l31 c31=>
 callBool P n_kind_every #[(.slice p31 l31 c31),(.int .i64 (-128:Int)),(.int .i64 127)] h24 fun b33 h32=>
 ifB (!b33) (
 Q (.bool false) h32) (
 ldSlice h32 (y2.add 9) fun p34 l34 c34=>
 callBool P n_kind_every #[(.slice p34 l34 c34),(.int .i64 (-16777216:Int)),(.int .i64 16777216)] h32 fun b36 h35=>
 ifB (!b36) (
 Q (.bool false) h35) (
 J7 (y2,()) h35))))) (
 ifB (n27==1) (
 ldInt .i64 h24 (y2.add 3) fun n37=>
 ldSlice h24 (y2.add 8) fun p38 l38 c38=>
 ifB ((l38:Int) !=(IntKind.wrap .i64 (n26*(IntKind.wrap .i64 (y1*n37))))) (
 Q (.bool false) h24) (
 ldSlice h24 (y2.add 9) fun p39 l39 c39=>
 ifB ((l39:Int) !=n26) (
 Q (.bool false) h24) (
 ldSlice h24 (y2.add 8) fun p40 l40 c40=>
 callBool P n_kind_every #[(.slice p40 l40 c40),(.int .i64 (-128:Int)),(.int .i64 127)] h24 fun b42 h41=>
 ifB (!b42) (
 Q (.bool false) h41) (
 ldSlice h41 (y2.add 9) fun p43 l43 c43=>
 callBool P n_kind_every #[(.slice p43 l43 c43),(.int .i64 (-16777216:Int)),(.int .i64 16777216)] h41 fun b45 h44=>
 ifB (!b45) (
 Q (.bool false) h44) (
 J7 (y2,()) h44))))) (
 ldSlice h24 (y2.add 8) fun p46 l46 c46=>
 ifB ((l46:Int) !=(IntKind.wrap .i64 (n26*y1))) (
 Q (.bool false) h24) (
 ldSlice h24 (y2.add 9) fun p47 l47 c47=>
 ifB ((l47:Int) !=n26) (
 Q (.bool false) h24) (
 ldSlice h24 (y2.add 8) fun p48 l48 c48=>
 callBool P n_kind_every #[(.slice p48 l48 c48),(.int .i64 (-128:Int)),(.int .i64 127)] h24 fun b50 h49=>
 ifB (!b50) (
 Q (.bool false) h49) (
 ldSlice h49 (y2.add 9) fun p51 l51 c51=>
 callBool P n_kind_every #[(.slice p51 l51 c51),(.int .i64 (-16777216:Int)),(.int .i64 16777216)] h49 fun b53 h52=>
 ifB (!b53) (
 Q (.bool false) h52) (
 J7 (y2,()) h52))))))) (
 J7 (y2,()) h24)
def kind_fits_j3 (Q:VH) (y1:Int) (y2:Addr) (h4:Heap):Prop:=
 ∃J5:(Int×Addr×Unit)→Heap→Prop,(∀s h,J5 s h→kind_fits_j5 Q s.1 s.2.1 h)∧
 ldAg A2 h4 y2 fun x54=>
 callBool P n_kind_has #[(agS A2 x54),(.int .i64 1)] h4 fun b56 h55=>
 ifB b56 (
 ldInt .i64 h55 (y2.add 4) fun n57=>
 callBool P n_kind_in #[(.int .i64 n57),(.int .i64 1),(.int .i64 4)] h55 fun b59 h58=>
 ifB b59 (
 ldInt .i64 h58 (y2.add 5) fun n60=>
 callBool P n_kind_in #[(.int .i64 n60),(.int .i64 1),(.int .i64 4)] h58 fun b62 h61=>
 ifB b62 (
 ldInt .i64 h61 (y2.add 6) fun n63=>
 ldAg A2 h61 y2 fun x64=>
 callInt P .i64 n_kind_Span #[(agS A2 x64)] h61 fun n66 h65=>
 cellH h65 (y2.add 6)=some (.int .i64 n63)∧
 callBool P n_kind_in #[(.int .i64 n63),(.int .i64 0),(.int .i64 (IntKind.wrap .i64 (n66-1)))] h65 fun b68 h67=>
 ifB b68 (
 ldInt .i64 h67 (y2.add 7) fun n69=>
 ldAg A2 h67 y2 fun x70=>
 callInt P .i64 n_kind_Span #[(agS A2 x70)] h67 fun n72 h71=>
 cellH h71 (y2.add 7)=some (.int .i64 n69)∧
 cellH h71 (y2.add 6)=some (.int .i64 n63)∧
 callBool P n_kind_in #[(.int .i64 n69),(.int .i64 0),(.int .i64 (IntKind.wrap .i64 (n72-1)))] h71 fun b74 h73=>
 cellH h73 (y2.add 6)=some (.int .i64 n63)∧
 ifB (!b74) (
 Q (.bool false) h73) (
 J5 (y1,y2,()) h73)) (
 cellH h67 (y2.add 6)=some (.int .i64 n63)∧
 cellH h67 (y2.add 6)=some (.int .i64 n63)∧
 ifB (!false) (
 Q (.bool false) h67) (
 J5 (y1,y2,()) h67))) (
 ifB (!false) (
 Q (.bool false) h61) (
 J5 (y1,y2,()) h61))) (
 ifB (!false) (
 Q (.bool false) h58) (
 J5 (y1,y2,()) h58))) (
 J5 (y1,y2,()) h55)
def kind_fits (y0:TS A2) (y1:Int) (h:Heap) (Q:VH):Prop:=
 newI h (.cells (mkS' A2 y0).toArray 40 (0,0)) fun b1 h2=>
 ∃J3:(Int×Addr×Unit)→Heap→Prop,(∀s h,J3 s h→kind_fits_j3 Q s.1 s.2.1 h)∧
 ldAg A2 h2 ⟨b1,0,none⟩ fun x75=>
 callBool P n_kind_has #[(agS A2 x75),(.int .i64 17)] h2 fun b77 h76=>
 ifB b77 (
 ldInt .i64 h76 ⟨b1,3,none⟩ fun n78=>
 callBool P n_kind_in #[(.int .i64 n78),(.int .i64 1),(.int .i64 8)] h76 fun b80 h79=>
 ifB (!b80) (
 Q (.bool false) h79) (
 ldAg A2 h79 ⟨b1,0,none⟩ fun x81=>
 callBool P n_kind_has #[(agS A2 x81),(.int .i64 2)] h79 fun b83 h82=>
 ifB b83 (
 ldInt .i64 h82 ⟨b1,2,none⟩ fun n84=>
 callBool P n_kind_in #[(.int .i64 n84),(.int .i64 1),(.int .i64 16)] h82 fun b86 h85=>
 ifB (!b86) (
 Q (.bool false) h85) (
 J3 (y1,⟨b1,0,none⟩,()) h85)) (
 J3 (y1,⟨b1,0,none⟩,()) h82))) (
 ldAg A2 h76 ⟨b1,0,none⟩ fun x87=>
 callBool P n_kind_has #[(agS A2 x87),(.int .i64 2)] h76 fun b89 h88=>
 ifB b89 (
 ldInt .i64 h88 ⟨b1,2,none⟩ fun n90=>
 callBool P n_kind_in #[(.int .i64 n90),(.int .i64 1),(.int .i64 16)] h88 fun b92 h91=>
 ifB (!b92) (
 Q (.bool false) h91) (
 J3 (y1,⟨b1,0,none⟩,()) h91)) (
 J3 (y1,⟨b1,0,none⟩,()) h88))
noncomputable def tab_kind_fits:Tab:=tb (lookT .done [(3,(.alt 0 (.alt 1 (ones [2,3] (.alt 4 (.alt 5 (ones [6,7] (.alt 8 (.alt 9 (ones [10,11,12] (.early 13 (.alt 14 (.alt 15 (ones [16] (.alt 17 (ones [18,19,20] (.early 21 (.alt 22 (.alt 23 (ones [24] (.alt 25 (ones [26,27,28] .done) .stop)) .stop) .stop))) .stop)) .stop) .stop))) .stop) .stop)) .stop) .stop)) .stop) .stop))]) (lookT [] []) (lookT none [(3,some [(1,I6),(2,.sc (.adr))]),(5,some [(1,I6),(2,.sc (.adr))]),(14,some [(2,.sc (.adr))])])
theorem call_kind_fits (y0:TS A2) (y1:Int) {h:Heap} {Q:VH} (H:kind_fits y0 y1 h Q):callP P n_kind_fits #[(agS A2 y0),(.int .i64 y1)] h Q:=
 @callP_of P n_kind_fits Tryz.f76 tab_kind_fits [(agS A2 y0),(.int .i64 y1)] h Q mixed Tryz.func76 Tryz.call76 (by kernel_rfl) (Eq.mpr (by kernel_rfl) H)
def kind_Check_l11 (Q:VH) (K1:YH Y5) (y1p:OA) (y1n y1c:Nat) (y2:Addr) (y5:Int) (t72_p:OA) (t72_n t72_c:Nat) (t73 t74:Int) (h5:Heap):Prop:=
 ifB (decide (t74<t73)) (
 idxI t72_p t74 t72_n fun a6=>
 ldInt .i64 h5 (a6.add (t74.toNat*1)) fun n7=>
 ldInt .i64 h5 y2 fun n8=>
 ifB (n8==7) (
 idxI y1p 0 y1n fun a9=>
 ldInt .i64 h5 (a9.add ((0:Int).toNat*1)) fun n10=>
 ifB (n7 !=n10) (
 Q (.int .i64 14) h5) (
 K1 ((y1p,y1n,y1c),y2,(IntKind.wrap .i64 (y5+n7)),(t72_p,t72_n,t72_c),t73,(IntKind.wrap .i64 (t74+1)),()) h5)) (
 K1 ((y1p,y1n,y1c),y2,(IntKind.wrap .i64 (y5+n7)),(t72_p,t72_n,t72_c),t73,(IntKind.wrap .i64 (t74+1)),()) h5)) (
 ldInt .i64 h5 y2 fun n11=>
 ifB (n11==8) (
 ifB (decide (y5>16)) (
 Q (.int .i64 14) h5) (
 Q (.int .i64 0) h5)) (
 Q (.int .i64 0) h5))
def kind_Check_j9 (Q:VH) (y1p:OA) (y1n y1c:Nat) (y2:Addr) (h4:Heap):Prop:=
 LoopS (S:=Y5) (fun K1 s h=>kind_Check_l11 Q K1 s.1.1 s.1.2.1 s.1.2.2 s.2.1 s.2.2.1 s.2.2.2.1.1 s.2.2.2.1.2.1 s.2.2.2.1.2.2 s.2.2.2.2.1 s.2.2.2.2.2.1 h) ((y1p,y1n,y1c),y2,(0:Int),(y1p,y1n,y1c),(y1n:Int),(0:Int),()) h4
def kind_Check (y0:TS A2) (y1p:OA) (y1n y1c:Nat) (h:Heap) (Q:VH):Prop:=
 newI h (.cells (mkS' A2 y0).toArray 40 (0,0)) fun b1 h2=>
 ∃J3:(S3×Addr×Unit)→Heap→Prop,(∀s h,J3 s h→kind_Check_j9 Q s.1.1 s.1.2.1 s.1.2.2 s.2.1 h)∧
 ldSlice h2 ⟨b1,1,none⟩ fun p12 l12 c12=>
 ifB ((y1n:Int) !=(l12:Int)) (
 Q (.int .i64 1) h2) (
 callBool P n_kind_every #[(.slice y1p y1n y1c),(.int .i64 1),(.int .i64 16)] h2 fun b14 h13=>
 ifB (!b14) (
 Q (.int .i64 1) h13) (
 ldInt .i64 h13 ⟨b1,0,none⟩ fun n15=>
 callBool P n_kind_in #[(.int .i64 n15),(.int .i64 1),(.int .i64 12)] h13 fun b17 h16=>
 ifB (!b17) (
 Q (.int .i64 12) h16) (
 ldInt .i64 h16 ⟨b1,14,none⟩ fun n18=>
 callBool P n_kind_in #[(.int .i64 n18),(.int .i64 0),(.int .i64 3)] h16 fun b20 h19=>
 ifB (!b20) (
 Q (.int .i64 12) h19) (
 ldInt .i64 h19 ⟨b1,14,none⟩ fun n21=>
 ifB (n21 !=0) (
 ldAg A2 h19 ⟨b1,0,none⟩ fun x22=>
 callBool P n_kind_has #[(agS A2 x22),(.int .i64 4)] h19 fun b24 h23=>
 ifB (!b24) (
 Q (.int .i64 12) h23) (
 ldAg A2 h23 ⟨b1,0,none⟩ fun x25=>
 callBool P n_kind_has #[(agS A2 x25),(.int .i64 8)] h23 fun b27 h26=>
 ifB b27 (
 callBool P n_kind_in #[(.int .i64 (y1n:Int)),(.int .i64 2),(.int .i64 4)] h26 fun b29 h28=>
 ifB (!b29) (
 Q (.int .i64 12) h28) (
 ldAg A2 h28 ⟨b1,0,none⟩ fun x30=>
 callBool P n_kind_has #[(agS A2 x30),(.int .i64 8)] h28 fun b32 h31=>
 ifB (!b32) (
 ifB ((y1n:Int) !=1) (
 Q (.int .i64 12) h31) (
 ldAg A2 h31 ⟨b1,0,none⟩ fun x33=>
 callBool P n_kind_bare #[(agS A2 x33)] h31 fun b35 h34=>
 ifB (!b35) (
 Q (.int .i64 12) h34) (
 idxI y1p 0 y1n fun a36=>
 ldAg A2 h34 ⟨b1,0,none⟩ fun x37=>
 ldInt .i64 h34 (a36.add ((0:Int).toNat*1)) fun n38=>
 callBool P n_kind_fits #[(agS A2 x37),(.int .i64 n38)] h34 fun b40 h39=>
 ifB (!b40) (
 Q (.int .i64 22) h39) (
 J3 ((y1p,y1n,y1c),⟨b1,0,none⟩,()) h39)))) (
 ldAg A2 h31 ⟨b1,0,none⟩ fun x41=>
 callBool P n_kind_bare #[(agS A2 x41)] h31 fun b43 h42=>
 ifB (!b43) (
 Q (.int .i64 12) h42) (
 idxI y1p 0 y1n fun a44=>
 ldAg A2 h42 ⟨b1,0,none⟩ fun x45=>
 ldInt .i64 h42 (a44.add ((0:Int).toNat*1)) fun n46=>
 callBool P n_kind_fits #[(agS A2 x45),(.int .i64 n46)] h42 fun b48 h47=>
 ifB (!b48) (
 Q (.int .i64 22) h47) (
 J3 ((y1p,y1n,y1c),⟨b1,0,none⟩,()) h47))))) (
 ldAg A2 h26 ⟨b1,0,none⟩ fun x49=>
 callBool P n_kind_has #[(agS A2 x49),(.int .i64 8)] h26 fun b51 h50=>
 ifB (!b51) (
 ifB ((y1n:Int) !=1) (
 Q (.int .i64 12) h50) (
 ldAg A2 h50 ⟨b1,0,none⟩ fun x52=>
 callBool P n_kind_bare #[(agS A2 x52)] h50 fun b54 h53=>
 ifB (!b54) (
 Q (.int .i64 12) h53) (
 idxI y1p 0 y1n fun a55=>
 ldAg A2 h53 ⟨b1,0,none⟩ fun x56=>
 ldInt .i64 h53 (a55.add ((0:Int).toNat*1)) fun n57=>
 callBool P n_kind_fits #[(agS A2 x56),(.int .i64 n57)] h53 fun b59 h58=>
 ifB (!b59) (
 Q (.int .i64 22) h58) (
 J3 ((y1p,y1n,y1c),⟨b1,0,none⟩,()) h58)))) (
 ldAg A2 h50 ⟨b1,0,none⟩ fun x60=>
 callBool P n_kind_bare #[(agS A2 x60)] h50 fun b62 h61=>
 ifB (!b62) (
 Q (.int .i64 12) h61) (
 idxI y1p 0 y1n fun a63=>
 ldAg A2 h61 ⟨b1,0,none⟩ fun x64=>
 ldInt .i64 h61 (a63.add ((0:Int).toNat*1)) fun n65=>
 callBool P n_kind_fits #[(agS A2 x64),(.int .i64 n65)] h61 fun b67 h66=>
 ifB (!b67) (
 Q (.int .i64 22) h66) (
 J3 ((y1p,y1n,y1c),⟨b1,0,none⟩,()) h66)))))) (
 ldAg A2 h19 ⟨b1,0,none⟩ fun x68=>
 callBool P n_kind_has #[(agS A2 x68),(.int .i64 8)] h19 fun b70 h69=>
 ifB b70 (
 callBool P n_kind_in #[(.int .i64 (y1n:Int)),(.int .i64 2),(.int .i64 4)] h69 fun b72 h71=>
 ifB (!b72) (
 Q (.int .i64 12) h71) (
 ldAg A2 h71 ⟨b1,0,none⟩ fun x73=>
 callBool P n_kind_has #[(agS A2 x73),(.int .i64 8)] h71 fun b75 h74=>
 ifB (!b75) (
 ifB ((y1n:Int) !=1) (
 Q (.int .i64 12) h74) (
 ldAg A2 h74 ⟨b1,0,none⟩ fun x76=>
 callBool P n_kind_bare #[(agS A2 x76)] h74 fun b78 h77=>
 ifB (!b78) (
 Q (.int .i64 12) h77) (
 idxI y1p 0 y1n fun a79=>
 ldAg A2 h77 ⟨b1,0,none⟩ fun x80=>
 ldInt .i64 h77 (a79.add ((0:Int).toNat*1)) fun n81=>
 callBool P n_kind_fits #[(agS A2 x80),(.int .i64 n81)] h77 fun b83 h82=>
 ifB (!b83) (
 Q (.int .i64 22) h82) (
 J3 ((y1p,y1n,y1c),⟨b1,0,none⟩,()) h82)))) (
 ldAg A2 h74 ⟨b1,0,none⟩ fun x84=>
 callBool P n_kind_bare #[(agS A2 x84)] h74 fun b86 h85=>
 ifB (!b86) (
 Q (.int .i64 12) h85) (
 idxI y1p 0 y1n fun a87=>
 ldAg A2 h85 ⟨b1,0,none⟩ fun x88=>
 ldInt .i64 h85 (a87.add ((0:Int).toNat*1)) fun n89=>
 callBool P n_kind_fits #[(agS A2 x88),(.int .i64 n89)] h85 fun b91 h90=>
 ifB (!b91) (
 Q (.int .i64 22) h90) (
 J3 ((y1p,y1n,y1c),⟨b1,0,none⟩,()) h90))))) (
 ldAg A2 h69 ⟨b1,0,none⟩ fun x92=>
 callBool P n_kind_has #[(agS A2 x92),(.int .i64 8)] h69 fun b94 h93=>
 ifB (!b94) (
 ifB ((y1n:Int) !=1) (
 Q (.int .i64 12) h93) (
 ldAg A2 h93 ⟨b1,0,none⟩ fun x95=>
 callBool P n_kind_bare #[(agS A2 x95)] h93 fun b97 h96=>
 ifB (!b97) (
 Q (.int .i64 12) h96) (
 idxI y1p 0 y1n fun a98=>
 ldAg A2 h96 ⟨b1,0,none⟩ fun x99=>
 ldInt .i64 h96 (a98.add ((0:Int).toNat*1)) fun n100=>
 callBool P n_kind_fits #[(agS A2 x99),(.int .i64 n100)] h96 fun b102 h101=>
 ifB (!b102) (
 Q (.int .i64 22) h101) (
 J3 ((y1p,y1n,y1c),⟨b1,0,none⟩,()) h101)))) (
 ldAg A2 h93 ⟨b1,0,none⟩ fun x103=>
 callBool P n_kind_bare #[(agS A2 x103)] h93 fun b105 h104=>
 ifB (!b105) (
 Q (.int .i64 12) h104) (
 idxI y1p 0 y1n fun a106=>
 ldAg A2 h104 ⟨b1,0,none⟩ fun x107=>
 ldInt .i64 h104 (a106.add ((0:Int).toNat*1)) fun n108=>
 callBool P n_kind_fits #[(agS A2 x107),(.int .i64 n108)] h104 fun b110 h109=>
 ifB (!b110) (
 Q (.int .i64 22) h109) (
 J3 ((y1p,y1n,y1c),⟨b1,0,none⟩,()) h109)))))))))
noncomputable def tab_kind_Check:Tab:=tb (lookT .done [(7,(ones [1,2,0,3] (.alt 4 (ones [5,6] .done) .stop)))]) (lookT [] [(11,[(1,SL),(2,.sc (.adr)),(5,I6),(72,SL),(73,I6),(74,I6)])]) (lookT none [(9,some [(1,SL),(2,.sc (.adr))])])
theorem call_kind_Check (y0:TS A2) (y1p:OA) (y1n y1c:Nat) {h:Heap} {Q:VH} (H:kind_Check y0 y1p y1n y1c h Q):callP P n_kind_Check #[(agS A2 y0),(.slice y1p y1n y1c)] h Q:=
 @callP_of P n_kind_Check Tryz.f52 tab_kind_Check [(agS A2 y0),(.slice y1p y1n y1c)] h Q mixed Tryz.func52 Tryz.call52 (by kernel_rfl) (Eq.mpr (by kernel_rfl) H)
def graph_rate_1 (y0:Int) (free0:Addr) (h:Heap) (Q:VH):Prop:=
 ldInt .i64 h free0 fun n1=>
 Q (.bool (y0 !=n1)) h
noncomputable def tab_graph_rate_1:Tab:=tb (lookT .done []) (lookT [] []) (lookT none [])
theorem call_graph_rate_1 (y0:Int) (free0:Addr) {h:Heap} {Q:VH} (H:graph_rate_1 y0 free0 h Q):callP P n_graph_rate_1 #[(.int .i64 y0),(.pointer (some free0))] h Q:=
 @callP_of P n_graph_rate_1 Tryz.f78 tab_graph_rate_1 [(.int .i64 y0),(.pointer (some free0))] h Q mixed Tryz.func78 Tryz.call78 (by kernel_rfl) (Eq.mpr (by kernel_rfl) H)
def kind_Step (y0:TS A2) (h:Heap) (Q:VH):Prop:=
 newI h (.cells (mkS' A2 y0).toArray 40 (0,0)) fun b1 h2=>
 ldAg A2 h2 ⟨b1,0,none⟩ fun x3=>
 callBool P n_kind_has #[(agS A2 x3),(.int .i64 1)] h2 fun b5 h4=>
 ifB b5 (
 ldInt .i64 h4 ⟨b1,4,none⟩ fun n6=>
 Q (.int .i64 n6) h4) (
 Q (.int .i64 1) h4)
noncomputable def tab_kind_Step:Tab:=tb (lookT .done []) (lookT [] []) (lookT none [])
theorem call_kind_Step (y0:TS A2) {h:Heap} {Q:VH} (H:kind_Step y0 h Q):callP P n_kind_Step #[(agS A2 y0)] h Q:=
 @callP_of P n_kind_Step Tryz.f79 tab_kind_Step [(agS A2 y0)] h Q mixed Tryz.func79 Tryz.call79 (by kernel_rfl) (Eq.mpr (by kernel_rfl) H)
def graph_rate_j5 (Q:VH) (y2 y6:Addr) (h11:Heap):Prop:=
 ldInt .i64 h11 y2 fun n12=>
 ifB (n12==5) (
 Q (.tuple #[(.int .i64 0),(.bool true)]) h11) (
 ldAg A2 h11 y2 fun x13=>
 ldInt .i64 h11 y6 fun n14=>
 callInt P .i64 n_kind_Step #[(agS A2 x13)] h11 fun n16 h15=>
 cellH h15 y6=some (.int .i64 n14)∧
 Q (.tuple #[(.int .i64 (IntKind.wrap .i64 (n14*n16))),(.bool true)]) h15)
def graph_rate_j3 (Q:VH) (y1p:OA) (y1n y1c:Nat) (y2 y6:Addr) (y7:Bool) (h9:Heap):Prop:=
 ∃J10:(Addr×Addr×Unit)→Heap→Prop,(∀s h,J10 s h→graph_rate_j5 Q s.1 s.2.1 h)∧
 callBool P n_slices_ContainsFunc_int_int #[(.slice y1p y1n y1c),(.func (.func n_graph_rate_1) #[] #[(.pointer (some y6))])] h9 fun b18 h17=>
 ifB b18 (
 Q (.tuple #[(.int .i64 0),(.bool false)]) h17) (
 ldInt .i64 h17 y6 fun n19=>
 ifB (n19==0) (
 ifB y7 (
 Q (.tuple #[(.int .i64 0),(.bool false)]) h17) (
 ldInt .i64 h17 y2 fun n20=>
 ifB (n20==5) (
 Q (.tuple #[(.int .i64 0),(.bool false)]) h17) (
 J10 (y2,y6,()) h17))) (
 J10 (y2,y6,()) h17))
def graph_rate (y0:TS A2) (y1p:OA) (y1n y1c:Nat) (h:Heap) (Q:VH):Prop:=
 newI h (.cells (mkS' A2 y0).toArray 40 (0,0)) fun b1 h2=>
 idxI y1p 0 y1n fun a3=>
 ldInt .i64 h2 (a3.add ((0:Int).toNat*1)) fun n4=>
 newI h2 (.cells #[(.int .i64 0)] 3 (0,0)) fun b5 h6=>
 stI h6 ⟨b5,0,none⟩ (.int .i64 n4) fun h7=>
 ∃J8:(S3×Addr×Addr×Bool×Unit)→Heap→Prop,(∀s h,J8 s h→graph_rate_j3 Q s.1.1 s.1.2.1 s.1.2.2 s.2.1 s.2.2.1 s.2.2.2.1 h)∧
 ldAg A2 h7 ⟨b1,0,none⟩ fun x21=>
 callInt P .i64 n_kind_Span #[(agS A2 x21)] h7 fun n23 h22=>
 ifB (decide (n23>1)) (
 J8 ((y1p,y1n,y1c),⟨b1,0,none⟩,⟨b5,0,none⟩,true,()) h22) (
 ldInt .i64 h22 ⟨b1,0,none⟩ fun n24=>
 ifB (decide (n24≤4)) (
 J8 ((y1p,y1n,y1c),⟨b1,0,none⟩,⟨b5,0,none⟩,true,()) h22) (
 ldInt .i64 h22 ⟨b1,0,none⟩ fun n25=>
 J8 ((y1p,y1n,y1c),⟨b1,0,none⟩,⟨b5,0,none⟩,(n25==12),()) h22))
noncomputable def tab_graph_rate:Tab:=tb (lookT .done [(7,(ones [1] (.early 0 (.alt 2 (ones [3,4,5] .done) .stop))))]) (lookT [] []) (lookT none [(3,some [(1,SL),(2,.sc (.adr)),(6,.sc (.adr)),(7,BO)]),(5,some [(2,.sc (.adr)),(6,.sc (.adr))])])
theorem call_graph_rate (y0:TS A2) (y1p:OA) (y1n y1c:Nat) {h:Heap} {Q:VH} (H:graph_rate y0 y1p y1n y1c h Q):callP P n_graph_rate #[(agS A2 y0),(.slice y1p y1n y1c)] h Q:=
 @callP_of P n_graph_rate Tryz.f53 tab_graph_rate [(agS A2 y0),(.slice y1p y1n y1c)] h Q mixed Tryz.func53 Tryz.call53 (by kernel_rfl) (Eq.mpr (by kernel_rfl) H)
def kind_Width_l10 (Q:VH) (K1:(Int×S3×Int×Int×Unit)→Heap→Prop) (y5:Int) (t25_p:OA) (t25_n t25_c:Nat) (t26 t27:Int) (h12:Heap):Prop:=
 ifB (decide (t27<t26)) (
 idxI t25_p t27 t25_n fun a13=>
 ldInt .i64 h12 (a13.add (t27.toNat*1)) fun n14=>
 K1 ((IntKind.wrap .i64 (y5+n14)),(t25_p,t25_n,t25_c),t26,(IntKind.wrap .i64 (t27+1)),()) h12) (
 Q (.int .i64 y5) h12)
def kind_Width (y0:TS A2) (y1p:OA) (y1n y1c:Nat) (h:Heap) (Q:VH):Prop:=
 newI h (.cells (mkS' A2 y0).toArray 40 (0,0)) fun b1 h2=>
 ldAg A2 h2 ⟨b1,0,none⟩ fun x3=>
 callInt P .i64 n_kind_Check #[(agS A2 x3),(.slice y1p y1n y1c)] h2 fun n5 h4=>
 ifB (n5 !=0) (
 Q (.int .i64 0) h4) (
 ldAg A2 h4 ⟨b1,0,none⟩ fun x6=>
 callBool P n_kind_has #[(agS A2 x6),(.int .i64 2)] h4 fun b8 h7=>
 ifB b8 (
 ldInt .i64 h7 ⟨b1,2,none⟩ fun n9=>
 Q (.int .i64 n9) h7) (
 ldInt .i64 h7 ⟨b1,0,none⟩ fun n10=>
 ifB (n10==11) (
 Q (.int .i64 1) h7) (
 ldInt .i64 h7 ⟨b1,0,none⟩ fun n11=>
 ifB (n11==8) (
 LoopS (S:=(Int×S3×Int×Int×Unit)) (fun K1 s h=>kind_Width_l10 Q K1 s.1 s.2.1.1 s.2.1.2.1 s.2.1.2.2 s.2.2.1 s.2.2.2.1 h) ((0:Int),(y1p,y1n,y1c),(y1n:Int),(0:Int),()) h7) (
 idxI y1p 0 y1n fun a15=>
 ldInt .i64 h7 (a15.add ((0:Int).toNat*1)) fun n16=>
 Q (.int .i64 n16) h7))))
noncomputable def tab_kind_Width:Tab:=tb (lookT .done []) (lookT [] [(10,[(5,I6),(25,SL),(26,I6),(27,I6)])]) (lookT none [])
theorem call_kind_Width (y0:TS A2) (y1p:OA) (y1n y1c:Nat) {h:Heap} {Q:VH} (H:kind_Width y0 y1p y1n y1c h Q):callP P n_kind_Width #[(agS A2 y0),(.slice y1p y1n y1c)] h Q:=
 @callP_of P n_kind_Width Tryz.f54 tab_kind_Width [(agS A2 y0),(.slice y1p y1n y1c)] h Q mixed Tryz.func54 Tryz.call54 (by kernel_rfl) (Eq.mpr (by kernel_rfl) H)
def graph_look_l10 (Q:VH) (K1:YH Y6) (y1 t2 y7:Addr) (t49_p:OA) (t49_n t49_c:Nat) (t50 t51:Int) (h43:Heap):Prop:=
 ifB (decide (t51<t50)) (
 idxI t49_p t51 t49_n fun a44=>
 ldInt .i64 h43 (a44.add (t51.toNat*1)) fun n45=>
 ldSlice h43 (y1.add 3) fun p46 l46 c46=>
 idxI p46 (IntKind.wrap .i64 (n45-1)) l46 fun a47=>
 ldAg A2 h43 (a47.add ((IntKind.wrap .i64 (n45-1)).toNat*15)) fun x48=>
 newI h43 (.cells (mkS' A2 (zT A2)).toArray 40 (0,0)) fun b49 h50=>
 storeL (mkS' A2 x48) h50 ⟨b49,0,none⟩ 0 fun h51=>
 ldSlice h51 (y7.add 1) fun p52 l52 c52=>
 ldSlice h51 ⟨b49,1,none⟩ fun p53 l53 c53=>
 callSlice P n_graph_pick #[(.slice p52 l52 c52),(.slice p53 l53 c53)] h51 fun p55 l55 c55 h54=>
 ldAg A2 h54 ⟨b49,0,none⟩ fun x56=>
 callInt P .i64 n_kind_Check #[(agS A2 x56),(.slice p55 l55 c55)] h54 fun n58 h57=>
 ifB (n58 !=0) (
 stI h57 t2 (.slice none 0 0) fun h59=>
 stI h59 (t2.add 1) (.slice none 0 0) fun h60=>
 stI h60 (t2.add 2) (.slice none 0 0) fun h61=>
 ldSlice h61 t2 fun p62 l62 c62=>
 ldSlice h61 (t2.add 1) fun p63 l63 c63=>
 ldSlice h61 (t2.add 2) fun p64 l64 c64=>
 Q (.tuple #[(.agg #[(.slice p62 l62 c62),(.slice p63 l63 c63),(.slice p64 l64 c64)]),(.int .i64 n58)]) h61) (
 ldAg A2 h57 ⟨b49,0,none⟩ fun x65=>
 ldSlice h57 (y7.add 2) fun p66 l66 c66=>
 ldSlice h57 ⟨b49,1,none⟩ fun p67 l67 c67=>
 callSlice P n_graph_pick #[(.slice p66 l66 c66),(.slice p67 l67 c67)] h57 fun p69 l69 c69 h68=>
 holdW (watchL 0 ⟨b49,0,none⟩ (mkS' A2 x65) 0) h68 (
 callP P n_graph_rate #[(agS A2 x65),(.slice p69 l69 c69)] h68 fun v71 h70=>
 ∃n72:Int,∃b73:Bool,v71=(.tuple #[(.int .i64 n72),(.bool b73)])∧
 cellH h70 (y7.add 2)=some (.slice p66 l66 c66)∧
 ifB (!b73) (
 stI h70 t2 (.slice none 0 0) fun h74=>
 stI h74 (t2.add 1) (.slice none 0 0) fun h75=>
 stI h75 (t2.add 2) (.slice none 0 0) fun h76=>
 ldSlice h76 t2 fun p77 l77 c77=>
 ldSlice h76 (t2.add 1) fun p78 l78 c78=>
 ldSlice h76 (t2.add 2) fun p79 l79 c79=>
 Q (.tuple #[(.agg #[(.slice p77 l77 c77),(.slice p78 l78 c78),(.slice p79 l79 c79)]),(.int .i64 15)]) h76) (
 ldAg A2 h70 ⟨b49,0,none⟩ fun x80=>
 ldSlice h70 (y7.add 1) fun p81 l81 c81=>
 ldSlice h70 (y7.add 2) fun p82 l82 c82=>
 callInt P .i64 n_kind_Width #[(agS A2 x80),(.slice p55 l55 c55)] h70 fun n84 h83=>
 cellH h83 (y7.add 2)=some (.slice p82 l82 c82)∧
 cellH h83 (y7.add 1)=some (.slice p81 l81 c81)∧
 idxI p81 n45 l81 fun a85=>
 stI h83 (a85.add (n45.toNat*1)) (.int .i64 n84) fun h86=>
 cellH h86 (y7.add 2)=some (.slice p82 l82 c82)∧
 idxI p82 n45 l82 fun a87=>
 stI h86 (a87.add (n45.toNat*1)) (.int .i64 n72) fun h88=>
 K1 (y1,t2,y7,(t49_p,t49_n,t49_c),t50,(IntKind.wrap .i64 (t51+1)),()) h88)))) (
 ldSlice h43 y7 fun p89 l89 c89=>
 ldSlice h43 (y7.add 1) fun p90 l90 c90=>
 ldSlice h43 (y7.add 2) fun p91 l91 c91=>
 stI h43 t2 (.slice p89 l89 c89) fun h92=>
 stI h92 (t2.add 1) (.slice p90 l90 c90) fun h93=>
 stI h93 (t2.add 2) (.slice p91 l91 c91) fun h94=>
 ldSlice h94 t2 fun p95 l95 c95=>
 ldSlice h94 (t2.add 1) fun p96 l96 c96=>
 ldSlice h94 (t2.add 2) fun p97 l97 c97=>
 Q (.tuple #[(.agg #[(.slice p95 l95 c95),(.slice p96 l96 c96),(.slice p97 l97 c97)]),(.int .i64 0)]) h94)
def graph_look (y0:TS A1) (h:Heap) (Q:VH):Prop:=
 newI h (.cells (mkS' A1 y0).toArray 26 (0,0)) fun b1 h2=>
 newI h2 (.cells #[(.slice none 0 0),(.slice none 0 0),(.slice none 0 0)] 57 (0,0)) fun b3 h4=>
 ldAg A1 h4 ⟨b1,0,none⟩ fun x5=>
 callInt P .i64 n_graph_may #[(agS A1 x5)] h4 fun n7 h6=>
 ifB (n7 !=0) (
 stI h6 ⟨b3,0,none⟩ (.slice none 0 0) fun h8=>
 stI h8 ⟨b3,1,none⟩ (.slice none 0 0) fun h9=>
 stI h9 ⟨b3,2,none⟩ (.slice none 0 0) fun h10=>
 ldSlice h10 ⟨b3,0,none⟩ fun p11 l11 c11=>
 ldSlice h10 ⟨b3,1,none⟩ fun p12 l12 c12=>
 ldSlice h10 ⟨b3,2,none⟩ fun p13 l13 c13=>
 Q (.tuple #[(.agg #[(.slice p11 l11 c11),(.slice p12 l12 c12),(.slice p13 l13 c13)]),(.int .i64 n7)]) h10) (
 ldSlice h6 ⟨b1,3,none⟩ fun p14 l14 c14=>
 callP P n_graph_ordered #[(.slice p14 l14 c14)] h6 fun v16 h15=>
 ∃p17:Option Addr,∃l17:Nat,∃c17:Nat,∃b18:Bool,v16=(.tuple #[(.slice p17 l17 c17),(.bool b18)])∧
 ifB (!b18) (
 stI h15 ⟨b3,0,none⟩ (.slice none 0 0) fun h19=>
 stI h19 ⟨b3,1,none⟩ (.slice none 0 0) fun h20=>
 stI h20 ⟨b3,2,none⟩ (.slice none 0 0) fun h21=>
 ldSlice h21 ⟨b3,0,none⟩ fun p22 l22 c22=>
 ldSlice h21 ⟨b3,1,none⟩ fun p23 l23 c23=>
 ldSlice h21 ⟨b3,2,none⟩ fun p24 l24 c24=>
 Q (.tuple #[(.agg #[(.slice p22 l22 c22),(.slice p23 l23 c23),(.slice p24 l24 c24)]),(.int .i64 13)]) h21) (
 ldSlice h15 ⟨b1,3,none⟩ fun p25 l25 c25=>
 ldSlice h15 ⟨b1,3,none⟩ fun p26 l26 c26=>
 (
 mkI 3 1 8 (.int .i64 0) (IntKind.wrap .i64 ((l25:Int)+1)) (IntKind.wrap .i64 ((l25:Int)+1)) h15 fun b27 h28=>
 cellH h28 ⟨b1,3,none⟩=some (.slice p26 l26 c26)∧
 cellH h28 ⟨b1,3,none⟩=some (.slice p25 l25 c25)∧
 (
 mkI 3 1 8 (.int .i64 0) (IntKind.wrap .i64 ((l26:Int)+1)) (IntKind.wrap .i64 ((l26:Int)+1)) h28 fun b29 h30=>
 cellH h30 ⟨b1,3,none⟩=some (.slice p26 l26 c26)∧
 cellH h30 ⟨b1,3,none⟩=some (.slice p25 l25 c25)∧
 newI h30 (.cells #[(.slice none 0 0),(.slice none 0 0),(.slice none 0 0)] 57 (0,0)) fun b31 h32=>
 stI h32 ⟨b31,0,none⟩ (.slice p17 l17 c17) fun h33=>
 stI h33 ⟨b31,1,none⟩ (.slice (some ⟨b27,0,none⟩) ((IntKind.wrap .i64 ((l25:Int)+1)).toNat) ((IntKind.wrap .i64 ((l25:Int)+1)).toNat)) fun h34=>
 stI h34 ⟨b31,2,none⟩ (.slice (some ⟨b29,0,none⟩) ((IntKind.wrap .i64 ((l26:Int)+1)).toNat) ((IntKind.wrap .i64 ((l26:Int)+1)).toNat)) fun h35=>
 ldSlice h35 ⟨b31,1,none⟩ fun p36 l36 c36=>
 ldInt .i64 h35 ⟨b1,0,none⟩ fun n37=>
 idxI p36 0 l36 fun a38=>
 ldSlice h35 ⟨b31,2,none⟩ fun p39 l39 c39=>
 stI h35 (a38.add ((0:Int).toNat*1)) (.int .i64 n37) fun h40=>
 cellH h40 ⟨b31,2,none⟩=some (.slice p39 l39 c39)∧
 idxI p39 0 l39 fun a41=>
 stI h40 (a41.add ((0:Int).toNat*1)) (.int .i64 1) fun h42=>
 LoopS (S:=Y6) (fun K1 s h=>graph_look_l10 Q K1 s.1 s.2.1 s.2.2.1 s.2.2.2.1.1 s.2.2.2.1.2.1 s.2.2.2.1.2.2 s.2.2.2.2.1 s.2.2.2.2.2.1 h) (⟨b1,0,none⟩,⟨b3,0,none⟩,⟨b31,0,none⟩,(p17,l17,c17),(l17:Int),(0:Int),()) h42)∧(
 newI h28 (.cells #[(.slice none 0 0),(.slice none 0 0),(.slice none 0 0)] 57 (0,0)) fun b98 h99=>
 mkI 3 1 8 (.int .i64 0) (IntKind.wrap .i64 ((l26:Int)+1)) (IntKind.wrap .i64 ((l26:Int)+1)) h99 fun b100 h101=>
 cellH h101 ⟨b1,3,none⟩=some (.slice p26 l26 c26)∧
 cellH h101 ⟨b1,3,none⟩=some (.slice p25 l25 c25)∧
 stI h101 ⟨b98,0,none⟩ (.slice p17 l17 c17) fun h102=>
 stI h102 ⟨b98,1,none⟩ (.slice (some ⟨b27,0,none⟩) ((IntKind.wrap .i64 ((l25:Int)+1)).toNat) ((IntKind.wrap .i64 ((l25:Int)+1)).toNat)) fun h103=>
 stI h103 ⟨b98,2,none⟩ (.slice (some ⟨b100,0,none⟩) ((IntKind.wrap .i64 ((l26:Int)+1)).toNat) ((IntKind.wrap .i64 ((l26:Int)+1)).toNat)) fun h104=>
 ldSlice h104 ⟨b98,1,none⟩ fun p105 l105 c105=>
 ldInt .i64 h104 ⟨b1,0,none⟩ fun n106=>
 idxI p105 0 l105 fun a107=>
 ldSlice h104 ⟨b98,2,none⟩ fun p108 l108 c108=>
 stI h104 (a107.add ((0:Int).toNat*1)) (.int .i64 n106) fun h109=>
 cellH h109 ⟨b98,2,none⟩=some (.slice p108 l108 c108)∧
 idxI p108 0 l108 fun a110=>
 stI h109 (a110.add ((0:Int).toNat*1)) (.int .i64 1) fun h111=>
 LoopS (S:=Y6) (fun K1 s h=>graph_look_l10 Q K1 s.1 s.2.1 s.2.2.1 s.2.2.2.1.1 s.2.2.2.1.2.1 s.2.2.2.1.2.2 s.2.2.2.2.1 s.2.2.2.2.2.1 h) (⟨b1,0,none⟩,⟨b3,0,none⟩,⟨b98,0,none⟩,(p17,l17,c17),(l17:Int),(0:Int),()) h111))∧(
 (
 mkI 3 1 8 (.int .i64 0) (IntKind.wrap .i64 ((l26:Int)+1)) (IntKind.wrap .i64 ((l26:Int)+1)) h15 fun b167 h168=>
 cellH h168 ⟨b1,3,none⟩=some (.slice p26 l26 c26)∧
 cellH h168 ⟨b1,3,none⟩=some (.slice p25 l25 c25)∧
 (
 mkI 3 1 8 (.int .i64 0) (IntKind.wrap .i64 ((l25:Int)+1)) (IntKind.wrap .i64 ((l25:Int)+1)) h168 fun b169 h170=>
 cellH h170 ⟨b1,3,none⟩=some (.slice p26 l26 c26)∧
 cellH h170 ⟨b1,3,none⟩=some (.slice p25 l25 c25)∧
 newI h170 (.cells #[(.slice none 0 0),(.slice none 0 0),(.slice none 0 0)] 57 (0,0)) fun b171 h172=>
 stI h172 ⟨b171,0,none⟩ (.slice p17 l17 c17) fun h173=>
 stI h173 ⟨b171,1,none⟩ (.slice (some ⟨b169,0,none⟩) ((IntKind.wrap .i64 ((l25:Int)+1)).toNat) ((IntKind.wrap .i64 ((l25:Int)+1)).toNat)) fun h174=>
 stI h174 ⟨b171,2,none⟩ (.slice (some ⟨b167,0,none⟩) ((IntKind.wrap .i64 ((l26:Int)+1)).toNat) ((IntKind.wrap .i64 ((l26:Int)+1)).toNat)) fun h175=>
 ldSlice h175 ⟨b171,1,none⟩ fun p176 l176 c176=>
 ldInt .i64 h175 ⟨b1,0,none⟩ fun n177=>
 idxI p176 0 l176 fun a178=>
 ldSlice h175 ⟨b171,2,none⟩ fun p179 l179 c179=>
 stI h175 (a178.add ((0:Int).toNat*1)) (.int .i64 n177) fun h180=>
 cellH h180 ⟨b171,2,none⟩=some (.slice p179 l179 c179)∧
 idxI p179 0 l179 fun a181=>
 stI h180 (a181.add ((0:Int).toNat*1)) (.int .i64 1) fun h182=>
 LoopS (S:=Y6) (fun K1 s h=>graph_look_l10 Q K1 s.1 s.2.1 s.2.2.1 s.2.2.2.1.1 s.2.2.2.1.2.1 s.2.2.2.1.2.2 s.2.2.2.2.1 s.2.2.2.2.2.1 h) (⟨b1,0,none⟩,⟨b3,0,none⟩,⟨b171,0,none⟩,(p17,l17,c17),(l17:Int),(0:Int),()) h182)∧(
 newI h168 (.cells #[(.slice none 0 0),(.slice none 0 0),(.slice none 0 0)] 57 (0,0)) fun b238 h239=>
 mkI 3 1 8 (.int .i64 0) (IntKind.wrap .i64 ((l25:Int)+1)) (IntKind.wrap .i64 ((l25:Int)+1)) h239 fun b240 h241=>
 cellH h241 ⟨b1,3,none⟩=some (.slice p26 l26 c26)∧
 cellH h241 ⟨b1,3,none⟩=some (.slice p25 l25 c25)∧
 stI h241 ⟨b238,0,none⟩ (.slice p17 l17 c17) fun h242=>
 stI h242 ⟨b238,1,none⟩ (.slice (some ⟨b240,0,none⟩) ((IntKind.wrap .i64 ((l25:Int)+1)).toNat) ((IntKind.wrap .i64 ((l25:Int)+1)).toNat)) fun h243=>
 stI h243 ⟨b238,2,none⟩ (.slice (some ⟨b167,0,none⟩) ((IntKind.wrap .i64 ((l26:Int)+1)).toNat) ((IntKind.wrap .i64 ((l26:Int)+1)).toNat)) fun h244=>
 ldSlice h244 ⟨b238,1,none⟩ fun p245 l245 c245=>
 ldInt .i64 h244 ⟨b1,0,none⟩ fun n246=>
 idxI p245 0 l245 fun a247=>
 ldSlice h244 ⟨b238,2,none⟩ fun p248 l248 c248=>
 stI h244 (a247.add ((0:Int).toNat*1)) (.int .i64 n246) fun h249=>
 cellH h249 ⟨b238,2,none⟩=some (.slice p248 l248 c248)∧
 idxI p248 0 l248 fun a250=>
 stI h249 (a250.add ((0:Int).toNat*1)) (.int .i64 1) fun h251=>
 LoopS (S:=Y6) (fun K1 s h=>graph_look_l10 Q K1 s.1 s.2.1 s.2.2.1 s.2.2.2.1.1 s.2.2.2.1.2.1 s.2.2.2.1.2.2 s.2.2.2.2.1 s.2.2.2.2.2.1 h) (⟨b1,0,none⟩,⟨b3,0,none⟩,⟨b238,0,none⟩,(p17,l17,c17),(l17:Int),(0:Int),()) h251))∧(
 newI h15 (.cells #[(.slice none 0 0),(.slice none 0 0),(.slice none 0 0)] 57 (0,0)) fun b307 h308=>
 (
 mkI 3 1 8 (.int .i64 0) (IntKind.wrap .i64 ((l25:Int)+1)) (IntKind.wrap .i64 ((l25:Int)+1)) h308 fun b309 h310=>
 cellH h310 ⟨b1,3,none⟩=some (.slice p26 l26 c26)∧
 cellH h310 ⟨b1,3,none⟩=some (.slice p25 l25 c25)∧
 mkI 3 1 8 (.int .i64 0) (IntKind.wrap .i64 ((l26:Int)+1)) (IntKind.wrap .i64 ((l26:Int)+1)) h310 fun b311 h312=>
 cellH h312 ⟨b1,3,none⟩=some (.slice p26 l26 c26)∧
 cellH h312 ⟨b1,3,none⟩=some (.slice p25 l25 c25)∧
 stI h312 ⟨b307,0,none⟩ (.slice p17 l17 c17) fun h313=>
 stI h313 ⟨b307,1,none⟩ (.slice (some ⟨b309,0,none⟩) ((IntKind.wrap .i64 ((l25:Int)+1)).toNat) ((IntKind.wrap .i64 ((l25:Int)+1)).toNat)) fun h314=>
 stI h314 ⟨b307,2,none⟩ (.slice (some ⟨b311,0,none⟩) ((IntKind.wrap .i64 ((l26:Int)+1)).toNat) ((IntKind.wrap .i64 ((l26:Int)+1)).toNat)) fun h315=>
 ldSlice h315 ⟨b307,1,none⟩ fun p316 l316 c316=>
 ldInt .i64 h315 ⟨b1,0,none⟩ fun n317=>
 idxI p316 0 l316 fun a318=>
 ldSlice h315 ⟨b307,2,none⟩ fun p319 l319 c319=>
 stI h315 (a318.add ((0:Int).toNat*1)) (.int .i64 n317) fun h320=>
 cellH h320 ⟨b307,2,none⟩=some (.slice p319 l319 c319)∧
 idxI p319 0 l319 fun a321=>
 stI h320 (a321.add ((0:Int).toNat*1)) (.int .i64 1) fun h322=>
 LoopS (S:=Y6) (fun K1 s h=>graph_look_l10 Q K1 s.1 s.2.1 s.2.2.1 s.2.2.2.1.1 s.2.2.2.1.2.1 s.2.2.2.1.2.2 s.2.2.2.2.1 s.2.2.2.2.2.1 h) (⟨b1,0,none⟩,⟨b3,0,none⟩,⟨b307,0,none⟩,(p17,l17,c17),(l17:Int),(0:Int),()) h322)∧(
 mkI 3 1 8 (.int .i64 0) (IntKind.wrap .i64 ((l26:Int)+1)) (IntKind.wrap .i64 ((l26:Int)+1)) h308 fun b378 h379=>
 cellH h379 ⟨b1,3,none⟩=some (.slice p26 l26 c26)∧
 cellH h379 ⟨b1,3,none⟩=some (.slice p25 l25 c25)∧
 mkI 3 1 8 (.int .i64 0) (IntKind.wrap .i64 ((l25:Int)+1)) (IntKind.wrap .i64 ((l25:Int)+1)) h379 fun b380 h381=>
 cellH h381 ⟨b1,3,none⟩=some (.slice p26 l26 c26)∧
 cellH h381 ⟨b1,3,none⟩=some (.slice p25 l25 c25)∧
 stI h381 ⟨b307,0,none⟩ (.slice p17 l17 c17) fun h382=>
 stI h382 ⟨b307,1,none⟩ (.slice (some ⟨b380,0,none⟩) ((IntKind.wrap .i64 ((l25:Int)+1)).toNat) ((IntKind.wrap .i64 ((l25:Int)+1)).toNat)) fun h383=>
 stI h383 ⟨b307,2,none⟩ (.slice (some ⟨b378,0,none⟩) ((IntKind.wrap .i64 ((l26:Int)+1)).toNat) ((IntKind.wrap .i64 ((l26:Int)+1)).toNat)) fun h384=>
 ldSlice h384 ⟨b307,1,none⟩ fun p385 l385 c385=>
 ldInt .i64 h384 ⟨b1,0,none⟩ fun n386=>
 idxI p385 0 l385 fun a387=>
 ldSlice h384 ⟨b307,2,none⟩ fun p388 l388 c388=>
 stI h384 (a387.add ((0:Int).toNat*1)) (.int .i64 n386) fun h389=>
 cellH h389 ⟨b307,2,none⟩=some (.slice p388 l388 c388)∧
 idxI p388 0 l388 fun a390=>
 stI h389 (a390.add ((0:Int).toNat*1)) (.int .i64 1) fun h391=>
 LoopS (S:=Y6) (fun K1 s h=>graph_look_l10 Q K1 s.1 s.2.1 s.2.2.1 s.2.2.2.1.1 s.2.2.2.1.2.1 s.2.2.2.1.2.2 s.2.2.2.2.1 s.2.2.2.2.2.1 h) (⟨b1,0,none⟩,⟨b3,0,none⟩,⟨b307,0,none⟩,(p17,l17,c17),(l17:Int),(0:Int),()) h391)))))
noncomputable def tab_graph_look:Tab:=tb (lookT .done [(7,(ones [0,1,6] (.early 2 (ones [3,4] (.early 7 (ones [8,9] (.alt 5 (.alt 10 (ones [11] (.alt 12 (.alt 13 .done .stop) .stop)) (.alt 12 (.alt 10 (ones [11] (.alt 13 .done .stop)) .stop) .stop)) (.alt 10 (.alt 5 (ones [11] (.alt 12 (.alt 13 .done .stop) .stop)) (.alt 12 (.alt 5 (ones [11] (.alt 13 .done .stop)) .stop) .stop)) (.alt 12 (.alt 5 (.alt 10 (ones [11] (.alt 13 .done .stop)) .stop) (.alt 10 (.alt 5 (ones [11] (.alt 13 .done .stop)) .stop) .stop)) .stop))))))))),(8,(ones [0,2,4,1,5,6] (.early 3 (.alt 7 (ones [8] (.alt 9 .done .stop)) .stop)))),(17,(ones [1,3] (.early 0 (.early 2 (.alt 4 (.alt 5 (.alt 6 (ones [7,8,9,10,11] .done) .stop) .stop) .stop))))),(20,(ones [0,2,3,5,7,9,6] (.early 1 (.early 4 (.alt 8 (ones [10] (.alt 11 (ones [12] (.alt 13 .done .stop)) .stop)) .stop)))))]) (lookT [] [(10,[(1,.sc (.adr)),(2,.sc (.adr)),(7,.sc (.adr)),(49,SL),(50,I6),(51,I6)])]) (lookT none [])
theorem call_graph_look (y0:TS A1) {h:Heap} {Q:VH} (H:graph_look y0 h Q):callP P n_graph_look #[(agS A1 y0)] h Q:=
 @callP_of P n_graph_look Tryz.f25 tab_graph_look [(agS A1 y0)] h Q mixed Tryz.func25 Tryz.call25 (by kernel_rfl) (Eq.mpr (by kernel_rfl) H)
def graph_Check (y0:TS A1) (h:Heap) (Q:VH):Prop:=
 newI h (.cells (mkS' A1 y0).toArray 26 (0,0)) fun b1 h2=>
 ldAg A1 h2 ⟨b1,0,none⟩ fun x3=>
 callP P n_graph_look #[(agS A1 x3)] h2 fun v5 h4=>
 ∃p6:Option Addr,∃l6:Nat,∃c6:Nat,∃p7:Option Addr,∃l7:Nat,∃c7:Nat,∃p8:Option Addr,∃l8:Nat,∃c8:Nat,∃n9:Int,v5=(.tuple #[(.agg #[(.slice p6 l6 c6),(.slice p7 l7 c7),(.slice p8 l8 c8)]),(.int .i64 n9)])∧
 newI h4 (.cells #[(.slice none 0 0),(.slice none 0 0),(.slice none 0 0)] 57 (0,0)) fun b10 h11=>
 stI h11 ⟨b10,0,none⟩ (.slice p6 l6 c6) fun h12=>
 stI h12 ⟨b10,1,none⟩ (.slice p7 l7 c7) fun h13=>
 stI h13 ⟨b10,2,none⟩ (.slice p8 l8 c8) fun h14=>
 Q (.int .i64 n9) h14
noncomputable def tab_graph_Check:Tab:=tb (lookT .done []) (lookT [] []) (lookT none [])
theorem call_graph_Check (y0:TS A1) {h:Heap} {Q:VH} (H:graph_Check y0 h Q):callP P n_graph_Check #[(agS A1 y0)] h Q:=
 @callP_of P n_graph_Check Tryz.f13 tab_graph_Check [(agS A1 y0)] h Q mixed Tryz.func13 Tryz.call13 (by kernel_rfl) (Eq.mpr (by kernel_rfl) H)
def slices_Clone_api_Node_api_Node (y0p:OA) (y0n y0c:Nat) (h:Heap) (Q:VH):Prop:=
 ifB ((y0p).isNone) (
 Q (.slice none 0 0) h) (
 newI h (.cells #[] 40 (0,0)) fun b1 h2=>
 appI 40 15 168 (agS A2 (zT A2)) (some ⟨b1,0,none⟩) 0 0 y0p y0n h2 fun p3 l3 c3 h4=>
 Q (.slice p3 l3 c3) h4)
noncomputable def tab_slices_Clone_api_Node_api_Node:Tab:=tb (lookT .done []) (lookT [] []) (lookT none [])
theorem call_slices_Clone_api_Node_api_Node (y0p:OA) (y0n y0c:Nat) {h:Heap} {Q:VH} (H:slices_Clone_api_Node_api_Node y0p y0n y0c h Q):callP P n_slices_Clone_api_Node_api_Node #[(.slice y0p y0n y0c)] h Q:=
 @callP_of P n_slices_Clone_api_Node_api_Node Tryz.f26 tab_slices_Clone_api_Node_api_Node [(.slice y0p y0n y0c)] h Q mixed Tryz.func26 Tryz.call26 (by kernel_rfl) (Eq.mpr (by kernel_rfl) H)
def slices_Clone_int_int (y0p:OA) (y0n y0c:Nat) (h:Heap) (Q:VH):Prop:=
 ifB ((y0p).isNone) (
 Q (.slice none 0 0) h) (
 newI h (.cells #[] 3 (0,0)) fun b1 h2=>
 appI 3 1 8 (.int .i64 0) (some ⟨b1,0,none⟩) 0 0 y0p y0n h2 fun p3 l3 c3 h4=>
 Q (.slice p3 l3 c3) h4)
noncomputable def tab_slices_Clone_int_int:Tab:=tb (lookT .done []) (lookT [] []) (lookT none [])
theorem call_slices_Clone_int_int (y0p:OA) (y0n y0c:Nat) {h:Heap} {Q:VH} (H:slices_Clone_int_int y0p y0n y0c h Q):callP P n_slices_Clone_int_int #[(.slice y0p y0n y0c)] h Q:=
 @callP_of P n_slices_Clone_int_int Tryz.f27 tab_slices_Clone_int_int [(.slice y0p y0n y0c)] h Q mixed Tryz.func27 Tryz.call27 (by kernel_rfl) (Eq.mpr (by kernel_rfl) H)
def fuse_own_l3 (Q:VH) (K1:(Addr×Addr×Int×Int×Unit)→Heap→Prop) (y1 t2:Addr) (t11 t12:Int) (h10:Heap):Prop:=
 ifB (decide (t12<t11)) (
 ldSlice h10 (y1.add 3) fun p11 l11 c11=>
 idxI p11 t12 l11 fun a12=>
 nilI (some (a12.add (t12.toNat*15))) fun a13=>
 nilI (some (a12.add (t12.toNat*15))) fun a14=>
 nilI (some (a12.add (t12.toNat*15))) fun a15=>
 ldSlice h10 (a13.add 1) fun p16 l16 c16=>
 ldSlice h10 (a14.add 8) fun p17 l17 c17=>
 ldSlice h10 (a15.add 9) fun p18 l18 c18=>
 callSlice P n_slices_Clone_int_int #[(.slice p16 l16 c16)] h10 fun p20 l20 c20 h19=>
 cellH h19 (a15.add 9)=some (.slice p18 l18 c18)∧
 cellH h19 (a14.add 8)=some (.slice p17 l17 c17)∧
 callSlice P n_slices_Clone_int_int #[(.slice p17 l17 c17)] h19 fun p22 l22 c22 h21=>
 cellH h21 (a15.add 9)=some (.slice p18 l18 c18)∧
 cellH h21 (a13.add 1)=some (.slice p16 l16 c16)∧
 callSlice P n_slices_Clone_int_int #[(.slice p18 l18 c18)] h21 fun p24 l24 c24 h23=>
 cellH h23 (a14.add 8)=some (.slice p17 l17 c17)∧
 cellH h23 (a13.add 1)=some (.slice p16 l16 c16)∧
 nilI (some (a12.add (t12.toNat*15))) fun a25=>
 stI h23 (a25.add 1) (.slice p20 l20 c20) fun h26=>
 nilI (some (a12.add (t12.toNat*15))) fun a27=>
 stI h26 (a27.add 8) (.slice p22 l22 c22) fun h28=>
 nilI (some (a12.add (t12.toNat*15))) fun a29=>
 stI h28 (a29.add 9) (.slice p24 l24 c24) fun h30=>
 K1 (y1,t2,t11,(IntKind.wrap .i64 (t12+1)),()) h30) (
 ldAg A1 h10 y1 fun x31=>
 storeL (mkS' A1 x31) h10 t2 0 fun h32=>
 ldAg A1 h32 t2 fun x33=>
 Q (agS A1 x33) h32)
def fuse_own (y0:TS A1) (h:Heap) (Q:VH):Prop:=
 newI h (.cells (mkS' A1 y0).toArray 26 (0,0)) fun b1 h2=>
 newI h2 (.cells (mkS' A1 (zT A1)).toArray 26 (0,0)) fun b3 h4=>
 ldSlice h4 ⟨b1,3,none⟩ fun p5 l5 c5=>
 callSlice P n_slices_Clone_api_Node_api_Node #[(.slice p5 l5 c5)] h4 fun p7 l7 c7 h6=>
 stI h6 ⟨b1,3,none⟩ (.slice p7 l7 c7) fun h8=>
 ldSlice h8 ⟨b1,3,none⟩ fun p9 l9 c9=>
 LoopS (S:=(Addr×Addr×Int×Int×Unit)) (fun K1 s h=>fuse_own_l3 Q K1 s.1 s.2.1 s.2.2.1 s.2.2.2.1 h) (⟨b1,0,none⟩,⟨b3,0,none⟩,(l9:Int),(0:Int),()) h8
noncomputable def tab_fuse_own:Tab:=tb (lookT .done [(6,(ones [0,1,2,3,4,5,8,9,10,13,14,15] (.early 6 (.early 11 (.early 16 (.alt 7 (.alt 12 (.alt 17 (ones [18,19] (.alt 20 (ones [21,22] (.alt 23 (ones [24,25] (.alt 26 .done .stop)) .stop)) .stop)) .stop) .stop) .stop))))))]) (lookT [] [(3,[(1,.sc (.adr)),(2,.sc (.adr)),(11,I6),(12,I6)])]) (lookT none [])
theorem call_fuse_own (y0:TS A1) {h:Heap} {Q:VH} (H:fuse_own y0 h Q):callP P n_fuse_own #[(agS A1 y0)] h Q:=
 @callP_of P n_fuse_own Tryz.f14 tab_fuse_own [(agS A1 y0)] h Q mixed Tryz.func14 Tryz.call14 (by kernel_rfl) (Eq.mpr (by kernel_rfl) H)
def slices_Values_int_int_1_l1 (Q:VH) (K1:(Value×S3×Int×Int×Unit)→Heap→Prop) (y0:Value) (t5_p:OA) (t5_n t5_c:Nat) (t6 t7:Int) (h2:Heap):Prop:=
 ifB (decide (t7<t6)) (
 idxI t5_p t7 t5_n fun a3=>
 ldInt .i64 h2 (a3.add (t7.toNat*1)) fun n4=>
 callAny P y0 [(.int .i64 n4)] h2 fun v5 h6=>
 ∃b7:Bool,v5=(.bool b7)∧
 ifB (!b7) (
 Q (.tuple #[]) h6) (
 K1 (y0,(t5_p,t5_n,t5_c),t6,(IntKind.wrap .i64 (t7+1)),()) h6)) (
 Q (.tuple #[]) h2)
def slices_Values_int_int_1 (y0:Value) (free0:Addr) (h:Heap) (Q:VH):Prop:=
 ldSlice h free0 fun p1 l1 c1=>
 LoopS (S:=(Value×S3×Int×Int×Unit)) (fun K1 s h=>slices_Values_int_int_1_l1 Q K1 s.1 s.2.1.1 s.2.1.2.1 s.2.1.2.2 s.2.2.1 s.2.2.2.1 h) (y0,(p1,l1,c1),(l1:Int),(0:Int),()) h
noncomputable def tab_slices_Values_int_int_1:Tab:=tb (lookT .done []) (lookT [] [(1,[(0,.sc (.any)),(5,SL),(6,I6),(7,I6)])]) (lookT none [])
theorem call_slices_Values_int_int_1 (y0:Value) (free0:Addr) {h:Heap} {Q:VH} (H:slices_Values_int_int_1 y0 free0 h Q):callP P n_slices_Values_int_int_1 #[y0,(.pointer (some free0))] h Q:=
 @callP_of P n_slices_Values_int_int_1 Tryz.f57 tab_slices_Values_int_int_1 [y0,(.pointer (some free0))] h Q mixed Tryz.func57 Tryz.call57 (by kernel_rfl) (Eq.mpr (by kernel_rfl) H)
def slices_Values_int_int (y0p:OA) (y0n y0c:Nat) (h:Heap) (Q:VH):Prop:=
 newI h (.cells #[(.slice y0p y0n y0c)] 22 (0,0)) fun b1 h2=>
 Q (.func (.func n_slices_Values_int_int_1) #[] #[(.pointer (some ⟨b1,0,none⟩))]) h2
noncomputable def tab_slices_Values_int_int:Tab:=tb (lookT .done []) (lookT [] []) (lookT none [])
theorem call_slices_Values_int_int (y0p:OA) (y0n y0c:Nat) {h:Heap} {Q:VH} (H:slices_Values_int_int y0p y0n y0c h Q):callP P n_slices_Values_int_int #[(.slice y0p y0n y0c)] h Q:=
 @callP_of P n_slices_Values_int_int Tryz.f31 tab_slices_Values_int_int [(.slice y0p y0n y0c)] h Q mixed Tryz.func31 Tryz.call31 (by kernel_rfl) (Eq.mpr (by kernel_rfl) H)
def slices_AppendSeq_int_int (s_0_p:OA) (s_0_n s_0_c:Nat) (seq_1:Value) (h:Heap) (Q:VH):Prop:=
 newI h (.cells #[(.slice s_0_p s_0_n s_0_c)] 22 (0,0)) fun b1 h2=>
 rangeP P seq_1 [.sc (.int .i64)] (fun rdy3 busy3 l3 y3 R3 h4=>
 h4[l3]? =some rdy3∧
 ldSlice (Array.setIfInBounds h4 l3 busy3) ⟨b1,0,none⟩ fun p5 l5 c5=>
 newI (Array.setIfInBounds h4 l3 busy3) (.cells #[(.int .i64 y3.1)] 3 (0,0)) fun b6 h7=>
 appI 3 1 8 (.int .i64 0) p5 l5 c5 (some ⟨b6,0,none⟩) 1 h7 fun p8 l8 c8 h9=>
 stI h9 ⟨b1,0,none⟩ (.slice p8 l8 c8) fun h10=>
 R3 h10) h2 fun D11 h12=>
 ldSlice h12 ⟨b1,0,none⟩ fun p13 l13 c13=>
 h12[D11]? =some (Obj.deferred (some []))∧
 Q (.slice p13 l13 c13) (Array.setIfInBounds h12 D11 (Obj.deferred none))
noncomputable def tab_slices_AppendSeq_int_int:Tab:={sch:=lookT .done [],lp:=lookT [] [],jn:=lookT none [],rf:=lookT [] [(3,[I6])]}
theorem call_slices_AppendSeq_int_int (s_0_p:OA) (s_0_n s_0_c:Nat) (seq_1:Value) {h:Heap} {Q:VH} (H:slices_AppendSeq_int_int s_0_p s_0_n s_0_c seq_1 h Q):callP P n_slices_AppendSeq_int_int #[(.slice s_0_p s_0_n s_0_c),seq_1] h Q:=
 @callP_of P n_slices_AppendSeq_int_int Tryz.f80 tab_slices_AppendSeq_int_int [(.slice s_0_p s_0_n s_0_c),seq_1] h Q mixed Tryz.func80 Tryz.call80 (by kernel_rfl) (Eq.mpr (by kernel_rfl) H)
def slices_Collect_int (y0:Value) (h:Heap) (Q:VH):Prop:=
 callSlice P n_slices_AppendSeq_int_int #[(.slice none 0 0),y0] h fun p2 l2 c2 h1=>
 Q (.slice p2 l2 c2) h1
noncomputable def tab_slices_Collect_int:Tab:=tb (lookT .done []) (lookT [] []) (lookT none [])
theorem call_slices_Collect_int (y0:Value) {h:Heap} {Q:VH} (H:slices_Collect_int y0 h Q):callP P n_slices_Collect_int #[y0] h Q:=
 @callP_of P n_slices_Collect_int Tryz.f55 tab_slices_Collect_int [y0] h Q mixed Tryz.func55 Tryz.call55 (by kernel_rfl) (Eq.mpr (by kernel_rfl) H)
def math_bits_Len32 (y0:Int) (h:Heap) (Q:VH):Prop:=
 ifB (decide (y0≥65536)) (
 ifB (decide ((shrI y0 16)≥256)) (
 strI (ByteArray.mk #[0,1,2,2,3,3,3,3,4,4,4,4,4,4,4,4,5,5,5,5,5,5,5,5,5,5,5,5,5,5,5,5,6,6,6,6,6,6,6,6,6,6,6,6,6,6,6,6,6,6,6,6,6,6,6,6,6,6,6,6,6,6,6,6,7,7,7,7,7,7,7,7,7,7,7,7,7,7,7,7,7,7,7,7,7,7,7,7,7,7,7,7,7,7,7,7,7,7,7,7,7,7,7,7,7,7,7,7,7,7,7,7,7,7,7,7,7,7,7,7,7,7,7,7,7,7,7,7,8,8,8,8,8,8,8,8,8,8,8,8,8,8,8,8,8,8,8,8,8,8,8,8,8,8,8,8,8,8,8,8,8,8,8,8,8,8,8,8,8,8,8,8,8,8,8,8,8,8,8,8,8,8,8,8,8,8,8,8,8,8,8,8,8,8,8,8,8,8,8,8,8,8,8,8,8,8,8,8,8,8,8,8,8,8,8,8,8,8,8,8,8,8,8,8,8,8,8,8,8,8,8,8,8,8,8,8,8,8,8,8,8,8,8,8,8,8,8,8,8,8,8,8,8,8,8,8]) (IntKind.wrap .u8 (shrI (shrI y0 16) 8)) fun b1=>
 Q (.int .i64 (IntKind.wrap .i64 ((IntKind.wrap .i64 ((16:Int)+8))+(IntKind.wrap .i64 (b1.toNat:Int))))) h) (
 strI (ByteArray.mk #[0,1,2,2,3,3,3,3,4,4,4,4,4,4,4,4,5,5,5,5,5,5,5,5,5,5,5,5,5,5,5,5,6,6,6,6,6,6,6,6,6,6,6,6,6,6,6,6,6,6,6,6,6,6,6,6,6,6,6,6,6,6,6,6,7,7,7,7,7,7,7,7,7,7,7,7,7,7,7,7,7,7,7,7,7,7,7,7,7,7,7,7,7,7,7,7,7,7,7,7,7,7,7,7,7,7,7,7,7,7,7,7,7,7,7,7,7,7,7,7,7,7,7,7,7,7,7,7,8,8,8,8,8,8,8,8,8,8,8,8,8,8,8,8,8,8,8,8,8,8,8,8,8,8,8,8,8,8,8,8,8,8,8,8,8,8,8,8,8,8,8,8,8,8,8,8,8,8,8,8,8,8,8,8,8,8,8,8,8,8,8,8,8,8,8,8,8,8,8,8,8,8,8,8,8,8,8,8,8,8,8,8,8,8,8,8,8,8,8,8,8,8,8,8,8,8,8,8,8,8,8,8,8,8,8,8,8,8,8,8,8,8,8,8,8,8,8,8,8,8,8,8,8,8,8,8]) (IntKind.wrap .u8 (shrI y0 16)) fun b2=>
 Q (.int .i64 (IntKind.wrap .i64 ((16:Int)+(IntKind.wrap .i64 (b2.toNat:Int))))) h)) (
 ifB (decide (y0≥256)) (
 strI (ByteArray.mk #[0,1,2,2,3,3,3,3,4,4,4,4,4,4,4,4,5,5,5,5,5,5,5,5,5,5,5,5,5,5,5,5,6,6,6,6,6,6,6,6,6,6,6,6,6,6,6,6,6,6,6,6,6,6,6,6,6,6,6,6,6,6,6,6,7,7,7,7,7,7,7,7,7,7,7,7,7,7,7,7,7,7,7,7,7,7,7,7,7,7,7,7,7,7,7,7,7,7,7,7,7,7,7,7,7,7,7,7,7,7,7,7,7,7,7,7,7,7,7,7,7,7,7,7,7,7,7,7,8,8,8,8,8,8,8,8,8,8,8,8,8,8,8,8,8,8,8,8,8,8,8,8,8,8,8,8,8,8,8,8,8,8,8,8,8,8,8,8,8,8,8,8,8,8,8,8,8,8,8,8,8,8,8,8,8,8,8,8,8,8,8,8,8,8,8,8,8,8,8,8,8,8,8,8,8,8,8,8,8,8,8,8,8,8,8,8,8,8,8,8,8,8,8,8,8,8,8,8,8,8,8,8,8,8,8,8,8,8,8,8,8,8,8,8,8,8,8,8,8,8,8,8,8,8,8,8]) (IntKind.wrap .u8 (shrI y0 8)) fun b3=>
 Q (.int .i64 (IntKind.wrap .i64 ((IntKind.wrap .i64 ((0:Int)+8))+(IntKind.wrap .i64 (b3.toNat:Int))))) h) (
 strI (ByteArray.mk #[0,1,2,2,3,3,3,3,4,4,4,4,4,4,4,4,5,5,5,5,5,5,5,5,5,5,5,5,5,5,5,5,6,6,6,6,6,6,6,6,6,6,6,6,6,6,6,6,6,6,6,6,6,6,6,6,6,6,6,6,6,6,6,6,7,7,7,7,7,7,7,7,7,7,7,7,7,7,7,7,7,7,7,7,7,7,7,7,7,7,7,7,7,7,7,7,7,7,7,7,7,7,7,7,7,7,7,7,7,7,7,7,7,7,7,7,7,7,7,7,7,7,7,7,7,7,7,7,8,8,8,8,8,8,8,8,8,8,8,8,8,8,8,8,8,8,8,8,8,8,8,8,8,8,8,8,8,8,8,8,8,8,8,8,8,8,8,8,8,8,8,8,8,8,8,8,8,8,8,8,8,8,8,8,8,8,8,8,8,8,8,8,8,8,8,8,8,8,8,8,8,8,8,8,8,8,8,8,8,8,8,8,8,8,8,8,8,8,8,8,8,8,8,8,8,8,8,8,8,8,8,8,8,8,8,8,8,8,8,8,8,8,8,8,8,8,8,8,8,8,8,8,8,8,8,8]) (IntKind.wrap .u8 y0) fun b4=>
 Q (.int .i64 (IntKind.wrap .i64 ((0:Int)+(IntKind.wrap .i64 (b4.toNat:Int))))) h))
noncomputable def tab_math_bits_Len32:Tab:=tb (lookT .done []) (lookT [] []) (lookT none [])
theorem call_math_bits_Len32 (y0:Int) {h:Heap} {Q:VH} (H:math_bits_Len32 y0 h Q):callP P n_math_bits_Len32 #[(.int .u32 y0)] h Q:=
 @callP_of P n_math_bits_Len32 Tryz.f105 tab_math_bits_Len32 [(.int .u32 y0)] h Q mixed Tryz.func105 Tryz.call105 (by kernel_rfl) (Eq.mpr (by kernel_rfl) H)
def math_bits_Len64 (y0:Int) (h:Heap) (Q:VH):Prop:=
 ifB (decide (y0≥4294967296)) (
 ifB (decide ((shrI y0 32)≥65536)) (
 ifB (decide ((shrI (shrI y0 32) 16)≥256)) (
 strI (ByteArray.mk #[0,1,2,2,3,3,3,3,4,4,4,4,4,4,4,4,5,5,5,5,5,5,5,5,5,5,5,5,5,5,5,5,6,6,6,6,6,6,6,6,6,6,6,6,6,6,6,6,6,6,6,6,6,6,6,6,6,6,6,6,6,6,6,6,7,7,7,7,7,7,7,7,7,7,7,7,7,7,7,7,7,7,7,7,7,7,7,7,7,7,7,7,7,7,7,7,7,7,7,7,7,7,7,7,7,7,7,7,7,7,7,7,7,7,7,7,7,7,7,7,7,7,7,7,7,7,7,7,8,8,8,8,8,8,8,8,8,8,8,8,8,8,8,8,8,8,8,8,8,8,8,8,8,8,8,8,8,8,8,8,8,8,8,8,8,8,8,8,8,8,8,8,8,8,8,8,8,8,8,8,8,8,8,8,8,8,8,8,8,8,8,8,8,8,8,8,8,8,8,8,8,8,8,8,8,8,8,8,8,8,8,8,8,8,8,8,8,8,8,8,8,8,8,8,8,8,8,8,8,8,8,8,8,8,8,8,8,8,8,8,8,8,8,8,8,8,8,8,8,8,8,8,8,8,8,8]) (IntKind.wrap .u8 (shrI (shrI (shrI y0 32) 16) 8)) fun b1=>
 Q (.int .i64 (IntKind.wrap .i64 ((IntKind.wrap .i64 ((IntKind.wrap .i64 ((32:Int)+16))+8))+(IntKind.wrap .i64 (b1.toNat:Int))))) h) (
 strI (ByteArray.mk #[0,1,2,2,3,3,3,3,4,4,4,4,4,4,4,4,5,5,5,5,5,5,5,5,5,5,5,5,5,5,5,5,6,6,6,6,6,6,6,6,6,6,6,6,6,6,6,6,6,6,6,6,6,6,6,6,6,6,6,6,6,6,6,6,7,7,7,7,7,7,7,7,7,7,7,7,7,7,7,7,7,7,7,7,7,7,7,7,7,7,7,7,7,7,7,7,7,7,7,7,7,7,7,7,7,7,7,7,7,7,7,7,7,7,7,7,7,7,7,7,7,7,7,7,7,7,7,7,8,8,8,8,8,8,8,8,8,8,8,8,8,8,8,8,8,8,8,8,8,8,8,8,8,8,8,8,8,8,8,8,8,8,8,8,8,8,8,8,8,8,8,8,8,8,8,8,8,8,8,8,8,8,8,8,8,8,8,8,8,8,8,8,8,8,8,8,8,8,8,8,8,8,8,8,8,8,8,8,8,8,8,8,8,8,8,8,8,8,8,8,8,8,8,8,8,8,8,8,8,8,8,8,8,8,8,8,8,8,8,8,8,8,8,8,8,8,8,8,8,8,8,8,8,8,8,8]) (IntKind.wrap .u8 (shrI (shrI y0 32) 16)) fun b2=>
 Q (.int .i64 (IntKind.wrap .i64 ((IntKind.wrap .i64 ((32:Int)+16))+(IntKind.wrap .i64 (b2.toNat:Int))))) h)) (
 ifB (decide ((shrI y0 32)≥256)) (
 strI (ByteArray.mk #[0,1,2,2,3,3,3,3,4,4,4,4,4,4,4,4,5,5,5,5,5,5,5,5,5,5,5,5,5,5,5,5,6,6,6,6,6,6,6,6,6,6,6,6,6,6,6,6,6,6,6,6,6,6,6,6,6,6,6,6,6,6,6,6,7,7,7,7,7,7,7,7,7,7,7,7,7,7,7,7,7,7,7,7,7,7,7,7,7,7,7,7,7,7,7,7,7,7,7,7,7,7,7,7,7,7,7,7,7,7,7,7,7,7,7,7,7,7,7,7,7,7,7,7,7,7,7,7,8,8,8,8,8,8,8,8,8,8,8,8,8,8,8,8,8,8,8,8,8,8,8,8,8,8,8,8,8,8,8,8,8,8,8,8,8,8,8,8,8,8,8,8,8,8,8,8,8,8,8,8,8,8,8,8,8,8,8,8,8,8,8,8,8,8,8,8,8,8,8,8,8,8,8,8,8,8,8,8,8,8,8,8,8,8,8,8,8,8,8,8,8,8,8,8,8,8,8,8,8,8,8,8,8,8,8,8,8,8,8,8,8,8,8,8,8,8,8,8,8,8,8,8,8,8,8,8]) (IntKind.wrap .u8 (shrI (shrI y0 32) 8)) fun b3=>
 Q (.int .i64 (IntKind.wrap .i64 ((IntKind.wrap .i64 ((32:Int)+8))+(IntKind.wrap .i64 (b3.toNat:Int))))) h) (
 strI (ByteArray.mk #[0,1,2,2,3,3,3,3,4,4,4,4,4,4,4,4,5,5,5,5,5,5,5,5,5,5,5,5,5,5,5,5,6,6,6,6,6,6,6,6,6,6,6,6,6,6,6,6,6,6,6,6,6,6,6,6,6,6,6,6,6,6,6,6,7,7,7,7,7,7,7,7,7,7,7,7,7,7,7,7,7,7,7,7,7,7,7,7,7,7,7,7,7,7,7,7,7,7,7,7,7,7,7,7,7,7,7,7,7,7,7,7,7,7,7,7,7,7,7,7,7,7,7,7,7,7,7,7,8,8,8,8,8,8,8,8,8,8,8,8,8,8,8,8,8,8,8,8,8,8,8,8,8,8,8,8,8,8,8,8,8,8,8,8,8,8,8,8,8,8,8,8,8,8,8,8,8,8,8,8,8,8,8,8,8,8,8,8,8,8,8,8,8,8,8,8,8,8,8,8,8,8,8,8,8,8,8,8,8,8,8,8,8,8,8,8,8,8,8,8,8,8,8,8,8,8,8,8,8,8,8,8,8,8,8,8,8,8,8,8,8,8,8,8,8,8,8,8,8,8,8,8,8,8,8,8]) (IntKind.wrap .u8 (shrI y0 32)) fun b4=>
 Q (.int .i64 (IntKind.wrap .i64 ((32:Int)+(IntKind.wrap .i64 (b4.toNat:Int))))) h))) (
 ifB (decide (y0≥65536)) (
 ifB (decide ((shrI y0 16)≥256)) (
 strI (ByteArray.mk #[0,1,2,2,3,3,3,3,4,4,4,4,4,4,4,4,5,5,5,5,5,5,5,5,5,5,5,5,5,5,5,5,6,6,6,6,6,6,6,6,6,6,6,6,6,6,6,6,6,6,6,6,6,6,6,6,6,6,6,6,6,6,6,6,7,7,7,7,7,7,7,7,7,7,7,7,7,7,7,7,7,7,7,7,7,7,7,7,7,7,7,7,7,7,7,7,7,7,7,7,7,7,7,7,7,7,7,7,7,7,7,7,7,7,7,7,7,7,7,7,7,7,7,7,7,7,7,7,8,8,8,8,8,8,8,8,8,8,8,8,8,8,8,8,8,8,8,8,8,8,8,8,8,8,8,8,8,8,8,8,8,8,8,8,8,8,8,8,8,8,8,8,8,8,8,8,8,8,8,8,8,8,8,8,8,8,8,8,8,8,8,8,8,8,8,8,8,8,8,8,8,8,8,8,8,8,8,8,8,8,8,8,8,8,8,8,8,8,8,8,8,8,8,8,8,8,8,8,8,8,8,8,8,8,8,8,8,8,8,8,8,8,8,8,8,8,8,8,8,8,8,8,8,8,8,8]) (IntKind.wrap .u8 (shrI (shrI y0 16) 8)) fun b5=>
 Q (.int .i64 (IntKind.wrap .i64 ((IntKind.wrap .i64 ((IntKind.wrap .i64 ((0:Int)+16))+8))+(IntKind.wrap .i64 (b5.toNat:Int))))) h) (
 strI (ByteArray.mk #[0,1,2,2,3,3,3,3,4,4,4,4,4,4,4,4,5,5,5,5,5,5,5,5,5,5,5,5,5,5,5,5,6,6,6,6,6,6,6,6,6,6,6,6,6,6,6,6,6,6,6,6,6,6,6,6,6,6,6,6,6,6,6,6,7,7,7,7,7,7,7,7,7,7,7,7,7,7,7,7,7,7,7,7,7,7,7,7,7,7,7,7,7,7,7,7,7,7,7,7,7,7,7,7,7,7,7,7,7,7,7,7,7,7,7,7,7,7,7,7,7,7,7,7,7,7,7,7,8,8,8,8,8,8,8,8,8,8,8,8,8,8,8,8,8,8,8,8,8,8,8,8,8,8,8,8,8,8,8,8,8,8,8,8,8,8,8,8,8,8,8,8,8,8,8,8,8,8,8,8,8,8,8,8,8,8,8,8,8,8,8,8,8,8,8,8,8,8,8,8,8,8,8,8,8,8,8,8,8,8,8,8,8,8,8,8,8,8,8,8,8,8,8,8,8,8,8,8,8,8,8,8,8,8,8,8,8,8,8,8,8,8,8,8,8,8,8,8,8,8,8,8,8,8,8,8]) (IntKind.wrap .u8 (shrI y0 16)) fun b6=>
 Q (.int .i64 (IntKind.wrap .i64 ((IntKind.wrap .i64 ((0:Int)+16))+(IntKind.wrap .i64 (b6.toNat:Int))))) h)) (
 ifB (decide (y0≥256)) (
 strI (ByteArray.mk #[0,1,2,2,3,3,3,3,4,4,4,4,4,4,4,4,5,5,5,5,5,5,5,5,5,5,5,5,5,5,5,5,6,6,6,6,6,6,6,6,6,6,6,6,6,6,6,6,6,6,6,6,6,6,6,6,6,6,6,6,6,6,6,6,7,7,7,7,7,7,7,7,7,7,7,7,7,7,7,7,7,7,7,7,7,7,7,7,7,7,7,7,7,7,7,7,7,7,7,7,7,7,7,7,7,7,7,7,7,7,7,7,7,7,7,7,7,7,7,7,7,7,7,7,7,7,7,7,8,8,8,8,8,8,8,8,8,8,8,8,8,8,8,8,8,8,8,8,8,8,8,8,8,8,8,8,8,8,8,8,8,8,8,8,8,8,8,8,8,8,8,8,8,8,8,8,8,8,8,8,8,8,8,8,8,8,8,8,8,8,8,8,8,8,8,8,8,8,8,8,8,8,8,8,8,8,8,8,8,8,8,8,8,8,8,8,8,8,8,8,8,8,8,8,8,8,8,8,8,8,8,8,8,8,8,8,8,8,8,8,8,8,8,8,8,8,8,8,8,8,8,8,8,8,8,8]) (IntKind.wrap .u8 (shrI y0 8)) fun b7=>
 Q (.int .i64 (IntKind.wrap .i64 ((IntKind.wrap .i64 ((0:Int)+8))+(IntKind.wrap .i64 (b7.toNat:Int))))) h) (
 strI (ByteArray.mk #[0,1,2,2,3,3,3,3,4,4,4,4,4,4,4,4,5,5,5,5,5,5,5,5,5,5,5,5,5,5,5,5,6,6,6,6,6,6,6,6,6,6,6,6,6,6,6,6,6,6,6,6,6,6,6,6,6,6,6,6,6,6,6,6,7,7,7,7,7,7,7,7,7,7,7,7,7,7,7,7,7,7,7,7,7,7,7,7,7,7,7,7,7,7,7,7,7,7,7,7,7,7,7,7,7,7,7,7,7,7,7,7,7,7,7,7,7,7,7,7,7,7,7,7,7,7,7,7,8,8,8,8,8,8,8,8,8,8,8,8,8,8,8,8,8,8,8,8,8,8,8,8,8,8,8,8,8,8,8,8,8,8,8,8,8,8,8,8,8,8,8,8,8,8,8,8,8,8,8,8,8,8,8,8,8,8,8,8,8,8,8,8,8,8,8,8,8,8,8,8,8,8,8,8,8,8,8,8,8,8,8,8,8,8,8,8,8,8,8,8,8,8,8,8,8,8,8,8,8,8,8,8,8,8,8,8,8,8,8,8,8,8,8,8,8,8,8,8,8,8,8,8,8,8,8,8]) (IntKind.wrap .u8 y0) fun b8=>
 Q (.int .i64 (IntKind.wrap .i64 ((0:Int)+(IntKind.wrap .i64 (b8.toNat:Int))))) h)))
noncomputable def tab_math_bits_Len64:Tab:=tb (lookT .done []) (lookT [] []) (lookT none [])
theorem call_math_bits_Len64 (y0:Int) {h:Heap} {Q:VH} (H:math_bits_Len64 y0 h Q):callP P n_math_bits_Len64 #[(.int .u64 y0)] h Q:=
 @callP_of P n_math_bits_Len64 Tryz.f106 tab_math_bits_Len64 [(.int .u64 y0)] h Q mixed Tryz.func106 Tryz.call106 (by kernel_rfl) (Eq.mpr (by kernel_rfl) H)
def math_bits_Len (y0:Int) (h:Heap) (Q:VH):Prop:=
 callInt P .i64 n_math_bits_Len64 #[(.int .u64 y0)] h fun n2 h1=>
 Q (.int .i64 n2) h1
noncomputable def tab_math_bits_Len:Tab:=tb (lookT .done []) (lookT [] []) (lookT none [])
theorem call_math_bits_Len (y0:Int) {h:Heap} {Q:VH} (H:math_bits_Len y0 h Q):callP P n_math_bits_Len #[(.int .u64 y0)] h Q:=
 @callP_of P n_math_bits_Len Tryz.f82 tab_math_bits_Len [(.int .u64 y0)] h Q mixed Tryz.func82 Tryz.call82 (by kernel_rfl) (Eq.mpr (by kernel_rfl) H)
def cmp_isNaN_int (y0:Int) (h:Heap) (Q:VH):Prop:=
 Q (.bool (y0 !=y0)) h
noncomputable def tab_cmp_isNaN_int:Tab:=tb (lookT .done []) (lookT [] []) (lookT none [])
theorem call_cmp_isNaN_int (y0:Int) {h:Heap} {Q:VH} (H:cmp_isNaN_int y0 h Q):callP P n_cmp_isNaN_int #[(.int .i64 y0)] h Q:=
 @callP_of P n_cmp_isNaN_int Tryz.f120 tab_cmp_isNaN_int [(.int .i64 y0)] h Q mixed Tryz.func120 Tryz.call120 (by kernel_rfl) (Eq.mpr (by kernel_rfl) H)
def cmp_Less_int (y0 y1:Int) (h:Heap) (Q:VH):Prop:=
 callBool P n_cmp_isNaN_int #[(.int .i64 y0)] h fun b2 h1=>
 ifB b2 (
 callBool P n_cmp_isNaN_int #[(.int .i64 y1)] h1 fun b4 h3=>
 ifB (!b4) (
 Q (.bool true) h3) (
 Q (.bool (decide (y0<y1))) h3)) (
 Q (.bool (decide (y0<y1))) h1)
noncomputable def tab_cmp_Less_int:Tab:=tb (lookT .done []) (lookT [] []) (lookT none [])
theorem call_cmp_Less_int (y0 y1:Int) {h:Heap} {Q:VH} (H:cmp_Less_int y0 y1 h Q):callP P n_cmp_Less_int #[(.int .i64 y0),(.int .i64 y1)] h Q:=
 @callP_of P n_cmp_Less_int Tryz.f102 tab_cmp_Less_int [(.int .i64 y0),(.int .i64 y1)] h Q mixed Tryz.func102 Tryz.call102 (by kernel_rfl) (Eq.mpr (by kernel_rfl) H)
def slices_insertionSortOrdered_int_l4 (Q:VH) (K1:(S3×Int×Int×Int×Unit)→Heap→Prop) (K2:(S3×Int×Int×Int×Int×Unit)→Heap→Prop) (y0p:OA) (y0n y0c:Nat) (y1 y2 y6 y7:Int) (h2:Heap):Prop:=
 ifB (decide (y7>y1)) (
 idxI y0p y7 y0n fun a3=>
 idxI y0p (IntKind.wrap .i64 (y7-1)) y0n fun a4=>
 ldInt .i64 h2 (a3.add (y7.toNat*1)) fun n5=>
 ldInt .i64 h2 (a4.add ((IntKind.wrap .i64 (y7-1)).toNat*1)) fun n6=>
 callBool P n_cmp_Less_int #[(.int .i64 n5),(.int .i64 n6)] h2 fun b8 h7=>
 ifB b8 (
 idxI y0p (IntKind.wrap .i64 (y7-1)) y0n fun a9=>
 idxI y0p y7 y0n fun a10=>
 ldInt .i64 h7 (a9.add ((IntKind.wrap .i64 (y7-1)).toNat*1)) fun n11=>
 ldInt .i64 h7 (a10.add (y7.toNat*1)) fun n12=>
 idxI y0p y7 y0n fun a13=>
 stI h7 (a13.add (y7.toNat*1)) (.int .i64 n11) fun h14=>
 idxI y0p (IntKind.wrap .i64 (y7-1)) y0n fun a15=>
 stI h14 (a15.add ((IntKind.wrap .i64 (y7-1)).toNat*1)) (.int .i64 n12) fun h16=>
 K2 ((y0p,y0n,y0c),y1,y2,y6,(IntKind.wrap .i64 (y7-1)),()) h16) (
 K1 ((y0p,y0n,y0c),y1,y2,(IntKind.wrap .i64 (y6+1)),()) h7)) (
 K1 ((y0p,y0n,y0c),y1,y2,(IntKind.wrap .i64 (y6+1)),()) h2)
def slices_insertionSortOrdered_int_l1 (Q:VH) (K1:(S3×Int×Int×Int×Unit)→Heap→Prop) (y0p:OA) (y0n y0c:Nat) (y1 y2 y6:Int) (h1:Heap):Prop:=
 ifB (decide (y6<y2)) (
 LoopS (S:=(S3×Int×Int×Int×Int×Unit)) (fun K2 s h=>slices_insertionSortOrdered_int_l4 Q K1 K2 s.1.1 s.1.2.1 s.1.2.2 s.2.1 s.2.2.1 s.2.2.2.1 s.2.2.2.2.1 h) ((y0p,y0n,y0c),y1,y2,y6,y6,()) h1) (
 Q (.tuple #[]) h1)
def slices_insertionSortOrdered_int (y0p:OA) (y0n y0c:Nat) (y1 y2:Int) (h:Heap) (Q:VH):Prop:=
 LoopS (S:=(S3×Int×Int×Int×Unit)) (fun K1 s h=>slices_insertionSortOrdered_int_l1 Q K1 s.1.1 s.1.2.1 s.1.2.2 s.2.1 s.2.2.1 s.2.2.2.1 h) ((y0p,y0n,y0c),y1,y2,(IntKind.wrap .i64 (y1+1)),()) h
noncomputable def tab_slices_insertionSortOrdered_int:Tab:=tb (lookT .done [(4,(ones [0,1,2,3,4,5,6,8,9,10,11,7,12] (.alt 13 (ones [14] .done) .stop))),(6,(ones [0,1,2,3,4,5,6,7,8,10,11,12,9,13,14] (.alt 15 (ones [16] (.alt 17 .done .stop)) .stop)))]) (lookT [] [(1,[(0,SL),(1,I6),(2,I6),(6,I6)]),(4,[(0,SL),(1,I6),(2,I6),(6,I6),(7,I6)])]) (lookT none [])
theorem call_slices_insertionSortOrdered_int (y0p:OA) (y0n y0c:Nat) (y1 y2:Int) {h:Heap} {Q:VH} (H:slices_insertionSortOrdered_int y0p y0n y0c y1 y2 h Q):callP P n_slices_insertionSortOrdered_int #[(.slice y0p y0n y0c),(.int .i64 y1),(.int .i64 y2)] h Q:=
 @callP_of P n_slices_insertionSortOrdered_int Tryz.f96 tab_slices_insertionSortOrdered_int [(.slice y0p y0n y0c),(.int .i64 y1),(.int .i64 y2)] h Q mixed Tryz.func96 Tryz.call96 (by kernel_rfl) (Eq.mpr (by kernel_rfl) H)
def slices_pdqsortOrdered_int_j20 (Q:VH) (K1:YH Y9) (y0p:OA) (y0n y0c:Nat) (y1 y2 y3 y10 y11:Int) (h15:Heap):Prop:=
 callP P n_slices_partitionOrdered_int #[(.slice y0p y0n y0c),(.int .i64 y1),(.int .i64 y2),(.int .i64 y11)] h15 fun v17 h16=>
 ∃n18:Int,∃b19:Bool,v17=(.tuple #[(.int .i64 n18),(.bool b19)])∧
 ifB (decide ((IntKind.wrap .i64 (n18-y1))<(IntKind.wrap .i64 (y2-n18)))) (
 callUnit P n_slices_pdqsortOrdered_int #[(.slice y0p y0n y0c),(.int .i64 y1),(.int .i64 n18),(.int .i64 y3)] h16 fun h20=>
 K1 ((y0p,y0n,y0c),(IntKind.wrap .i64 (n18+1)),y2,y3,(decide ((IntKind.wrap .i64 (n18-y1))≥(IntKind.wrap .i64 (Int.tdiv y10 8)))),b19,()) h20) (
 callUnit P n_slices_pdqsortOrdered_int #[(.slice y0p y0n y0c),(.int .i64 (IntKind.wrap .i64 (n18+1))),(.int .i64 y2),(.int .i64 y3)] h16 fun h21=>
 K1 ((y0p,y0n,y0c),y1,n18,y3,(decide ((IntKind.wrap .i64 (y2-n18))≥(IntKind.wrap .i64 (Int.tdiv y10 8)))),b19,()) h21)
def slices_pdqsortOrdered_int_j17 (Q:VH) (K1:YH Y9) (y0p:OA) (y0n y0c:Nat) (y1 y2 y3:Int) (y8 y9:Bool) (y10 y11:Int) (h13:Heap):Prop:=
 ∃J14:YH Y8,(∀s h,J14 s h→slices_pdqsortOrdered_int_j20 Q K1 s.1.1 s.1.2.1 s.1.2.2 s.2.1 s.2.2.1 s.2.2.2.1 s.2.2.2.2.1 s.2.2.2.2.2.1 h)∧
 ifB (decide (y1>0)) (
 idxI y0p (IntKind.wrap .i64 (y1-1)) y0n fun a22=>
 idxI y0p y11 y0n fun a23=>
 ldInt .i64 h13 (a22.add ((IntKind.wrap .i64 (y1-1)).toNat*1)) fun n24=>
 ldInt .i64 h13 (a23.add (y11.toNat*1)) fun n25=>
 callBool P n_cmp_Less_int #[(.int .i64 n24),(.int .i64 n25)] h13 fun b27 h26=>
 ifB (!b27) (
 callInt P .i64 n_slices_partitionEqualOrdered_int #[(.slice y0p y0n y0c),(.int .i64 y1),(.int .i64 y2),(.int .i64 y11)] h26 fun n29 h28=>
 K1 ((y0p,y0n,y0c),n29,y2,y3,y8,y9,()) h28) (
 J14 ((y0p,y0n,y0c),y1,y2,y3,y10,y11,()) h26)) (
 J14 ((y0p,y0n,y0c),y1,y2,y3,y10,y11,()) h13)
def slices_pdqsortOrdered_int_j15 (Q:VH) (K1:YH Y9) (y0p:OA) (y0n y0c:Nat) (y1 y2 y3:Int) (y8 y9:Bool) (y10 y11 y12:Int) (h11:Heap):Prop:=
 ∃J12:YH Y12,(∀s h,J12 s h→slices_pdqsortOrdered_int_j17 Q K1 s.1.1 s.1.2.1 s.1.2.2 s.2.1 s.2.2.1 s.2.2.2.1 s.2.2.2.2.1 s.2.2.2.2.2.1 s.2.2.2.2.2.2.1 s.2.2.2.2.2.2.2.1 h)∧
 ifB y8 (
 ifB y9 (
 ifB (y12==1) (
 callBool P n_slices_partialInsertionSortOrdered_int #[(.slice y0p y0n y0c),(.int .i64 y1),(.int .i64 y2)] h11 fun b31 h30=>
 ifB b31 (
 Q (.tuple #[]) h30) (
 J12 ((y0p,y0n,y0c),y1,y2,y3,y8,y9,y10,y11,()) h30)) (
 J12 ((y0p,y0n,y0c),y1,y2,y3,y8,y9,y10,y11,()) h11)) (
 J12 ((y0p,y0n,y0c),y1,y2,y3,y8,y9,y10,y11,()) h11)) (
 J12 ((y0p,y0n,y0c),y1,y2,y3,y8,y9,y10,y11,()) h11)
def slices_pdqsortOrdered_int_j10 (Q:VH) (K1:YH Y9) (y0p:OA) (y0n y0c:Nat) (y1 y2 y3:Int) (y8 y9:Bool) (y10:Int) (h5:Heap):Prop:=
 callP P n_slices_choosePivotOrdered_int #[(.slice y0p y0n y0c),(.int .i64 y1),(.int .i64 y2)] h5 fun v7 h6=>
 ∃n8:Int,∃n9:Int,v7=(.tuple #[(.int .i64 n8),(.int .i64 n9)])∧
 ∃J10:YH Y11,(∀s h,J10 s h→slices_pdqsortOrdered_int_j15 Q K1 s.1.1 s.1.2.1 s.1.2.2 s.2.1 s.2.2.1 s.2.2.2.1 s.2.2.2.2.1 s.2.2.2.2.2.1 s.2.2.2.2.2.2.1 s.2.2.2.2.2.2.2.1 s.2.2.2.2.2.2.2.2.1 h)∧
 ifB (n9==2) (
 callUnit P n_slices_reverseRangeOrdered_int #[(.slice y0p y0n y0c),(.int .i64 y1),(.int .i64 y2)] h6 fun h32=>
 J10 ((y0p,y0n,y0c),y1,y2,y3,y8,y9,y10,(IntKind.wrap .i64 ((IntKind.wrap .i64 (y2-1))-(IntKind.wrap .i64 (n8-y1)))),(1:Int),()) h32) (
 J10 ((y0p,y0n,y0c),y1,y2,y3,y8,y9,y10,n8,n9,()) h6)
def slices_pdqsortOrdered_int_l2 (Q:VH) (K1:YH Y9) (y0p:OA) (y0n y0c:Nat) (y1 y2 y3:Int) (y8 y9:Bool) (h1:Heap):Prop:=
 ifB (decide ((IntKind.wrap .i64 (y2-y1))≤12)) (
 callUnit P n_slices_insertionSortOrdered_int #[(.slice y0p y0n y0c),(.int .i64 y1),(.int .i64 y2)] h1 fun h2=>
 Q (.tuple #[]) h2) (
 ifB (y3==0) (
 callUnit P n_slices_heapSortOrdered_int #[(.slice y0p y0n y0c),(.int .i64 y1),(.int .i64 y2)] h1 fun h3=>
 Q (.tuple #[]) h3) (
 ∃J4:YH Y10,(∀s h,J4 s h→slices_pdqsortOrdered_int_j10 Q K1 s.1.1 s.1.2.1 s.1.2.2 s.2.1 s.2.2.1 s.2.2.2.1 s.2.2.2.2.1 s.2.2.2.2.2.1 s.2.2.2.2.2.2.1 h)∧
 ifB (!y8) (
 callUnit P n_slices_breakPatternsOrdered_int #[(.slice y0p y0n y0c),(.int .i64 y1),(.int .i64 y2)] h1 fun h33=>
 J4 ((y0p,y0n,y0c),y1,y2,(IntKind.wrap .i64 (y3-1)),y8,y9,(IntKind.wrap .i64 (y2-y1)),()) h33) (
 J4 ((y0p,y0n,y0c),y1,y2,y3,y8,y9,(IntKind.wrap .i64 (y2-y1)),()) h1)))
def slices_pdqsortOrdered_int (y0p:OA) (y0n y0c:Nat) (y1 y2 y3:Int) (h:Heap) (Q:VH):Prop:=
 LoopS (S:=Y9) (fun K1 s h=>slices_pdqsortOrdered_int_l2 Q K1 s.1.1 s.1.2.1 s.1.2.2 s.2.1 s.2.2.1 s.2.2.2.1 s.2.2.2.2.1 s.2.2.2.2.2.1 h) ((y0p,y0n,y0c),y1,y2,y3,true,true,()) h
noncomputable def tab_slices_pdqsortOrdered_int:Tab:=tb (lookT .done [(17,(ones [0,1,2,3,4,5,6,8,9,10,7,11] (.alt 12 (ones [13,14] .done) .stop)))]) (lookT [] [(2,[(0,SL),(1,I6),(2,I6),(3,I6),(8,BO),(9,BO)])]) (lookT none [(10,some [(0,SL),(1,I6),(2,I6),(3,I6),(8,BO),(9,BO),(10,I6)]),(15,some [(0,SL),(1,I6),(2,I6),(3,I6),(8,BO),(9,BO),(10,I6),(11,I6),(12,I6)]),(17,some [(0,SL),(1,I6),(2,I6),(3,I6),(8,BO),(9,BO),(10,I6),(11,I6)]),(20,some [(0,SL),(1,I6),(2,I6),(3,I6),(10,I6),(11,I6)])])
theorem call_slices_pdqsortOrdered_int (y0p:OA) (y0n y0c:Nat) (y1 y2 y3:Int) {h:Heap} {Q:VH} (H:slices_pdqsortOrdered_int y0p y0n y0c y1 y2 y3 h Q):callP P n_slices_pdqsortOrdered_int #[(.slice y0p y0n y0c),(.int .i64 y1),(.int .i64 y2),(.int .i64 y3)] h Q:=
 @callP_of P n_slices_pdqsortOrdered_int Tryz.f81 tab_slices_pdqsortOrdered_int [(.slice y0p y0n y0c),(.int .i64 y1),(.int .i64 y2),(.int .i64 y3)] h Q mixed Tryz.func81 Tryz.call81 (by kernel_rfl) (Eq.mpr (by kernel_rfl) H)
def slices_Sort_int_int (y0p:OA) (y0n y0c:Nat) (h:Heap) (Q:VH):Prop:=
 callInt P .i64 n_math_bits_Len #[(.int .u64 (IntKind.wrap .u64 (y0n:Int)))] h fun n2 h1=>
 callUnit P n_slices_pdqsortOrdered_int #[(.slice y0p y0n y0c),(.int .i64 0),(.int .i64 (y0n:Int)),(.int .i64 n2)] h1 fun h3=>
 Q (.tuple #[]) h3
noncomputable def tab_slices_Sort_int_int:Tab:=tb (lookT .done []) (lookT [] []) (lookT none [])
theorem call_slices_Sort_int_int (y0p:OA) (y0n y0c:Nat) {h:Heap} {Q:VH} (H:slices_Sort_int_int y0p y0n y0c h Q):callP P n_slices_Sort_int_int #[(.slice y0p y0n y0c)] h Q:=
 @callP_of P n_slices_Sort_int_int Tryz.f56 tab_slices_Sort_int_int [(.slice y0p y0n y0c)] h Q mixed Tryz.func56 Tryz.call56 (by kernel_rfl) (Eq.mpr (by kernel_rfl) H)
def slices_Sorted_int (y0:Value) (h:Heap) (Q:VH):Prop:=
 callSlice P n_slices_Collect_int #[y0] h fun p2 l2 c2 h1=>
 callUnit P n_slices_Sort_int_int #[(.slice p2 l2 c2)] h1 fun h3=>
 Q (.slice p2 l2 c2) h3
noncomputable def tab_slices_Sorted_int:Tab:=tb (lookT .done []) (lookT [] []) (lookT none [])
theorem call_slices_Sorted_int (y0:Value) {h:Heap} {Q:VH} (H:slices_Sorted_int y0 h Q):callP P n_slices_Sorted_int #[y0] h Q:=
 @callP_of P n_slices_Sorted_int Tryz.f30 tab_slices_Sorted_int [y0] h Q mixed Tryz.func30 Tryz.call30 (by kernel_rfl) (Eq.mpr (by kernel_rfl) H)
def slices_Compact_int_int_l9 (Q:VH) (K1:(S3×Int×Unit)→Heap→Prop) (K2:YH Y13) (y0p:OA) (y0n y0c:Nat) (y3:Int) (y4p:OA) (y4n y4c:Nat) (y5:Int) (h7:Heap):Prop:=
 ifB (decide (y5<(y4n:Int))) (
 idxI y4p y5 y4n fun a8=>
 idxI y4p (IntKind.wrap .i64 (y5-1)) y4n fun a9=>
 ldInt .i64 h7 (a8.add (y5.toNat*1)) fun n10=>
 ldInt .i64 h7 (a9.add ((IntKind.wrap .i64 (y5-1)).toNat*1)) fun n11=>
 ifB (n10 !=n11) (
 idxI y4p y5 y4n fun a12=>
 ldInt .i64 h7 (a12.add (y5.toNat*1)) fun n13=>
 idxI y0p y3 y0n fun a14=>
 stI h7 (a14.add (y3.toNat*1)) (.int .i64 n13) fun h15=>
 K2 ((y0p,y0n,y0c),(IntKind.wrap .i64 (y3+1)),(y4p,y4n,y4c),(IntKind.wrap .i64 (y5+1)),()) h15) (
 K2 ((y0p,y0n,y0c),y3,(y4p,y4n,y4c),(IntKind.wrap .i64 (y5+1)),()) h7)) (
 bndI y3 y0n fun l16=>
 clB (.int .i64 0) (if y0c=l16 then y0p else Option.map (fun a=>a.add (l16*1)) y0p) (y0n-l16) h7 fun h17=>
 bndI y3 y0c fun l18=>
 Q (.slice (if y0c=0 then y0p else Option.map (fun a=>a.add (0*1)) y0p) (l18-0) (y0c-0)) h17)
def slices_Compact_int_int_l4 (Q:VH) (K1:(S3×Int×Unit)→Heap→Prop) (y0p:OA) (y0n y0c:Nat) (y3:Int) (h1:Heap):Prop:=
 ifB (decide (y3<(y0n:Int))) (
 idxI y0p y3 y0n fun a2=>
 idxI y0p (IntKind.wrap .i64 (y3-1)) y0n fun a3=>
 ldInt .i64 h1 (a2.add (y3.toNat*1)) fun n4=>
 ldInt .i64 h1 (a3.add ((IntKind.wrap .i64 (y3-1)).toNat*1)) fun n5=>
 ifB (n4==n5) (
 bndI y3 y0n fun l6=>
 LoopS (S:=Y13) (fun K2 s h=>slices_Compact_int_int_l9 Q K1 K2 s.1.1 s.1.2.1 s.1.2.2 s.2.1 s.2.2.1.1 s.2.2.1.2.1 s.2.2.1.2.2 s.2.2.2.1 h) ((y0p,y0n,y0c),y3,((if y0c=l6 then y0p else Option.map (fun a=>a.add (l6*1)) y0p),(y0n-l6),(y0c-l6)),(1:Int),()) h1) (
 K1 ((y0p,y0n,y0c),(IntKind.wrap .i64 (y3+1)),()) h1)) (
 Q (.slice y0p y0n y0c) h1)
def slices_Compact_int_int (y0p:OA) (y0n y0c:Nat) (h:Heap) (Q:VH):Prop:=
 ifB (decide ((y0n:Int)<2)) (
 Q (.slice y0p y0n y0c) h) (
 LoopS (S:=(S3×Int×Unit)) (fun K1 s h=>slices_Compact_int_int_l4 Q K1 s.1.1 s.1.2.1 s.1.2.2 s.2.1 h) ((y0p,y0n,y0c),(1:Int),()) h)
noncomputable def tab_slices_Compact_int_int:Tab:=tb (lookT .done [(6,(ones [0,1,2,4,5,6,7,3,8,9] .done)),(11,(ones [0,1,2,4,5,6,7,3,8,9] .done))]) (lookT [] [(4,[(0,SL),(3,I6)]),(9,[(0,SL),(3,I6),(4,SL),(5,I6)])]) (lookT none [])
theorem call_slices_Compact_int_int (y0p:OA) (y0n y0c:Nat) {h:Heap} {Q:VH} (H:slices_Compact_int_int y0p y0n y0c h Q):callP P n_slices_Compact_int_int #[(.slice y0p y0n y0c)] h Q:=
 @callP_of P n_slices_Compact_int_int Tryz.f29 tab_slices_Compact_int_int [(.slice y0p y0n y0c)] h Q mixed Tryz.func29 Tryz.call29 (by kernel_rfl) (Eq.mpr (by kernel_rfl) H)
def fuse_live_1_l1 (Q:VH) (K1:YH Y14) (t2 t3:Addr) (t16_p:OA) (t16_n t16_c:Nat) (t17 t18:Int) (h11:Heap):Prop:=
 ifB (decide (t18<t17)) (
 idxI t16_p t18 t16_n fun a12=>
 ldInt .i64 h11 (a12.add (t18.toNat*1)) fun n13=>
 ldMap h11 t2 fun m14=>
 lookB .i64 (.int .i64 0) m14 n13 h11 fun v16 b17=>
 ∃n18:Int,v16=(.int .i64 n18)∧
 updB .i64 m14 n13 (.int .i64 (IntKind.wrap .i64 (n18+1))) h11 fun h19=>
 ifB (decide (n13>0)) (
 ldMap h19 t2 fun m20=>
 lookB .i64 (.int .i64 0) m20 n13 h19 fun v22 b23=>
 ∃n24:Int,v22=(.int .i64 n24)∧
 ifB (n24==1) (
 ldAny h19 t3 fun v25=>
 callAny P v25 [(.int .i64 n13)] h19 fun v26 h27=>
 v26=(.tuple #[])∧
 K1 (t2,t3,(t16_p,t16_n,t16_c),t17,(IntKind.wrap .i64 (t18+1)),()) h27) (
 K1 (t2,t3,(t16_p,t16_n,t16_c),t17,(IntKind.wrap .i64 (t18+1)),()) h19)) (
 K1 (t2,t3,(t16_p,t16_n,t16_c),t17,(IntKind.wrap .i64 (t18+1)),()) h19)) (
 Q (.tuple #[]) h11)
def fuse_live_1 (y0:Int) (free0 free1 free2:Addr) (h:Heap) (Q:VH):Prop:=
 ldSlice h (free0.add 3) fun p1 l1 c1=>
 idxI p1 (IntKind.wrap .i64 (y0-1)) l1 fun a2=>
 ldSlice h (Addr.add (a2.add ((IntKind.wrap .i64 (y0-1)).toNat*15)) 1) fun p3 l3 c3=>
 callP P n_slices_Values_int_int #[(.slice p3 l3 c3)] h fun v5 h4=>
 ∃v6:Value,v5=v6∧
 callSlice P n_slices_Sorted_int #[v6] h4 fun p8 l8 c8 h7=>
 callSlice P n_slices_Compact_int_int #[(.slice p8 l8 c8)] h7 fun p10 l10 c10 h9=>
 LoopS (S:=Y14) (fun K1 s h=>fuse_live_1_l1 Q K1 s.1 s.2.1 s.2.2.1.1 s.2.2.1.2.1 s.2.2.1.2.2 s.2.2.2.1 s.2.2.2.2.1 h) (free1,free2,(p10,l10,c10),(l10:Int),(0:Int),()) h9
noncomputable def tab_fuse_live_1:Tab:=tb (lookT .done []) (lookT [] [(1,[(2,.sc (.adr)),(3,.sc (.adr)),(16,SL),(17,I6),(18,I6)])]) (lookT none [])
theorem call_fuse_live_1 (y0:Int) (free0 free1 free2:Addr) {h:Heap} {Q:VH} (H:fuse_live_1 y0 free0 free1 free2 h Q):callP P n_fuse_live_1 #[(.int .i64 y0),(.pointer (some free0)),(.pointer (some free1)),(.pointer (some free2))] h Q:=
 @callP_of P n_fuse_live_1 Tryz.f28 tab_fuse_live_1 [(.int .i64 y0),(.pointer (some free0)),(.pointer (some free1)),(.pointer (some free2))] h Q mixed Tryz.func28 Tryz.call28 (by kernel_rfl) (Eq.mpr (by kernel_rfl) H)
def fuse_live (y0:TS A1) (h:Heap) (Q:VH):Prop:=
 newI h (.cells (mkS' A1 y0).toArray 26 (0,0)) fun b1 h2=>
 newI h2 (.map #[] 0) fun r4 h3=>
 newI h3 (.cells #[(.map none)] 43 (0,0)) fun b5 h6=>
 stI h6 ⟨b5,0,none⟩ (.map (some r4)) fun h7=>
 newI h7 (.cells #[.nilFunc] 63 (0,0)) fun b8 h9=>
 stI h9 ⟨b8,0,none⟩ (.func (.func n_fuse_live_1) #[] #[(.pointer (some ⟨b1,0,none⟩)),(.pointer (some ⟨b5,0,none⟩)),(.pointer (some ⟨b8,0,none⟩))]) fun h10=>
 ldMap h10 ⟨b5,0,none⟩ fun m11=>
 ldInt .i64 h10 ⟨b1,4,none⟩ fun n12=>
 updB .i64 m11 n12 (.int .i64 0) h10 fun h13=>
 ldAny h13 ⟨b8,0,none⟩ fun v14=>
 ldInt .i64 h13 ⟨b1,4,none⟩ fun n15=>
 callAny P v14 [(.int .i64 n15)] h13 fun v16 h17=>
 v16=(.tuple #[])∧
 ldMap h17 ⟨b5,0,none⟩ fun m18=>
 Q (.map m18) h17
noncomputable def tab_fuse_live:Tab:=tb (lookT .done []) (lookT [] []) (lookT none [])
theorem call_fuse_live (y0:TS A1) {h:Heap} {Q:VH} (H:fuse_live y0 h Q):callP P n_fuse_live #[(agS A1 y0)] h Q:=
 @callP_of P n_fuse_live Tryz.f15 tab_fuse_live [(agS A1 y0)] h Q mixed Tryz.func15 Tryz.call15 (by kernel_rfl) (Eq.mpr (by kernel_rfl) H)
def slices_Index_int_int_l2 (Q:VH) (K1:(S3×Int×Int×Int×Unit)→Heap→Prop) (y0p:OA) (y0n y0c:Nat) (y1 t7 t8:Int) (h1:Heap):Prop:=
 ifB (decide (t8<t7)) (
 idxI y0p t8 y0n fun a2=>
 ldInt .i64 h1 (a2.add (t8.toNat*1)) fun n3=>
 ifB (y1==n3) (
 Q (.int .i64 t8) h1) (
 K1 ((y0p,y0n,y0c),y1,t7,(IntKind.wrap .i64 (t8+1)),()) h1)) (
 Q (.int .i64 (-1:Int)) h1)
def slices_Index_int_int (y0p:OA) (y0n y0c:Nat) (y1:Int) (h:Heap) (Q:VH):Prop:=
 LoopS (S:=(S3×Int×Int×Int×Unit)) (fun K1 s h=>slices_Index_int_int_l2 Q K1 s.1.1 s.1.2.1 s.1.2.2 s.2.1 s.2.2.1 s.2.2.2.1 h) ((y0p,y0n,y0c),y1,(y0n:Int),(0:Int),()) h
noncomputable def tab_slices_Index_int_int:Tab:=tb (lookT .done []) (lookT [] [(2,[(0,SL),(1,I6),(7,I6),(8,I6)])]) (lookT none [])
theorem call_slices_Index_int_int (y0p:OA) (y0n y0c:Nat) (y1:Int) {h:Heap} {Q:VH} (H:slices_Index_int_int y0p y0n y0c y1 h Q):callP P n_slices_Index_int_int #[(.slice y0p y0n y0c),(.int .i64 y1)] h Q:=
 @callP_of P n_slices_Index_int_int Tryz.f58 tab_slices_Index_int_int [(.slice y0p y0n y0c),(.int .i64 y1)] h Q mixed Tryz.func58 Tryz.call58 (by kernel_rfl) (Eq.mpr (by kernel_rfl) H)
def slices_Contains_int_int (y0p:OA) (y0n y0c:Nat) (y1:Int) (h:Heap) (Q:VH):Prop:=
 callInt P .i64 n_slices_Index_int_int #[(.slice y0p y0n y0c),(.int .i64 y1)] h fun n2 h1=>
 Q (.bool (decide (n2≥0))) h1
noncomputable def tab_slices_Contains_int_int:Tab:=tb (lookT .done []) (lookT [] []) (lookT none [])
theorem call_slices_Contains_int_int (y0p:OA) (y0n y0c:Nat) (y1:Int) {h:Heap} {Q:VH} (H:slices_Contains_int_int y0p y0n y0c y1 h Q):callP P n_slices_Contains_int_int #[(.slice y0p y0n y0c),(.int .i64 y1)] h Q:=
 @callP_of P n_slices_Contains_int_int Tryz.f32 tab_slices_Contains_int_int [(.slice y0p y0n y0c),(.int .i64 y1)] h Q mixed Tryz.func32 Tryz.call32 (by kernel_rfl) (Eq.mpr (by kernel_rfl) H)
def fuse_take (y0 y1:Option Addr) (h:Heap) (Q:VH):Prop:=
 nilI y1 fun a1=>
 ldInt .i64 h a1 fun n2=>
 ifB (n2==10) (
 nilI y0 fun a3=>
 ldInt .i64 h (a3.add 14) fun n4=>
 ifB (n4==0) (
 nilI y1 fun a5=>
 nilI y1 fun a6=>
 ldInt .i64 h (a5.add 10) fun n7=>
 ldInt .i64 h (a6.add 11) fun n8=>
 nilI y0 fun a9=>
 stI h (a9.add 14) (.int .i64 1) fun h10=>
 nilI y0 fun a11=>
 stI h10 (a11.add 10) (.int .i64 n7) fun h12=>
 nilI y0 fun a13=>
 stI h12 (a13.add 11) (.int .i64 n8) fun h14=>
 Q (.bool true) h14) (
 nilI y1 fun a15=>
 ldInt .i64 h a15 fun n16=>
 ifB (n16==9) (
 nilI y0 fun a17=>
 ldInt .i64 h (a17.add 14) fun n18=>
 ifB ((andI .i64 n18 2)==0) (
 nilI y0 fun a19=>
 nilI y1 fun a20=>
 nilI y1 fun a21=>
 ldInt .i64 h (a19.add 14) fun n22=>
 ldInt .i64 h (a20.add 12) fun n23=>
 ldInt .i64 h (a21.add 13) fun n24=>
 nilI y0 fun a25=>
 stI h (a25.add 14) (.int .i64 (orI .i64 n22 2)) fun h26=>
 nilI y0 fun a27=>
 stI h26 (a27.add 12) (.int .i64 n23) fun h28=>
 nilI y0 fun a29=>
 stI h28 (a29.add 13) (.int .i64 n24) fun h30=>
 Q (.bool true) h30) (
 Q (.bool false) h)) (
 Q (.bool false) h))) (
 nilI y1 fun a31=>
 ldInt .i64 h a31 fun n32=>
 ifB (n32==9) (
 nilI y0 fun a33=>
 ldInt .i64 h (a33.add 14) fun n34=>
 ifB ((andI .i64 n34 2)==0) (
 nilI y0 fun a35=>
 nilI y1 fun a36=>
 nilI y1 fun a37=>
 ldInt .i64 h (a35.add 14) fun n38=>
 ldInt .i64 h (a36.add 12) fun n39=>
 ldInt .i64 h (a37.add 13) fun n40=>
 nilI y0 fun a41=>
 stI h (a41.add 14) (.int .i64 (orI .i64 n38 2)) fun h42=>
 nilI y0 fun a43=>
 stI h42 (a43.add 12) (.int .i64 n39) fun h44=>
 nilI y0 fun a45=>
 stI h44 (a45.add 13) (.int .i64 n40) fun h46=>
 Q (.bool true) h46) (
 Q (.bool false) h)) (
 Q (.bool false) h))
noncomputable def tab_fuse_take:Tab:=tb (lookT .done [(3,(ones [0,1,2,3,4,5,7,8,9,6,10,11,12] (.alt 13 (ones [14,15] (.alt 16 (ones [17,18] (.alt 19 .done .stop)) .stop)) .stop))),(5,(ones [0,1,2,3,4,5,8,9,10,12,13,14,6,7,11,15,16,17] (.alt 18 (ones [19,20] (.alt 21 (ones [22,23] (.alt 24 .done .stop)) .stop)) .stop)))]) (lookT [] []) (lookT none [])
theorem call_fuse_take (y0 y1:Option Addr) {h:Heap} {Q:VH} (H:fuse_take y0 y1 h Q):callP P n_fuse_take #[(.pointer y0),(.pointer y1)] h Q:=
 @callP_of P n_fuse_take Tryz.f33 tab_fuse_take [(.pointer y0),(.pointer y1)] h Q mixed Tryz.func33 Tryz.call33 (by kernel_rfl) (Eq.mpr (by kernel_rfl) H)
def fuse_step_l20 (Q:VH) (K1:(Option Addr×Option Nat×Int×Int×Unit)→Heap→Prop) (K2:YH Y15) (K3:(Option Addr×Option Nat×Int×Int×Int×Int×Unit)→Heap→Prop) (K4:YH Y16) (y0:Option Addr) (y1:Option Nat) (y5 y9 y14 t116 t117:Int) (t127_p:OA) (t127_n t127_c:Nat) (t128 t129:Int) (h42:Heap):Prop:=
 ifB (decide (t129<t128)) (
 idxI t127_p t129 t127_n fun a43=>
 ldInt .i64 h42 (a43.add (t129.toNat*1)) fun n44=>
 ifB (n44==y9) (
 ifB ((IntKind.wrap .i64 (y14+1)) !=y9) (
 nilI y0 fun a45=>
 ldSlice h42 (a45.add 3) fun p46 l46 c46=>
 idxI p46 y14 l46 fun a47=>
 ldSlice h42 (Addr.add (a47.add (y14.toNat*15)) 1) fun p48 l48 c48=>
 idxI p48 t129 l48 fun a49=>
 stI h42 (a49.add (t129.toNat*1)) (.int .i64 (IntKind.wrap .i64 (y5+1))) fun h50=>
 K4 (y0,y1,y5,y9,y14,t116,t117,(t127_p,t127_n,t127_c),t128,(IntKind.wrap .i64 (t129+1)),()) h50) (
 K4 (y0,y1,y5,y9,y14,t116,t117,(t127_p,t127_n,t127_c),t128,(IntKind.wrap .i64 (t129+1)),()) h42)) (
 K4 (y0,y1,y5,y9,y14,t116,t117,(t127_p,t127_n,t127_c),t128,(IntKind.wrap .i64 (t129+1)),()) h42)) (
 K3 (y0,y1,y5,y9,t116,(IntKind.wrap .i64 (t117+1)),()) h42)
def fuse_step_l17 (Q:VH) (K1:(Option Addr×Option Nat×Int×Int×Unit)→Heap→Prop) (K2:YH Y15) (K3:(Option Addr×Option Nat×Int×Int×Int×Int×Unit)→Heap→Prop) (y0:Option Addr) (y1:Option Nat) (y5 y9 t116 t117:Int) (h37:Heap):Prop:=
 ifB (decide (t117<t116)) (
 nilI y0 fun a38=>
 ldSlice h37 (a38.add 3) fun p39 l39 c39=>
 idxI p39 t117 l39 fun a40=>
 ldSlice h37 (Addr.add (a40.add (t117.toNat*15)) 1) fun p41 l41 c41=>
 LoopS (S:=Y16) (fun K4 s h=>fuse_step_l20 Q K1 K2 K3 K4 s.1 s.2.1 s.2.2.1 s.2.2.2.1 s.2.2.2.2.1 s.2.2.2.2.2.1 s.2.2.2.2.2.2.1 s.2.2.2.2.2.2.2.1.1 s.2.2.2.2.2.2.2.1.2.1 s.2.2.2.2.2.2.2.1.2.2 s.2.2.2.2.2.2.2.2.1 s.2.2.2.2.2.2.2.2.2.1 h) (y0,y1,y5,y9,t117,t116,t117,(p41,l41,c41),(l41:Int),(0:Int),()) h37) (
 nilI y0 fun a51=>
 ldInt .i64 h37 (a51.add 4) fun n52=>
 ifB (n52==y9) (
 nilI y0 fun a53=>
 stI h37 (a53.add 4) (.int .i64 (IntKind.wrap .i64 (y5+1))) fun h54=>
 lookB .i64 (.int .i64 0) y1 y9 h54 fun v56 b57=>
 ∃n58:Int,v56=(.int .i64 n58)∧
 updB .i64 y1 (IntKind.wrap .i64 (y5+1)) (.int .i64 n58) h54 fun h59=>
 delB .i64 y1 y9 h59 fun h60=>
 Q (.bool true) h60) (
 lookB .i64 (.int .i64 0) y1 y9 h37 fun v62 b63=>
 ∃n64:Int,v62=(.int .i64 n64)∧
 updB .i64 y1 (IntKind.wrap .i64 (y5+1)) (.int .i64 n64) h37 fun h65=>
 delB .i64 y1 y9 h65 fun h66=>
 Q (.bool true) h66))
def fuse_step_l9 (Q:VH) (K1:(Option Addr×Option Nat×Int×Int×Unit)→Heap→Prop) (K2:YH Y15) (y0:Option Addr) (y1:Option Nat) (y5:Int) (y6:Addr) (y9 t21 t22:Int) (t77_p:OA) (t77_n t77_c:Nat) (t78 t79:Int) (h16:Heap):Prop:=
 ifB (decide (t79<t78)) (
 idxI t77_p t79 t77_n fun a17=>
 ldAg A2 h16 (a17.add (t79.toNat*15)) fun x18=>
 newI h16 (.cells (mkS' A2 (zT A2)).toArray 40 (0,0)) fun b19 h20=>
 storeL (mkS' A2 x18) h20 ⟨b19,0,none⟩ 0 fun h21=>
 lookB .i64 (.int .i64 0) y1 (IntKind.wrap .i64 (t79+1)) h21 fun v23 b24=>
 ∃n25:Int,∃b26:Bool,(Value.tuple #[v23,.bool b24])=(.tuple #[(.int .i64 n25),(.bool b26)])∧
 ifB b26 (
 ldSlice h21 ⟨b19,1,none⟩ fun p27 l27 c27=>
 callBool P n_slices_Contains_int_int #[(.slice p27 l27 c27),(.int .i64 (IntKind.wrap .i64 (y5+1)))] h21 fun b29 h28=>
 ifB b29 (
 K2 (y0,y1,y5,y6,(IntKind.wrap .i64 (t79+1)),t21,t22,(t77_p,t77_n,t77_c),t78,(IntKind.wrap .i64 (t79+1)),()) h28) (
 K2 (y0,y1,y5,y6,y9,t21,t22,(t77_p,t77_n,t77_c),t78,(IntKind.wrap .i64 (t79+1)),()) h28)) (
 K2 (y0,y1,y5,y6,y9,t21,t22,(t77_p,t77_n,t77_c),t78,(IntKind.wrap .i64 (t79+1)),()) h21)) (
 nilI y0 fun a30=>
 ldSlice h16 (a30.add 3) fun p31 l31 c31=>
 idxI p31 (IntKind.wrap .i64 (y9-1)) l31 fun a32=>
 callBool P n_fuse_take #[(.pointer (some y6)),(.pointer (some (a32.add ((IntKind.wrap .i64 (y9-1)).toNat*15))))] h16 fun b34 h33=>
 ifB (!b34) (
 K1 (y0,y1,t21,(IntKind.wrap .i64 (t22+1)),()) h33) (
 nilI y0 fun a35=>
 ldSlice h33 (a35.add 3) fun p36 l36 c36=>
 LoopS (S:=(Option Addr×Option Nat×Int×Int×Int×Int×Unit)) (fun K3 s h=>fuse_step_l17 Q K1 K2 K3 s.1 s.2.1 s.2.2.1 s.2.2.2.1 s.2.2.2.2.1 s.2.2.2.2.2.1 h) (y0,y1,y5,y9,(l36:Int),(0:Int),()) h33))
def fuse_step_j7 (Q:VH) (K1:(Option Addr×Option Nat×Int×Int×Unit)→Heap→Prop) (y0:Option Addr) (y1:Option Nat) (y5:Int) (y6:Addr) (t21 t22:Int) (h13:Heap):Prop:=
 nilI y0 fun a14=>
 ldSlice h13 (a14.add 3) fun p15 l15 c15=>
 LoopS (S:=Y15) (fun K2 s h=>fuse_step_l9 Q K1 K2 s.1 s.2.1 s.2.2.1 s.2.2.2.1 s.2.2.2.2.1 s.2.2.2.2.2.1 s.2.2.2.2.2.2.1 s.2.2.2.2.2.2.2.1.1 s.2.2.2.2.2.2.2.1.2.1 s.2.2.2.2.2.2.2.1.2.2 s.2.2.2.2.2.2.2.2.1 s.2.2.2.2.2.2.2.2.2.1 h) (y0,y1,y5,y6,(0:Int),t21,t22,(p15,l15,c15),(l15:Int),(0:Int),()) h13
def fuse_step_l2 (Q:VH) (K1:(Option Addr×Option Nat×Int×Int×Unit)→Heap→Prop) (y0:Option Addr) (y1:Option Nat) (t21 t22:Int) (h3:Heap):Prop:=
 ifB (decide (t22<t21)) (
 nilI y0 fun a4=>
 ldSlice h3 (a4.add 3) fun p5 l5 c5=>
 idxI p5 t22 l5 fun a6=>
 lookB .i64 (.int .i64 0) y1 (IntKind.wrap .i64 (t22+1)) h3 fun v8 b9=>
 ∃n10:Int,∃b11:Bool,(Value.tuple #[v8,.bool b9])=(.tuple #[(.int .i64 n10),(.bool b11)])∧
 ∃J12:(Option Addr×Option Nat×Int×Addr×Int×Int×Unit)→Heap→Prop,(∀s h,J12 s h→fuse_step_j7 Q K1 s.1 s.2.1 s.2.2.1 s.2.2.2.1 s.2.2.2.2.1 s.2.2.2.2.2.1 h)∧
 ifB (!b11) (
 K1 (y0,y1,t21,(IntKind.wrap .i64 (t22+1)),()) h3) (
 ifB (n10 !=1) (
 K1 (y0,y1,t21,(IntKind.wrap .i64 (t22+1)),()) h3) (
 nilI y0 fun a67=>
 ldInt .i64 h3 (a67.add 4) fun n68=>
 ifB ((IntKind.wrap .i64 (t22+1))==n68) (
 K1 (y0,y1,t21,(IntKind.wrap .i64 (t22+1)),()) h3) (
 nilI (some (a6.add (t22.toNat*15))) fun a69=>
 ldInt .i64 h3 a69 fun n70=>
 ifB (n70 !=1) (
 nilI (some (a6.add (t22.toNat*15))) fun a71=>
 ldInt .i64 h3 a71 fun n72=>
 ifB (n72 !=2) (
 nilI (some (a6.add (t22.toNat*15))) fun a73=>
 ldInt .i64 h3 a73 fun n74=>
 ifB (n74 !=6) (
 K1 (y0,y1,t21,(IntKind.wrap .i64 (t22+1)),()) h3) (
 J12 (y0,y1,t22,Addr.add a6 (t22.toNat*15),t21,t22,()) h3)) (
 J12 (y0,y1,t22,Addr.add a6 (t22.toNat*15),t21,t22,()) h3)) (
 J12 (y0,y1,t22,Addr.add a6 (t22.toNat*15),t21,t22,()) h3))))) (
 Q (.bool false) h3)
def fuse_step (y0:Option Addr) (y1:Option Nat) (h:Heap) (Q:VH):Prop:=
 nilI y0 fun a1=>
 ldSlice h (a1.add 3) fun p2 l2 c2=>
 LoopS (S:=(Option Addr×Option Nat×Int×Int×Unit)) (fun K1 s h=>fuse_step_l2 Q K1 s.1 s.2.1 s.2.2.1 s.2.2.2.1 h) (y0,y1,(l2:Int),(0:Int),()) h
noncomputable def tab_fuse_step:Tab:=tb (lookT .done []) (lookT [] [(2,[(0,.sc (.ptr)),(1,.sc (.map)),(21,I6),(22,I6)]),(9,[(0,.sc (.ptr)),(1,.sc (.map)),(5,I6),(6,.sc (.adr)),(9,I6),(21,I6),(22,I6),(77,SL),(78,I6),(79,I6)]),(17,[(0,.sc (.ptr)),(1,.sc (.map)),(5,I6),(9,I6),(116,I6),(117,I6)]),(20,[(0,.sc (.ptr)),(1,.sc (.map)),(5,I6),(9,I6),(14,I6),(116,I6),(117,I6),(127,SL),(128,I6),(129,I6)])]) (lookT none [(7,some [(0,.sc (.ptr)),(1,.sc (.map)),(5,I6),(6,.sc (.adr)),(21,I6),(22,I6)])])
theorem call_fuse_step (y0:Option Addr) (y1:Option Nat) {h:Heap} {Q:VH} (H:fuse_step y0 y1 h Q):callP P n_fuse_step #[(.pointer y0),(.map y1)] h Q:=
 @callP_of P n_fuse_step Tryz.f16 tab_fuse_step [(.pointer y0),(.map y1)] h Q mixed Tryz.func16 Tryz.call16 (by kernel_rfl) (Eq.mpr (by kernel_rfl) H)
def fuse_Fuse_l20 (Q:VH) (K1:(Addr×Addr×Option Nat×Unit)→Heap→Prop) (K2:YH Y17) (K3:YH Y18) (K4:YH Y19) (y1 t2:Addr) (y4:Option Nat) (y5p:OA) (y5n y5c:Nat) (y11:Addr) (t52_p:OA) (t52_n t52_c:Nat) (t53 t54:Int) (t59_p:OA) (t59_n t59_c:Nat) (t60 t61:Int) (h49:Heap):Prop:=
 ifB (decide (t61<t60)) (
 idxI t59_p t61 t59_n fun a50=>
 ldInt .i64 h49 (a50.add (t61.toNat*1)) fun n51=>
 ldSlice h49 (y11.add 1) fun p52 l52 c52=>
 lookB .i64 (.int .i64 0) y4 n51 h49 fun v54 b55=>
 ∃n56:Int,v54=(.int .i64 n56)∧
 idxI p52 t61 l52 fun a57=>
 stI h49 (a57.add (t61.toNat*1)) (.int .i64 n56) fun h58=>
 K4 (y1,t2,y4,(y5p,y5n,y5c),y11,(t52_p,t52_n,t52_c),t53,t54,(t59_p,t59_n,t59_c),t60,(IntKind.wrap .i64 (t61+1)),()) h58) (
 K3 (y1,t2,y4,(y5p,y5n,y5c),(t52_p,t52_n,t52_c),t53,(IntKind.wrap .i64 (t54+1)),()) h49)
def fuse_Fuse_l17 (Q:VH) (K1:(Addr×Addr×Option Nat×Unit)→Heap→Prop) (K2:YH Y17) (K3:YH Y18) (y1 t2:Addr) (y4:Option Nat) (y5p:OA) (y5n y5c:Nat) (t52_p:OA) (t52_n t52_c:Nat) (t53 t54:Int) (h42:Heap):Prop:=
 ifB (decide (t54<t53)) (
 idxI t52_p t54 t52_n fun a43=>
 ldAg A2 h42 (a43.add (t54.toNat*15)) fun x44=>
 newI h42 (.cells (mkS' A2 (zT A2)).toArray 40 (0,0)) fun b45 h46=>
 storeL (mkS' A2 x44) h46 ⟨b45,0,none⟩ 0 fun h47=>
 ldSlice h47 ⟨b45,1,none⟩ fun p48 l48 c48=>
 LoopS (S:=Y19) (fun K4 s h=>fuse_Fuse_l20 Q K1 K2 K3 K4 s.1 s.2.1 s.2.2.1 s.2.2.2.1.1 s.2.2.2.1.2.1 s.2.2.2.1.2.2 s.2.2.2.2.1 s.2.2.2.2.2.1.1 s.2.2.2.2.2.1.2.1 s.2.2.2.2.2.1.2.2 s.2.2.2.2.2.2.1 s.2.2.2.2.2.2.2.1 s.2.2.2.2.2.2.2.2.1.1 s.2.2.2.2.2.2.2.2.1.2.1 s.2.2.2.2.2.2.2.2.1.2.2 s.2.2.2.2.2.2.2.2.2.1 s.2.2.2.2.2.2.2.2.2.2.1 h) (y1,t2,y4,(y5p,y5n,y5c),⟨b45,0,none⟩,(t52_p,t52_n,t52_c),t53,t54,(p48,l48,c48),(l48:Int),(0:Int),()) h47) (
 ldInt .i64 h42 (y1.add 4) fun n59=>
 lookB .i64 (.int .i64 0) y4 n59 h42 fun v61 b62=>
 ∃n63:Int,v61=(.int .i64 n63)∧
 stI h42 (y1.add 3) (.slice y5p y5n y5c) fun h64=>
 stI h64 (y1.add 4) (.int .i64 n63) fun h65=>
 ldAg A1 h65 y1 fun x66=>
 storeL (mkS' A1 x66) h65 t2 0 fun h67=>
 ldAg A1 h67 t2 fun x68=>
 Q (agS A1 x68) h67)
def fuse_Fuse_l9 (Q:VH) (K1:(Addr×Addr×Option Nat×Unit)→Heap→Prop) (K2:YH Y17) (y1 t2:Addr) (y3 y4:Option Nat) (y5p:OA) (y5n y5c:Nat) (t27_p:OA) (t27_n t27_c:Nat) (t28 t29:Int) (h25:Heap):Prop:=
 ifB (decide (t29<t28)) (
 idxI t27_p t29 t27_n fun a26=>
 ldAg A2 h25 (a26.add (t29.toNat*15)) fun x27=>
 newI h25 (.cells (mkS' A2 (zT A2)).toArray 40 (0,0)) fun b28 h29=>
 storeL (mkS' A2 x27) h29 ⟨b28,0,none⟩ 0 fun h30=>
 lookB .i64 (.int .i64 0) y3 (IntKind.wrap .i64 (t29+1)) h30 fun v32 b33=>
 ∃n34:Int,∃b35:Bool,(Value.tuple #[v32,.bool b33])=(.tuple #[(.int .i64 n34),(.bool b35)])∧
 ifB b35 (
 ldAg A2 h30 ⟨b28,0,none⟩ fun x36=>
 newI h30 (.cells (mkS' A2 x36).toArray 40 (0,0)) fun b37 h38=>
 appI 40 15 168 (agS A2 (zT A2)) y5p y5n y5c (some ⟨b37,0,none⟩) 1 h38 fun p39 l39 c39 h40=>
 updB .i64 y4 (IntKind.wrap .i64 (t29+1)) (.int .i64 (l39:Int)) h40 fun h41=>
 K2 (y1,t2,y3,y4,(p39,l39,c39),(t27_p,t27_n,t27_c),t28,(IntKind.wrap .i64 (t29+1)),()) h41) (
 K2 (y1,t2,y3,y4,(y5p,y5n,y5c),(t27_p,t27_n,t27_c),t28,(IntKind.wrap .i64 (t29+1)),()) h30)) (
 LoopS (S:=Y18) (fun K3 s h=>fuse_Fuse_l17 Q K1 K2 K3 s.1 s.2.1 s.2.2.1 s.2.2.2.1.1 s.2.2.2.1.2.1 s.2.2.2.1.2.2 s.2.2.2.2.1.1 s.2.2.2.2.1.2.1 s.2.2.2.2.1.2.2 s.2.2.2.2.2.1 s.2.2.2.2.2.2.1 h) (y1,t2,y4,(y5p,y5n,y5c),(y5p,y5n,y5c),(y5n:Int),(0:Int),()) h25)
def fuse_Fuse_l5 (Q:VH) (K1:(Addr×Addr×Option Nat×Unit)→Heap→Prop) (y1 t2:Addr) (y3:Option Nat) (h18:Heap):Prop:=
 callBool P n_fuse_step #[(.pointer (some y1)),(.map y3)] h18 fun b20 h19=>
 ifB b20 (
 K1 (y1,t2,y3,()) h19) (
 newI h19 (.map #[] 0) fun r22 h21=>
 updB .i64 (some r22) 0 (.int .i64 0) h21 fun h23=>
 ldSlice h23 (y1.add 3) fun p24 l24 c24=>
 LoopS (S:=Y17) (fun K2 s h=>fuse_Fuse_l9 Q K1 K2 s.1 s.2.1 s.2.2.1 s.2.2.2.1 s.2.2.2.2.1.1 s.2.2.2.2.1.2.1 s.2.2.2.2.1.2.2 s.2.2.2.2.2.1.1 s.2.2.2.2.2.1.2.1 s.2.2.2.2.2.1.2.2 s.2.2.2.2.2.2.1 s.2.2.2.2.2.2.2.1 h) (y1,t2,y3,(some r22),(none,0,0),(p24,l24,c24),(l24:Int),(0:Int),()) h23)
def fuse_Fuse (y0:TS A1) (h:Heap) (Q:VH):Prop:=
 newI h (.cells (mkS' A1 y0).toArray 26 (0,0)) fun b1 h2=>
 newI h2 (.cells (mkS' A1 (zT A1)).toArray 26 (0,0)) fun b3 h4=>
 ldAg A1 h4 ⟨b1,0,none⟩ fun x5=>
 callInt P .i64 n_graph_Check #[(agS A1 x5)] h4 fun n7 h6=>
 ifB (n7 !=0) (
 storeL [(.int .i64 0),(.int .i64 0),(.int .i64 0),(.slice none 0 0),(.int .i64 0)] h6 ⟨b3,0,none⟩ 0 fun h8=>
 ldAg A1 h8 ⟨b3,0,none⟩ fun x9=>
 Q (agS A1 x9) h8) (
 ldAg A1 h6 ⟨b1,0,none⟩ fun x10=>
 callP P n_fuse_own #[(agS A1 x10)] h6 fun v12 h11=>
 exS A1 fun x13=>v12=(agS A1 x13)∧
 storeL (mkS' A1 x13) h11 ⟨b1,0,none⟩ 0 fun h14=>
 ldAg A1 h14 ⟨b1,0,none⟩ fun x15=>
 callMap P n_fuse_live #[(agS A1 x15)] h14 fun m17 h16=>
 LoopS (S:=(Addr×Addr×Option Nat×Unit)) (fun K1 s h=>fuse_Fuse_l5 Q K1 s.1 s.2.1 s.2.2.1 h) (⟨b1,0,none⟩,⟨b3,0,none⟩,m17,()) h16)
noncomputable def tab_fuse_Fuse:Tab:=tb (lookT .done []) (lookT [] [(5,[(1,.sc (.adr)),(2,.sc (.adr)),(3,.sc (.map))]),(9,[(1,.sc (.adr)),(2,.sc (.adr)),(3,.sc (.map)),(4,.sc (.map)),(5,SL),(27,SL),(28,I6),(29,I6)]),(17,[(1,.sc (.adr)),(2,.sc (.adr)),(4,.sc (.map)),(5,SL),(52,SL),(53,I6),(54,I6)]),(20,[(1,.sc (.adr)),(2,.sc (.adr)),(4,.sc (.map)),(5,SL),(11,.sc (.adr)),(52,SL),(53,I6),(54,I6),(59,SL),(60,I6),(61,I6)])]) (lookT none [])
theorem call_fuse_Fuse (y0:TS A1) {h:Heap} {Q:VH} (H:fuse_Fuse y0 h Q):callP P n_fuse_Fuse #[(agS A1 y0)] h Q:=
 @callP_of P n_fuse_Fuse Tryz.f6 tab_fuse_Fuse [(agS A1 y0)] h Q mixed Tryz.func6 Tryz.call6 (by kernel_rfl) (Eq.mpr (by kernel_rfl) H)
def law21_awake (h:Heap) (Q:VH):Prop:=
 newI h (.cells #[(.int .i64 0)] 3 (0,0)) fun b1 h2=>
 newI h2 (.cells #[(.int .i64 1)] 3 (0,0)) fun b3 h4=>
 newI h4 (.cells #[(.int .i64 0)] 3 (0,0)) fun b5 h6=>
 newI h6 (.cells (mkS' A2 (zT A2)).toArray 40 (0,0)) fun b7 h8=>
 storeL [(.int .i64 6),(.slice (some ⟨b1,0,none⟩) 1 1),(.int .i64 1),(.int .i64 0),(.int .i64 0),(.int .i64 0),(.int .i64 0),(.int .i64 0),(.slice (some ⟨b3,0,none⟩) 1 1),(.slice (some ⟨b5,0,none⟩) 1 1),(.int .i64 0),(.int .i64 0),(.int .i64 0),(.int .i64 0),(.int .i64 0)] h8 ⟨b7,0,none⟩ 0 fun h9=>
 newI h9 (.cells #[(.int .i64 0)] 3 (0,0)) fun b10 h11=>
 ldAg A2 h11 ⟨b7,0,none⟩ fun x12=>
 newI h11 (.cells #[(.int .i64 2)] 3 (0,0)) fun b13 h14=>
 newI h14 (.cells #[(.int .i64 3)] 3 (0,0)) fun b15 h16=>
 newI h16 (.cells #[(.int .i64 11),(.slice (some ⟨b10,0,none⟩) 1 1),(.int .i64 0),(.int .i64 0),(.int .i64 0),(.int .i64 0),(.int .i64 0),(.int .i64 0),(.slice none 0 0),(.slice none 0 0),(.int .i64 0),(.int .i64 0),(.int .i64 0),(.int .i64 0),(.int .i64 0),(.int .i64 x12.1),(.slice x12.2.1.1 x12.2.1.2.1 x12.2.1.2.2),(.int .i64 x12.2.2.1),(.int .i64 x12.2.2.2.1),(.int .i64 x12.2.2.2.2.1),(.int .i64 x12.2.2.2.2.2.1),(.int .i64 x12.2.2.2.2.2.2.1),(.int .i64 x12.2.2.2.2.2.2.2.1),(.slice x12.2.2.2.2.2.2.2.2.1.1 x12.2.2.2.2.2.2.2.2.1.2.1 x12.2.2.2.2.2.2.2.2.1.2.2),(.slice x12.2.2.2.2.2.2.2.2.2.1.1 x12.2.2.2.2.2.2.2.2.2.1.2.1 x12.2.2.2.2.2.2.2.2.2.1.2.2),(.int .i64 x12.2.2.2.2.2.2.2.2.2.2.1),(.int .i64 x12.2.2.2.2.2.2.2.2.2.2.2.1),(.int .i64 x12.2.2.2.2.2.2.2.2.2.2.2.2.1),(.int .i64 x12.2.2.2.2.2.2.2.2.2.2.2.2.2.1),(.int .i64 x12.2.2.2.2.2.2.2.2.2.2.2.2.2.2.1),(.int .i64 10),(.slice (some ⟨b13,0,none⟩) 1 1),(.int .i64 0),(.int .i64 0),(.int .i64 0),(.int .i64 0),(.int .i64 0),(.int .i64 0),(.slice none 0 0),(.slice none 0 0),(.int .i64 3),(.int .i64 0),(.int .i64 0),(.int .i64 0),(.int .i64 0),(.int .i64 9),(.slice (some ⟨b15,0,none⟩) 1 1),(.int .i64 0),(.int .i64 0),(.int .i64 0),(.int .i64 0),(.int .i64 0),(.int .i64 0),(.slice none 0 0),(.slice none 0 0),(.int .i64 0),(.int .i64 0),(.int .i64 0),(.int .i64 5),(.int .i64 0)] 40 (0,0)) fun b17 h18=>
 newI h18 (.cells (mkS' A1 (zT A1)).toArray 26 (0,0)) fun b19 h20=>
 storeL [(.int .i64 1),(.int .i64 0),(.int .i64 9),(.slice (some ⟨b17,0,none⟩) 4 4),(.int .i64 4)] h20 ⟨b19,0,none⟩ 0 fun h21=>
 ldAg A1 h21 ⟨b19,0,none⟩ fun x22=>
 callP P n_fuse_Fuse #[(agS A1 x22)] h21 fun v24 h23=>
 exS A1 fun x25=>v24=(agS A1 x25)∧
 newI h23 (.cells (mkS' A1 (zT A1)).toArray 26 (0,0)) fun b26 h27=>
 storeL (mkS' A1 x25) h27 ⟨b26,0,none⟩ 0 fun h28=>
 ldSlice h28 ⟨b26,3,none⟩ fun p29 l29 c29=>
 ifB ((l29:Int)==1) (
 ldInt .i64 h28 ⟨b26,4,none⟩ fun n30=>
 ifB (n30==1) (
 ldSlice h28 ⟨b26,3,none⟩ fun p31 l31 c31=>
 idxI p31 0 l31 fun a32=>
 ldInt .i64 h28 (Addr.add (a32.add ((0:Int).toNat*15)) 14) fun n33=>
 ifB (n33==3) (
 ldSlice h28 ⟨b26,3,none⟩ fun p34 l34 c34=>
 idxI p34 0 l34 fun a35=>
 ldInt .i64 h28 (Addr.add (a35.add ((0:Int).toNat*15)) 10) fun n36=>
 ifB (n36==3) (
 ldSlice h28 ⟨b26,3,none⟩ fun p37 l37 c37=>
 idxI p37 0 l37 fun a38=>
 ldInt .i64 h28 (Addr.add (a38.add ((0:Int).toNat*15)) 13) fun n39=>
 Q (.bool (n39==5)) h28) (
 Q (.bool false) h28)) (
 Q (.bool false) h28)) (
 Q (.bool false) h28)) (
 Q (.bool false) h28)
noncomputable def tab_law21_awake:Tab:=tb (lookT .done []) (lookT [] []) (lookT none [])
theorem call_law21_awake {h:Heap} {Q:VH} (H:law21_awake h Q):callP P n_law21_awake #[] h Q:=
 @callP_of P n_law21_awake Tryz.f4 tab_law21_awake [] h Q mixed Tryz.func4 Tryz.call4 (by kernel_rfl) (Eq.mpr (by kernel_rfl) H)
def ref14_Row_Next (y0:Option Addr) (y1:Int) (h:Heap) (Q:VH):Prop:=
 nilI y0 fun a1=>
 nilI y0 fun a2=>
 ldInt .i64 h (a1.add 1) fun n3=>
 ldSlice h a2 fun p4 l4 c4=>
 ifB (decide (n3≥(l4:Int))) (
 Q (.int .i64 0) h) (
 nilI y0 fun a5=>
 ldInt .i64 h (a5.add 1) fun n6=>
 nilI y0 fun a7=>
 stI h (a7.add 1) (.int .i64 (IntKind.wrap .i64 (n6+1))) fun h8=>
 nilI y0 fun a9=>
 nilI y0 fun a10=>
 ldSlice h8 a9 fun p11 l11 c11=>
 ldInt .i64 h8 (a10.add 1) fun n12=>
 idxI p11 (IntKind.wrap .i64 (n12-1)) l11 fun a13=>
 ldInt .i64 h8 (a13.add ((IntKind.wrap .i64 (n12-1)).toNat*1)) fun n14=>
 neI y1 fun _=>
 neI y1 fun _=>
 Q (.int .i64 (Int.tmod (IntKind.wrap .i64 ((Int.tmod n14 y1)+y1)) y1)) h8)
noncomputable def tab_ref14_Row_Next:Tab:=tb (lookT .done [(1,(ones [0,1,2,4,5,6,3,7,8,9] .done)),(4,(ones [0,1,2,4,5,6,11,13,15,3,7,8,9,10,12,14,16,17] .done))]) (lookT [] []) (lookT none [])
theorem call_ref14_Row_Next (y0:Option Addr) (y1:Int) {h:Heap} {Q:VH} (H:ref14_Row_Next y0 y1 h Q):callP P n_ref14_Row_Next #[(.pointer y0),(.int .i64 y1)] h Q:=
 @callP_of P n_ref14_Row_Next Tryz.f45 tab_ref14_Row_Next [(.pointer y0),(.int .i64 y1)] h Q mixed Tryz.func45 Tryz.call45 (by kernel_rfl) (Eq.mpr (by kernel_rfl) H)
def ref14_Windows (y0:Int) (h:Heap) (Q:VH):Prop:=
 ifB (y0==1) (
 Q (.bool true) h) (
 ifB (y0==2) (
 Q (.bool true) h) (
 ifB (y0==3) (
 Q (.bool true) h) (
 ifB (y0==4) (
 Q (.bool true) h) (
 Q (.bool (y0==12)) h))))
noncomputable def tab_ref14_Windows:Tab:=tb (lookT .done []) (lookT [] []) (lookT none [])
theorem call_ref14_Windows (y0:Int) {h:Heap} {Q:VH} (H:ref14_Windows y0 h Q):callP P n_ref14_Windows #[(.int .i64 y0)] h Q:=
 @callP_of P n_ref14_Windows Tryz.f41 tab_ref14_Windows [(.int .i64 y0)] h Q mixed Tryz.func41 Tryz.call41 (by kernel_rfl) (Eq.mpr (by kernel_rfl) H)
def ref14_Span (y0:TS A2) (h:Heap) (Q:VH):Prop:=
 newI h (.cells (mkS' A2 y0).toArray 40 (0,0)) fun b1 h2=>
 ldInt .i64 h2 ⟨b1,0,none⟩ fun n3=>
 ifB (n3==12) (
 ldInt .i64 h2 ⟨b1,3,none⟩ fun n4=>
 Q (.int .i64 n4) h2) (
 ldInt .i64 h2 ⟨b1,0,none⟩ fun n5=>
 callBool P n_ref14_Windows #[(.int .i64 n5)] h2 fun b7 h6=>
 ifB (!b7) (
 Q (.int .i64 1) h6) (
 ldInt .i64 h6 ⟨b1,3,none⟩ fun n8=>
 ldInt .i64 h6 ⟨b1,5,none⟩ fun n9=>
 Q (.int .i64 (IntKind.wrap .i64 ((IntKind.wrap .i64 ((IntKind.wrap .i64 (n8-1))*n9))+1))) h6))
noncomputable def tab_ref14_Span:Tab:=tb (lookT .done []) (lookT [] []) (lookT none [])
theorem call_ref14_Span (y0:TS A2) {h:Heap} {Q:VH} (H:ref14_Span y0 h Q):callP P n_ref14_Span #[(agS A2 y0)] h Q:=
 @callP_of P n_ref14_Span Tryz.f60 tab_ref14_Span [(agS A2 y0)] h Q mixed Tryz.func60 Tryz.call60 (by kernel_rfl) (Eq.mpr (by kernel_rfl) H)
def ref14_Row_window (y0:Option Addr) (y1:TS A2) (h:Heap) (Q:VH):Prop:=
 newI h (.cells (mkS' A2 y1).toArray 40 (0,0)) fun b1 h2=>
 newI h2 (.cells (mkS' A2 (zT A2)).toArray 40 (0,0)) fun b3 h4=>
 callInt P .i64 n_ref14_Row_Next #[(.pointer y0),(.int .i64 4)] h4 fun n6 h5=>
 stI h5 ⟨b1,3,none⟩ (.int .i64 (IntKind.wrap .i64 ((1:Int)+n6))) fun h7=>
 callInt P .i64 n_ref14_Row_Next #[(.pointer y0),(.int .i64 3)] h7 fun n9 h8=>
 stI h8 ⟨b1,4,none⟩ (.int .i64 (IntKind.wrap .i64 ((1:Int)+n9))) fun h10=>
 callInt P .i64 n_ref14_Row_Next #[(.pointer y0),(.int .i64 3)] h10 fun n12 h11=>
 stI h11 ⟨b1,5,none⟩ (.int .i64 (IntKind.wrap .i64 ((1:Int)+n12))) fun h13=>
 ldAg A2 h13 ⟨b1,0,none⟩ fun x14=>
 callInt P .i64 n_ref14_Span #[(agS A2 x14)] h13 fun n16 h15=>
 callInt P .i64 n_ref14_Row_Next #[(.pointer y0),(.int .i64 n16)] h15 fun n18 h17=>
 stI h17 ⟨b1,6,none⟩ (.int .i64 n18) fun h19=>
 ldAg A2 h19 ⟨b1,0,none⟩ fun x20=>
 callInt P .i64 n_ref14_Span #[(agS A2 x20)] h19 fun n22 h21=>
 callInt P .i64 n_ref14_Row_Next #[(.pointer y0),(.int .i64 n22)] h21 fun n24 h23=>
 stI h23 ⟨b1,7,none⟩ (.int .i64 n24) fun h25=>
 ldAg A2 h25 ⟨b1,0,none⟩ fun x26=>
 storeL (mkS' A2 x26) h25 ⟨b3,0,none⟩ 0 fun h27=>
 ldAg A2 h27 ⟨b3,0,none⟩ fun x28=>
 Q (agS A2 x28) h27
noncomputable def tab_ref14_Row_window:Tab:=tb (lookT .done []) (lookT [] []) (lookT none [])
theorem call_ref14_Row_window (y0:Option Addr) (y1:TS A2) {h:Heap} {Q:VH} (H:ref14_Row_window y0 y1 h Q):callP P n_ref14_Row_window #[(.pointer y0),(agS A2 y1)] h Q:=
 @callP_of P n_ref14_Row_window Tryz.f68 tab_ref14_Row_window [(.pointer y0),(agS A2 y1)] h Q mixed Tryz.func68 Tryz.call68 (by kernel_rfl) (Eq.mpr (by kernel_rfl) H)
def ref14_Row_row_l3 (Q:VH) (K1:YH Y20) (y0:Option Addr) (y1 y2 y3:Int) (y9p:OA) (y9n y9c:Nat) (y10:Int) (h1:Heap):Prop:=
 ifB (decide (y10<y1)) (
 callInt P .i64 n_ref14_Row_Next #[(.pointer y0),(.int .i64 y3)] h1 fun n3 h2=>
 newI h2 (.cells #[(.int .i64 (IntKind.wrap .i64 (y2+n3)))] 3 (0,0)) fun b4 h5=>
 appI 3 1 8 (.int .i64 0) y9p y9n y9c (some ⟨b4,0,none⟩) 1 h5 fun p6 l6 c6 h7=>
 K1 (y0,y1,y2,y3,(p6,l6,c6),(IntKind.wrap .i64 (y10+1)),()) h7) (
 Q (.slice y9p y9n y9c) h1)
def ref14_Row_row (y0:Option Addr) (y1 y2 y3:Int) (h:Heap) (Q:VH):Prop:=
 LoopS (S:=Y20) (fun K1 s h=>ref14_Row_row_l3 Q K1 s.1 s.2.1 s.2.2.1 s.2.2.2.1 s.2.2.2.2.1.1 s.2.2.2.2.1.2.1 s.2.2.2.2.1.2.2 s.2.2.2.2.2.1 h) (y0,y1,y2,y3,(none,0,0),(0:Int),()) h
noncomputable def tab_ref14_Row_row:Tab:=tb (lookT .done []) (lookT [] [(3,[(0,.sc (.ptr)),(1,I6),(2,I6),(3,I6),(9,SL),(10,I6)])]) (lookT none [])
theorem call_ref14_Row_row (y0:Option Addr) (y1 y2 y3:Int) {h:Heap} {Q:VH} (H:ref14_Row_row y0 y1 y2 y3 h Q):callP P n_ref14_Row_row #[(.pointer y0),(.int .i64 y1),(.int .i64 y2),(.int .i64 y3)] h Q:=
 @callP_of P n_ref14_Row_row Tryz.f69 tab_ref14_Row_row [(.pointer y0),(.int .i64 y1),(.int .i64 y2),(.int .i64 y3)] h Q mixed Tryz.func69 Tryz.call69 (by kernel_rfl) (Eq.mpr (by kernel_rfl) H)
def ref14_Made_j22 (Q:VH) (y0:Option Addr) (t8 y9:Addr) (y10:Int) (y14:Addr) (y15:Int) (h16:Heap):Prop:=
 arrI y15 12 fun _=>
 ldInt .i64 h16 (y14.add (y15.toNat*1)) fun n17=>
 stI h16 y9 (.int .i64 n17) fun h18=>
 ldInt .i64 h18 y9 fun n19=>
 ifB (n19==1) (
 ldAg A2 h18 y9 fun x20=>
 callP P n_ref14_Row_window #[(.pointer y0),(agS A2 x20)] h18 fun v22 h21=>
 exS A2 fun x23=>v22=(agS A2 x23)∧
 storeL (mkS' A2 x23) h21 y9 0 fun h24=>
 callInt P .i64 n_ref14_Row_Next #[(.pointer y0),(.int .i64 3)] h24 fun n26 h25=>
 stI h25 (y9.add 2) (.int .i64 (IntKind.wrap .i64 ((1:Int)+n26))) fun h27=>
 ldInt .i64 h27 (y9.add 2) fun n28=>
 ldInt .i64 h27 (y9.add 3) fun n29=>
 callSlice P n_ref14_Row_row #[(.pointer y0),(.int .i64 (IntKind.wrap .i64 ((IntKind.wrap .i64 (n28*n29))*y10))),(.int .i64 (-9:Int)),(.int .i64 19)] h27 fun p31 l31 c31 h30=>
 stI h30 (y9.add 8) (.slice p31 l31 c31) fun h32=>
 ldInt .i64 h32 (y9.add 2) fun n33=>
 callSlice P n_ref14_Row_row #[(.pointer y0),(.int .i64 n33),(.int .i64 (-50:Int)),(.int .i64 101)] h32 fun p35 l35 c35 h34=>
 stI h34 (y9.add 9) (.slice p35 l35 c35) fun h36=>
 ldAg A2 h36 y9 fun x37=>
 storeL (mkS' A2 x37) h36 t8 0 fun h38=>
 ldAg A2 h38 t8 fun x39=>
 Q (agS A2 x39) h38) (
 ifB (n19==2) (
 ldAg A2 h18 y9 fun x40=>
 callP P n_ref14_Row_window #[(.pointer y0),(agS A2 x40)] h18 fun v42 h41=>
 exS A2 fun x43=>v42=(agS A2 x43)∧
 storeL (mkS' A2 x43) h41 y9 0 fun h44=>
 ldInt .i64 h44 (y9.add 3) fun n45=>
 callSlice P n_ref14_Row_row #[(.pointer y0),(.int .i64 (IntKind.wrap .i64 (n45*y10))),(.int .i64 (-9:Int)),(.int .i64 19)] h44 fun p47 l47 c47 h46=>
 stI h46 (y9.add 8) (.slice p47 l47 c47) fun h48=>
 callSlice P n_ref14_Row_row #[(.pointer y0),(.int .i64 y10),(.int .i64 (-50:Int)),(.int .i64 101)] h48 fun p50 l50 c50 h49=>
 stI h49 (y9.add 9) (.slice p50 l50 c50) fun h51=>
 ldAg A2 h51 y9 fun x52=>
 storeL (mkS' A2 x52) h51 t8 0 fun h53=>
 ldAg A2 h53 t8 fun x54=>
 Q (agS A2 x54) h53) (
 ifB (n19==6) (
 callInt P .i64 n_ref14_Row_Next #[(.pointer y0),(.int .i64 3)] h18 fun n56 h55=>
 stI h55 (y9.add 2) (.int .i64 (IntKind.wrap .i64 ((1:Int)+n56))) fun h57=>
 ldInt .i64 h57 (y9.add 2) fun n58=>
 callSlice P n_ref14_Row_row #[(.pointer y0),(.int .i64 (IntKind.wrap .i64 (n58*y10))),(.int .i64 (-12:Int)),(.int .i64 25)] h57 fun p60 l60 c60 h59=>
 stI h59 (y9.add 8) (.slice p60 l60 c60) fun h61=>
 ldInt .i64 h61 (y9.add 2) fun n62=>
 callSlice P n_ref14_Row_row #[(.pointer y0),(.int .i64 n62),(.int .i64 (-5000:Int)),(.int .i64 10001)] h61 fun p64 l64 c64 h63=>
 stI h63 (y9.add 9) (.slice p64 l64 c64) fun h65=>
 ldAg A2 h65 y9 fun x66=>
 storeL (mkS' A2 x66) h65 t8 0 fun h67=>
 ldAg A2 h67 t8 fun x68=>
 Q (agS A2 x68) h67) (
 ifB (n19==3) (
 ldAg A2 h18 y9 fun x69=>
 callP P n_ref14_Row_window #[(.pointer y0),(agS A2 x69)] h18 fun v71 h70=>
 exS A2 fun x72=>v71=(agS A2 x72)∧
 storeL (mkS' A2 x72) h70 y9 0 fun h73=>
 ldAg A2 h73 y9 fun x74=>
 storeL (mkS' A2 x74) h73 t8 0 fun h75=>
 ldAg A2 h75 t8 fun x76=>
 Q (agS A2 x76) h75) (
 ifB (n19==4) (
 ldAg A2 h18 y9 fun x77=>
 callP P n_ref14_Row_window #[(.pointer y0),(agS A2 x77)] h18 fun v79 h78=>
 exS A2 fun x80=>v79=(agS A2 x80)∧
 storeL (mkS' A2 x80) h78 y9 0 fun h81=>
 ldAg A2 h81 y9 fun x82=>
 storeL (mkS' A2 x82) h81 t8 0 fun h83=>
 ldAg A2 h83 t8 fun x84=>
 Q (agS A2 x84) h83) (
 ifB (n19==12) (
 callInt P .i64 n_ref14_Row_Next #[(.pointer y0),(.int .i64 5)] h18 fun n86 h85=>
 stI h85 (y9.add 3) (.int .i64 (IntKind.wrap .i64 ((1:Int)+n86))) fun h87=>
 ldAg A2 h87 y9 fun x88=>
 storeL (mkS' A2 x88) h87 t8 0 fun h89=>
 ldAg A2 h89 t8 fun x90=>
 Q (agS A2 x90) h89) (
 ifB (n19==9) (
 callInt P .i64 n_ref14_Row_Next #[(.pointer y0),(.int .i64 200)] h18 fun n92 h91=>
 stI h91 (y9.add 12) (.int .i64 (IntKind.wrap .i64 (n92-150))) fun h93=>
 ldInt .i64 h93 (y9.add 12) fun n94=>
 callInt P .i64 n_ref14_Row_Next #[(.pointer y0),(.int .i64 300)] h93 fun n96 h95=>
 cellH h95 (y9.add 12)=some (.int .i64 n94)∧
 stI h95 (y9.add 13) (.int .i64 (IntKind.wrap .i64 (n94+n96))) fun h97=>
 ldAg A2 h97 y9 fun x98=>
 storeL (mkS' A2 x98) h97 t8 0 fun h99=>
 ldAg A2 h99 t8 fun x100=>
 Q (agS A2 x100) h99) (
 ifB (n19==10) (
 callInt P .i64 n_ref14_Row_Next #[(.pointer y0),(.int .i64 32768)] h18 fun n102 h101=>
 stI h101 (y9.add 10) (.int .i64 n102) fun h103=>
 callInt P .i64 n_ref14_Row_Next #[(.pointer y0),(.int .i64 20)] h103 fun n105 h104=>
 stI h104 (y9.add 11) (.int .i64 n105) fun h106=>
 ldAg A2 h106 y9 fun x107=>
 storeL (mkS' A2 x107) h106 t8 0 fun h108=>
 ldAg A2 h108 t8 fun x109=>
 Q (agS A2 x109) h108) (
 ldAg A2 h18 y9 fun x110=>
 storeL (mkS' A2 x110) h18 t8 0 fun h111=>
 ldAg A2 h111 t8 fun x112=>
 Q (agS A2 x112) h111))))))))
def ref14_Made_j18 (Q:VH) (y0:Option Addr) (y3:Bool) (t8 y9:Addr) (y10:Int) (h9:Heap):Prop:=
 newI h9 (.cells #[(.int .i64 0),(.int .i64 0),(.int .i64 0),(.int .i64 0),(.int .i64 0),(.int .i64 0),(.int .i64 0),(.int .i64 0),(.int .i64 0),(.int .i64 0),(.int .i64 0),(.int .i64 0)] 94 (0,0)) fun b10 h11=>
 storeL [(.int .i64 1),(.int .i64 2),(.int .i64 3),(.int .i64 4),(.int .i64 12),(.int .i64 1),(.int .i64 5),(.int .i64 6),(.int .i64 9),(.int .i64 10),(.int .i64 11),(.int .i64 6)] h11 ⟨b10,0,none⟩ 0 fun h12=>
 callInt P .i64 n_ref14_Row_Next #[(.pointer y0),(.int .i64 12)] h12 fun n14 h13=>
 ∃J15:(Option Addr×Addr×Addr×Int×Addr×Int×Unit)→Heap→Prop,(∀s h,J15 s h→ref14_Made_j22 Q s.1 s.2.1 s.2.2.1 s.2.2.2.1 s.2.2.2.2.1 s.2.2.2.2.2.1 h)∧
 ifB y3 (
 callInt P .i64 n_ref14_Row_Next #[(.pointer y0),(.int .i64 5)] h13 fun n114 h113=>
 J15 (y0,t8,y9,y10,⟨b10,0,none⟩,(IntKind.wrap .i64 ((7:Int)+n114)),()) h113) (
 J15 (y0,t8,y9,y10,⟨b10,0,none⟩,n14,()) h13)
def ref14_Made_l8 (Q:VH) (J8:(Option Addr×Bool×Addr×Addr×Int×Unit)→Heap→Prop) (K1:YH Y21) (y0:Option Addr) (y1p:OA) (y1n y1c:Nat) (y2p:OA) (y2n y2c:Nat) (y3:Bool) (t8 y9:Addr) (y10 y11:Int) (y12:Bool) (y13:Int) (h116:Heap):Prop:=
 ifB (decide (y13<(y2n:Int))) (
 idxI y2p y13 y2n fun a117=>
 ldInt .i64 h116 (a117.add (y13.toNat*1)) fun n118=>
 ifB y12 (
 idxI y2p y13 y2n fun a119=>
 ldInt .i64 h116 (a119.add (y13.toNat*1)) fun n120=>
 K1 (y0,(y1p,y1n,y1c),(y2p,y2n,y2c),y3,t8,y9,y10,(IntKind.wrap .i64 (y11+n118)),(n120==y10),(IntKind.wrap .i64 (y13+1)),()) h116) (
 K1 (y0,(y1p,y1n,y1c),(y2p,y2n,y2c),y3,t8,y9,y10,(IntKind.wrap .i64 (y11+n118)),false,(IntKind.wrap .i64 (y13+1)),()) h116)) (
 ifB y12 (
 ifB (decide (y11>16)) (
 stI h116 y9 (.int .i64 7) fun h121=>
 ldAg A2 h121 y9 fun x122=>
 storeL (mkS' A2 x122) h121 t8 0 fun h123=>
 ldAg A2 h123 t8 fun x124=>
 Q (agS A2 x124) h123) (
 callInt P .i64 n_ref14_Row_Next #[(.pointer y0),(.int .i64 2)] h116 fun n126 h125=>
 ifB (n126==0) (
 stI h125 y9 (.int .i64 7) fun h127=>
 ldAg A2 h127 y9 fun x128=>
 storeL (mkS' A2 x128) h127 t8 0 fun h129=>
 ldAg A2 h129 t8 fun x130=>
 Q (agS A2 x130) h129) (
 ifB (decide (y11≤16)) (
 ldAg A2 h125 y9 fun x131=>
 storeL (mkS' A2 x131) h125 t8 0 fun h132=>
 ldAg A2 h132 t8 fun x133=>
 Q (agS A2 x133) h132) (
 bndI 1 y1c fun l134=>
 stI h125 (y9.add 1) (.slice (if y1c=0 then y1p else Option.map (fun a=>a.add (0*1)) y1p) (l134-0) (y1c-0)) fun h135=>
 J8 (y0,y3,t8,y9,y10,()) h135)))) (
 ifB (decide (y11≤16)) (
 ldAg A2 h116 y9 fun x136=>
 storeL (mkS' A2 x136) h116 t8 0 fun h137=>
 ldAg A2 h137 t8 fun x138=>
 Q (agS A2 x138) h137) (
 bndI 1 y1c fun l139=>
 stI h116 (y9.add 1) (.slice (if y1c=0 then y1p else Option.map (fun a=>a.add (0*1)) y1p) (l139-0) (y1c-0)) fun h140=>
 J8 (y0,y3,t8,y9,y10,()) h140)))
def ref14_Made (y0:Option Addr) (y1p:OA) (y1n y1c:Nat) (y2p:OA) (y2n y2c:Nat) (y3:Bool) (h:Heap) (Q:VH):Prop:=
 newI h (.cells (mkS' A2 (zT A2)).toArray 40 (0,0)) fun b1 h2=>
 newI h2 (.cells (mkS' A2 (zT A2)).toArray 40 (0,0)) fun b3 h4=>
 storeL [(.int .i64 0),(.slice y1p y1n y1c),(.int .i64 0),(.int .i64 0),(.int .i64 0),(.int .i64 0),(.int .i64 0),(.int .i64 0),(.slice none 0 0),(.slice none 0 0),(.int .i64 0),(.int .i64 0),(.int .i64 0),(.int .i64 0),(.int .i64 0)] h4 ⟨b3,0,none⟩ 0 fun h5=>
 idxI y2p 0 y2n fun a6=>
 ldInt .i64 h5 (a6.add ((0:Int).toNat*1)) fun n7=>
 ∃J8:(Option Addr×Bool×Addr×Addr×Int×Unit)→Heap→Prop,(∀s h,J8 s h→ref14_Made_j18 Q s.1 s.2.1 s.2.2.1 s.2.2.2.1 s.2.2.2.2.1 h)∧
 ifB (decide ((y1n:Int)>1)) (
 stI h5 ⟨b3,0,none⟩ (.int .i64 8) fun h115=>
 LoopS (S:=Y21) (fun K1 s h=>ref14_Made_l8 Q J8 K1 s.1 s.2.1.1 s.2.1.2.1 s.2.1.2.2 s.2.2.1.1 s.2.2.1.2.1 s.2.2.1.2.2 s.2.2.2.1 s.2.2.2.2.1 s.2.2.2.2.2.1 s.2.2.2.2.2.2.1 s.2.2.2.2.2.2.2.1 s.2.2.2.2.2.2.2.2.1 s.2.2.2.2.2.2.2.2.2.1 h) (y0,(y1p,y1n,y1c),(y2p,y2n,y2c),y3,⟨b1,0,none⟩,⟨b3,0,none⟩,n7,(0:Int),true,(0:Int),()) h115) (
 J8 (y0,y3,⟨b1,0,none⟩,⟨b3,0,none⟩,n7,()) h5)
noncomputable def tab_ref14_Made:Tab:=tb (lookT .done [(44,(ones [0,2] (.early 1 (.alt 3 (ones [4,5] (.alt 6 .done .stop)) .stop))))]) (lookT [] [(8,[(0,.sc (.ptr)),(1,SL),(2,SL),(3,BO),(8,.sc (.adr)),(9,.sc (.adr)),(10,I6),(11,I6),(12,BO),(13,I6)])]) (lookT none [(18,some [(0,.sc (.ptr)),(3,BO),(8,.sc (.adr)),(9,.sc (.adr)),(10,I6)]),(22,some [(0,.sc (.ptr)),(8,.sc (.adr)),(9,.sc (.adr)),(10,I6),(14,.sc (.adr)),(15,I6)])])
theorem call_ref14_Made (y0:Option Addr) (y1p:OA) (y1n y1c:Nat) (y2p:OA) (y2n y2c:Nat) (y3:Bool) {h:Heap} {Q:VH} (H:ref14_Made y0 y1p y1n y1c y2p y2n y2c y3 h Q):callP P n_ref14_Made #[(.pointer y0),(.slice y1p y1n y1c),(.slice y2p y2n y2c),(.bool y3)] h Q:=
 @callP_of P n_ref14_Made Tryz.f46 tab_ref14_Made [(.pointer y0),(.slice y1p y1n y1c),(.slice y2p y2n y2c),(.bool y3)] h Q mixed Tryz.func46 Tryz.call46 (by kernel_rfl) (Eq.mpr (by kernel_rfl) H)
end Go.Proofs.YtbgplllcjhgdhaaGreatDoor.G
