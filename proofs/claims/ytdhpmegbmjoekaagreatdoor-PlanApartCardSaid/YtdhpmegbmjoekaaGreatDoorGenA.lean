/- Printed by shp.py out of the program's own print: for each Go function a typed formula over heaps, and the proof that a call does just that. -/
import Derived.Test.YtdhpmegbmjoekaaGreatDoorProg
import Derived.Test.YtdhpmegbmjoekaaGreatDoorShW
set_option linter.unusedVariables false
set_option maxRecDepth 100000
namespace Go.Proofs.YtdhpmegbmjoekaaGreatDoor.G
open Go Go.Sh
noncomputable abbrev P:Program:=Tryz.prog
abbrev OA:=Option Addr
abbrev S3:=OA×Nat×Nat
abbrev VH:=Value→Heap→Prop
abbrev YH (α:Type):=α→Heap→Prop
abbrev tb (a:Nat→Sch) (b:Nat→Live) (c:Nat→Option Live):Tab:={sch:=a,lp:=b,jn:=c}
abbrev I6:Ls:= .sc (.int .i64)
abbrev SL:Ls:= .sc .slice
abbrev BO:Ls:= .sc .bool
theorem mixed:P.follows .mixedOrders=true:=by kernel_rfl
abbrev A1:List Sc:=[.int .i64,.slice,.int .i64,.int .i64,.int .i64,.int .i64,.int .i64,.int .i64,.slice,.slice,.int .i64,.int .i64,.int .i64,.int .i64,.int .i64]
abbrev A2:List Sc:=[.int .i64,.int .i64,.int .i64,.slice,.int .i64]
abbrev A3:List Sc:=[.int .i64,.bool,.int .i64,.bool,.int .i64,.bool,.int .i64,.bool,.int .i64,.bool,.int .i64,.bool]
abbrev A4:List Sc:=[.int .i64,.int .i64,.int .i64,.slice,.int .i64,.slice,.slice,.int .i64,.int .i64,.int .u32]
abbrev Y1:=(OA×S3×Int×Int×Unit)
abbrev Y2:=(Int×S3×Int×Int×S3×Int×Int×Unit)
abbrev Y3:=(S3×Addr×S3×Int×Int×Unit)
abbrev Y4:=(S3×Addr×S3×Int×Int×S3×Int×Int×Unit)
abbrev Y5:=(S3×S3×S3×Int×Int×Unit)
abbrev Y6:=(S3×Addr×Int×S3×Int×Int×Unit)
abbrev Y7:=(Addr×Addr×Addr×S3×Int×Int×Unit)
abbrev Y8:=(Addr×Addr×Int×Int×S3×Int×Int×Unit)
abbrev Y9:=(Addr×Addr×((Unit)×(Addr×Addr×Addr×Addr×Unit))×Addr×Int×Int×Unit)
abbrev Y10:=(Addr×((Unit)×(Addr×Addr×Unit))×S3×Int×Int×Unit)
abbrev Y11:=(Int×Addr×Addr×Int×Int×S3×S3×Addr×S3×Int×Int×Unit)
abbrev Y12:=(Int×Addr×Addr×Int×Int×S3×S3×Addr×Unit)
abbrev Y13:=(Addr×S3×S3×S3×Int×Int×Unit)
abbrev Y14:=(Addr×S3×S3×Int×Addr×S3×S3×Int×Int×S3×Int×Int×Unit)
abbrev Y15:=(S3×Int×Int×Addr×Int×Int×Unit)
abbrev Y16:=(S3×Int×Int×Int×Int×Int×Unit)
abbrev Y17:=(S3×Int×Int×Int×Bool×Bool×Unit)
abbrev Y18:=(S3×Int×Int×Int×Bool×Bool×Int×Unit)
abbrev Y19:=(S3×Int×Int×Int×Bool×Bool×Int×Int×Int×Unit)
abbrev Y20:=(S3×Int×Int×Int×Bool×Bool×Int×Int×Unit)
abbrev Y21:=(S3×Int×S3×Int×Unit)
abbrev Y22:=(Addr×Addr×S3×Int×Int×Unit)
abbrev Y23:=(OA×Option Nat×Int×Addr×Int×Int×Int×S3×Int×Int×Unit)
abbrev Y24:=(OA×Option Nat×Int×Int×Int×Int×Int×S3×Int×Int×Unit)
abbrev Y25:=(Addr×Addr×Option Nat×Option Nat×S3×S3×Int×Int×Unit)
abbrev Y26:=(Addr×Addr×Option Nat×S3×S3×Int×Int×Unit)
abbrev Y27:=(Addr×Addr×Option Nat×S3×Addr×S3×Int×Int×S3×Int×Int×Unit)
abbrev Y28:=(Value×Addr×S3×Int×Int×Unit)
abbrev Y29:=(Addr×Addr×Addr×Int×Addr×Int×S3×Int×Int×Unit)
abbrev Y30:=(S3×S3×Int×Int×Unit)
abbrev Y31:=(S3×Int×S3×Int×Int×Unit)
abbrev Y32:=(OA×Int×Int×S3×Int×Int×Unit)
abbrev Y33:=(Addr×((Unit)×(Addr×Unit))×S3×Int×Int×Unit)
abbrev Y34:=(Addr×((Unit)×(Addr×Unit))×ByteArray×S3×Int×Int×Int×Int×Unit)
abbrev Y35:=(Addr×Addr×S3×S3×S3×S3×Int×Int×Unit)
abbrev Y36:=(Addr×Addr×S3×S3×Int×Int×Int×Unit)
abbrev Y37:=(OA×Int×Int×Int×S3×Int×Unit)
abbrev Y38:=(OA×S3×S3×Bool×Addr×Addr×Int×Int×Bool×Int×Unit)
abbrev Y39:=(Addr×Addr×Int×Addr×Int×Addr×S3×Int×Unit)
abbrev Y40:=(Addr×Addr×Addr×Bool×Int×S3×S3×Int×Unit)
abbrev Y41:=(Addr×Addr×Addr×Bool×Int×S3×S3×Int×Int×Unit)
abbrev Y42:=(Addr×Addr×Addr×Bool×Int×S3×S3×Int×Int×S3×S3×Unit)
abbrev Y43:=(S3×((Unit)×(Addr×Unit))×Int×Int×Unit)
abbrev n_internal_stringslite_HasPrefix:FuncId:=177
abbrev n_internal_stringslite_CutPrefix:FuncId:=115
abbrev n_strings_CutPrefix:FuncId:=66
abbrev n_tape_Read:FuncId:=67
abbrev n_tape_place_told:FuncId:=119
abbrev n_tape_Reader_Left:FuncId:=73
abbrev n_tape_place_moved:FuncId:=178
abbrev n_tape_Reader_get:FuncId:=116
abbrev n_tape_Reader_Byte:FuncId:=70
abbrev n_model_reader_small:FuncId:=68
abbrev n_tape_Reader_Word:FuncId:=69
abbrev n_tape_Reader_Short:FuncId:=118
abbrev n_tape_Reader_Err:FuncId:=72
abbrev n_tape_Reader_Row:FuncId:=117
abbrev n_model_reader_node:FuncId:=71
abbrev n_model_Decode:FuncId:=31
abbrev n_graph_may:FuncId:=136
abbrev n_graph_ordered_1:FuncId:=190
abbrev n_slices_IndexFunc_int_int:FuncId:=169
abbrev n_slices_ContainsFunc_int_int:FuncId:=103
abbrev n_graph_ordered:FuncId:=137
abbrev n_graph_pick:FuncId:=138
abbrev n_kind_in:FuncId:=192
abbrev n_kind_every:FuncId:=191
abbrev n_kind_has:FuncId:=179
abbrev n_kind_bare:FuncId:=193
abbrev n_kind_Span:FuncId:=134
abbrev n_kind_fits:FuncId:=194
abbrev n_kind_Check:FuncId:=139
abbrev n_graph_rate_1:FuncId:=195
abbrev n_kind_Step:FuncId:=196
abbrev n_graph_rate:FuncId:=140
abbrev n_kind_Width:FuncId:=141
abbrev n_graph_look:FuncId:=86
abbrev n_graph_Check:FuncId:=74
abbrev n_graph_Widths:FuncId:=35
abbrev n_bound_same:FuncId:=75
abbrev n_graph_Order:FuncId:=37
abbrev n_kind_Pads:FuncId:=120
abbrev n_bound_weighed_1:FuncId:=180
abbrev n_sat_ends:FuncId:=223
abbrev n_sat_Clamp:FuncId:=123
abbrev n_sat_Sat:FuncId:=183
abbrev n_sat_Mul:FuncId:=184
abbrev n_round_Parts:FuncId:=237
abbrev n_round_Div_1:FuncId:=238
abbrev n_round_Div:FuncId:=224
abbrev n_round_Half:FuncId:=185
abbrev n_round_Scale:FuncId:=124
abbrev n_bound_post:FuncId:=181
abbrev n_bound_weighed:FuncId:=121
abbrev n_sat_Add_1:FuncId:=182
abbrev n_sat_Add:FuncId:=122
abbrev n_bound_node:FuncId:=76
abbrev n_bound_Ranges:FuncId:=32
abbrev n_slices_Clone_api_Node_api_Node:FuncId:=125
abbrev n_slices_Clone_int_int:FuncId:=126
abbrev n_fuse_own:FuncId:=77
abbrev n_slices_Values_int_int_1:FuncId:=188
abbrev n_slices_Values_int_int:FuncId:=130
abbrev n_slices_AppendSeq_int_int:FuncId:=225
abbrev n_slices_Collect_int:FuncId:=186
abbrev n_math_bits_Len32:FuncId:=248
abbrev n_math_bits_Len64:FuncId:=249
abbrev n_math_bits_Len:FuncId:=227
abbrev n_cmp_isNaN_int:FuncId:=257
abbrev n_cmp_Less_int:FuncId:=245
abbrev n_slices_insertionSortOrdered_int:FuncId:=239
abbrev n_slices_heapSortOrdered_int:FuncId:=240
abbrev n_slices_breakPatternsOrdered_int:FuncId:=241
abbrev n_slices_choosePivotOrdered_int:FuncId:=242
abbrev n_slices_reverseRangeOrdered_int:FuncId:=243
abbrev n_slices_partialInsertionSortOrdered_int:FuncId:=244
abbrev n_slices_partitionEqualOrdered_int:FuncId:=246
abbrev n_slices_partitionOrdered_int:FuncId:=247
abbrev n_slices_pdqsortOrdered_int:FuncId:=226
abbrev n_slices_Sort_int_int:FuncId:=187
abbrev n_slices_Sorted_int:FuncId:=129
abbrev n_slices_Compact_int_int:FuncId:=128
abbrev n_fuse_live_1:FuncId:=127
abbrev n_fuse_live:FuncId:=78
abbrev n_slices_Index_int_int:FuncId:=189
abbrev n_slices_Contains_int_int:FuncId:=131
abbrev n_fuse_take:FuncId:=132
abbrev n_fuse_step:FuncId:=79
abbrev n_fuse_Fuse:FuncId:=33
abbrev n_graph_Rates:FuncId:=80
abbrev n_field_all_1:FuncId:=135
abbrev n_field_all:FuncId:=82
abbrev n_field_pick:FuncId:=84
abbrev n_slices_Min_int_int:FuncId:=133
abbrev n_slices_Max_int_int:FuncId:=83
abbrev n_field_Reach:FuncId:=81
abbrev n_field_room:FuncId:=85
abbrev n_field_Rooms:FuncId:=34
abbrev n_arena_Layout:FuncId:=36
abbrev n_kernel_Cost:FuncId:=87
abbrev n_field_Macs:FuncId:=38
abbrev n_model_writer_fits:FuncId:=197
abbrev n_tape_Writer_put:FuncId:=228
abbrev n_tape_Writer_Byte:FuncId:=198
abbrev n_model_writer_small:FuncId:=142
abbrev n_tape_Writer_Word:FuncId:=199
abbrev n_model_writer_words:FuncId:=143
abbrev n_tape_Writer_Short:FuncId:=201
abbrev n_tape_Writer_Row:FuncId:=229
abbrev n_model_writer_rows:FuncId:=200
abbrev n_model_writer_node:FuncId:=144
abbrev n_tape_Writer_Text:FuncId:=145
abbrev n_model_Encode:FuncId:=88
abbrev n_crc_Sum_1:FuncId:=146
abbrev n_crc_Sum:FuncId:=89
abbrev n_plan_hash:FuncId:=39
abbrev n_plan_Make:FuncId:=13
abbrev n_ref15_in:FuncId:=159
abbrev n_ref06_Bytes:FuncId:=160
abbrev n_ref15_Out_put:FuncId:=93
abbrev n_ref15_Out_byt:FuncId:=42
abbrev n_ref15_Out_word:FuncId:=43
abbrev n_ref15_Out_row:FuncId:=94
abbrev n_ref15_Out_node:FuncId:=44
abbrev n_ref15_Encode:FuncId:=18
abbrev n_law22_awake:FuncId:=8
abbrev n_ref14_Row_Next:FuncId:=173
abbrev n_ref14_Windows:FuncId:=152
abbrev n_ref14_Span:FuncId:=110
abbrev n_ref14_Row_window:FuncId:=221
abbrev n_ref14_Row_row:FuncId:=222
abbrev n_ref14_Made:FuncId:=174
abbrev n_ref14_all:FuncId:=203
abbrev n_ref14_in:FuncId:=204
abbrev n_ref14_Many:FuncId:=172
abbrev n_ref14_weighs:FuncId:=205
abbrev n_ref14_four:FuncId:=171
abbrev n_ref14_else0:FuncId:=206
abbrev n_ref14_weights:FuncId:=230
abbrev n_ref14_sized:FuncId:=207
abbrev n_ref14_Check:FuncId:=149
abbrev n_ref14_Width:FuncId:=150
abbrev n_ref14_Step:FuncId:=208
abbrev n_ref15_rate:FuncId:=175
abbrev n_ref15_turned:FuncId:=176
abbrev n_ref15_Made:FuncId:=114
abbrev n_ref16_Made:FuncId:=64
abbrev n_ref21_Made:FuncId:=25
abbrev n_ref22_Made:FuncId:=9
abbrev n_law22_PlanApart:FuncId:=5
def internal_stringslite_HasPrefix (y0 y1:ByteArray) (h:Heap) (Q:VH):Prop:=
 ifB (decide (((y0.size:Nat):Int)≥((y1.size:Nat):Int))) (
 bndI ((y1.size:Nat):Int) y0.size fun l1=>
 Q (.bool ((y0.extract 0 l1).toList==y1.toList)) h) (
 Q (.bool false) h)
noncomputable def tab_internal_stringslite_HasPrefix:Tab:=tb (lookT .done []) (lookT [] []) (lookT none [])
theorem call_internal_stringslite_HasPrefix (y0 y1:ByteArray) {h:Heap} {Q:VH} (H:internal_stringslite_HasPrefix y0 y1 h Q):callP P n_internal_stringslite_HasPrefix #[(.string y0),(.string y1)] h Q:=
 @callP_of P n_internal_stringslite_HasPrefix Tryz.f177 tab_internal_stringslite_HasPrefix [(.string y0),(.string y1)] h Q mixed Tryz.func177 Tryz.call177 (by kernel_rfl) (Eq.mpr (by kernel_rfl) H)
def internal_stringslite_CutPrefix (y0 y1:ByteArray) (h:Heap) (Q:VH):Prop:=
 callBool P n_internal_stringslite_HasPrefix #[(.string y0),(.string y1)] h fun b2 h1=>
 ifB (!b2) (
 Q (.tuple #[(.string y0),(.bool false)]) h1) (
 bndI ((y1.size:Nat):Int) y0.size fun l3=>
 Q (.tuple #[(.string (y0.extract l3 y0.size)),(.bool true)]) h1)
noncomputable def tab_internal_stringslite_CutPrefix:Tab:=tb (lookT .done []) (lookT [] []) (lookT none [])
theorem call_internal_stringslite_CutPrefix (y0 y1:ByteArray) {h:Heap} {Q:VH} (H:internal_stringslite_CutPrefix y0 y1 h Q):callP P n_internal_stringslite_CutPrefix #[(.string y0),(.string y1)] h Q:=
 @callP_of P n_internal_stringslite_CutPrefix Tryz.f115 tab_internal_stringslite_CutPrefix [(.string y0),(.string y1)] h Q mixed Tryz.func115 Tryz.call115 (by kernel_rfl) (Eq.mpr (by kernel_rfl) H)
def strings_CutPrefix (y0 y1:ByteArray) (h:Heap) (Q:VH):Prop:=
 callP P n_internal_stringslite_CutPrefix #[(.string y0),(.string y1)] h fun v2 h1=>
 ∃s3:ByteArray,∃b4:Bool,v2=(.tuple #[(.string s3),(.bool b4)])∧
 Q (.tuple #[(.string s3),(.bool b4)]) h1
noncomputable def tab_strings_CutPrefix:Tab:=tb (lookT .done []) (lookT [] []) (lookT none [])
theorem call_strings_CutPrefix (y0 y1:ByteArray) {h:Heap} {Q:VH} (H:strings_CutPrefix y0 y1 h Q):callP P n_strings_CutPrefix #[(.string y0),(.string y1)] h Q:=
 @callP_of P n_strings_CutPrefix Tryz.f66 tab_strings_CutPrefix [(.string y0),(.string y1)] h Q mixed Tryz.func66 Tryz.call66 (by kernel_rfl) (Eq.mpr (by kernel_rfl) H)
def tape_Read (y0:ByteArray) (h:Heap) (Q:VH):Prop:=
 newI h (.cells #[(.int .i64 0),(.string y0),(.int .i64 0)] 169 (0,0)) fun b1 h2=>
 Q (.pointer (some ⟨b1,0,none⟩)) h2
noncomputable def tab_tape_Read:Tab:=tb (lookT .done []) (lookT [] []) (lookT none [])
theorem call_tape_Read (y0:ByteArray) {h:Heap} {Q:VH} (H:tape_Read y0 h Q):callP P n_tape_Read #[(.string y0)] h Q:=
 @callP_of P n_tape_Read Tryz.f67 tab_tape_Read [(.string y0)] h Q mixed Tryz.func67 Tryz.call67 (by kernel_rfl) (Eq.mpr (by kernel_rfl) H)
def tape_place_told (y0:Option Addr) (h:Heap) (Q:VH):Prop:=
 nilI y0 fun a1=>
 ldInt .i64 h a1 fun n2=>
 Q (.int .i64 n2) h
noncomputable def tab_tape_place_told:Tab:=tb (lookT .done []) (lookT [] []) (lookT none [])
theorem call_tape_place_told (y0:Option Addr) {h:Heap} {Q:VH} (H:tape_place_told y0 h Q):callP P n_tape_place_told #[(.pointer y0)] h Q:=
 @callP_of P n_tape_place_told Tryz.f119 tab_tape_place_told [(.pointer y0)] h Q mixed Tryz.func119 Tryz.call119 (by kernel_rfl) (Eq.mpr (by kernel_rfl) H)
def tape_Reader_Left (y0:Option Addr) (h:Heap) (Q:VH):Prop:=
 ifB ((y0).isNone) (
 Q (.int .i64 0) h) (
 nilI y0 fun a1=>
 nilI y0 fun a2=>
 ldStr h (a1.add 1) fun s3=>
 callInt P .i64 n_tape_place_told #[(.pointer (some a2))] h fun n5 h4=>
 cellH h4 (a1.add 1)=some (.string s3)∧
 Q (.int .i64 (IntKind.wrap .i64 (((s3.size:Nat):Int)-n5))) h4)
noncomputable def tab_tape_Reader_Left:Tab:=tb (lookT .done [(3,(ones [0,1,2,5,6,7] (.early 3 (ones [4] (.alt 8 (ones [9,10] .done) .stop)))))]) (lookT [] []) (lookT none [])
theorem call_tape_Reader_Left (y0:Option Addr) {h:Heap} {Q:VH} (H:tape_Reader_Left y0 h Q):callP P n_tape_Reader_Left #[(.pointer y0)] h Q:=
 @callP_of P n_tape_Reader_Left Tryz.f73 tab_tape_Reader_Left [(.pointer y0)] h Q mixed Tryz.func73 Tryz.call73 (by kernel_rfl) (Eq.mpr (by kernel_rfl) H)
def tape_place_moved (y0:Option Addr) (y1:Int) (h:Heap) (Q:VH):Prop:=
 nilI y0 fun a1=>
 ldInt .i64 h a1 fun n2=>
 nilI y0 fun a3=>
 stI h a3 (.int .i64 (IntKind.wrap .i64 (n2+y1))) fun h4=>
 Q (.tuple #[]) h4
noncomputable def tab_tape_place_moved:Tab:=tb (lookT .done []) (lookT [] []) (lookT none [])
theorem call_tape_place_moved (y0:Option Addr) (y1:Int) {h:Heap} {Q:VH} (H:tape_place_moved y0 y1 h Q):callP P n_tape_place_moved #[(.pointer y0),(.int .i64 y1)] h Q:=
 @callP_of P n_tape_place_moved Tryz.f178 tab_tape_place_moved [(.pointer y0),(.int .i64 y1)] h Q mixed Tryz.func178 Tryz.call178 (by kernel_rfl) (Eq.mpr (by kernel_rfl) H)
def tape_Reader_get_l8 (Q:VH) (K1:(Option Addr×Int×Int×Int×Int×Unit)→Heap→Prop) (y0:Option Addr) (y1 y5 t23 t24:Int) (h7:Heap):Prop:=
 ifB (decide (t24<t23)) (
 nilI y0 fun a8=>
 nilI y0 fun a9=>
 ldStr h7 (a8.add 1) fun s10=>
 callInt P .i64 n_tape_place_told #[(.pointer (some a9))] h7 fun n12 h11=>
 cellH h11 (a8.add 1)=some (.string s10)∧
 strI s10 (IntKind.wrap .i64 (n12+t24)) fun b13=>
 nonnegI (IntKind.wrap .i64 ((8:Int)*t24)) fun _=>
 K1 (y0,y1,(orI .u64 y5 (shlI .u64 (IntKind.wrap .u64 (b13.toNat:Int)) (min (IntKind.wrap .i64 ((8:Int)*t24)).toNat 64))),t23,(IntKind.wrap .i64 (t24+1)),()) h11) (
 nilI y0 fun a14=>
 callUnit P n_tape_place_moved #[(.pointer (some a14)),(.int .i64 y1)] h7 fun h15=>
 Q (.int .u64 y5) h15)
def tape_Reader_get_j3 (Q:VH) (y0:Option Addr) (y1:Int) (h2:Heap):Prop:=
 callInt P .i64 n_tape_Reader_Left #[(.pointer y0)] h2 fun n4 h3=>
 ifB (decide (n4<y1)) (
 nilI y0 fun a5=>
 stI h3 (a5.add 2) (.int .i64 11) fun h6=>
 Q (.int .u64 0) h6) (
 LoopS (S:=(Option Addr×Int×Int×Int×Int×Unit)) (fun K1 s h=>tape_Reader_get_l8 Q K1 s.1 s.2.1 s.2.2.1 s.2.2.2.1 s.2.2.2.2.1 h) (y0,y1,(0:Int),y1,(0:Int),()) h3)
def tape_Reader_get (y0:Option Addr) (y1:Int) (h:Heap) (Q:VH):Prop:=
 ∃J1:(Option Addr×Int×Unit)→Heap→Prop,(∀s h,J1 s h→tape_Reader_get_j3 Q s.1 s.2.1 h)∧
 ifB ((y0).isNone) (
 Q (.int .u64 0) h) (
 nilI y0 fun a16=>
 ldInt .i64 h (a16.add 2) fun n17=>
 ifB (n17 !=0) (
 Q (.int .u64 0) h) (
 J1 (y0,y1,()) h))
noncomputable def tab_tape_Reader_get:Tab:=tb (lookT .done [(10,(ones [0,1,2,3,5,6,7,9,13,14] (.early 4 (.alt 8 (ones [10,11,12,15,16,17] .done) .stop))))]) (lookT [] [(8,[(0,.sc (.ptr)),(1,I6),(5,.sc (.int .u64)),(23,I6),(24,I6)])]) (lookT none [(3,some [(0,.sc (.ptr)),(1,I6)])])
theorem call_tape_Reader_get (y0:Option Addr) (y1:Int) {h:Heap} {Q:VH} (H:tape_Reader_get y0 y1 h Q):callP P n_tape_Reader_get #[(.pointer y0),(.int .i64 y1)] h Q:=
 @callP_of P n_tape_Reader_get Tryz.f116 tab_tape_Reader_get [(.pointer y0),(.int .i64 y1)] h Q mixed Tryz.func116 Tryz.call116 (by kernel_rfl) (Eq.mpr (by kernel_rfl) H)
def tape_Reader_Byte (y0:Option Addr) (h:Heap) (Q:VH):Prop:=
 callInt P .u64 n_tape_Reader_get #[(.pointer y0),(.int .i64 1)] h fun n2 h1=>
 Q (.int .i64 (IntKind.wrap .i64 n2)) h1
noncomputable def tab_tape_Reader_Byte:Tab:=tb (lookT .done []) (lookT [] []) (lookT none [])
theorem call_tape_Reader_Byte (y0:Option Addr) {h:Heap} {Q:VH} (H:tape_Reader_Byte y0 h Q):callP P n_tape_Reader_Byte #[(.pointer y0)] h Q:=
 @callP_of P n_tape_Reader_Byte Tryz.f70 tab_tape_Reader_Byte [(.pointer y0)] h Q mixed Tryz.func70 Tryz.call70 (by kernel_rfl) (Eq.mpr (by kernel_rfl) H)
def model_reader_small_l2 (Q:VH) (K1:(Addr×S3×Int×Int×Unit)→Heap→Prop) (y2:Addr) (t6_p:OA) (t6_n t6_c:Nat) (t7 t8:Int) (h3:Heap):Prop:=
 ifB (decide (t8<t7)) (
 idxI t6_p t8 t6_n fun a4=>
 ldPtr h3 (a4.add (t8.toNat*1)) fun p5=>
 ldPtr h3 y2 fun p6=>
 callInt P .i64 n_tape_Reader_Byte #[(.pointer p6)] h3 fun n8 h7=>
 nilI p5 fun a9=>
 stI h7 a9 (.int .i64 n8) fun h10=>
 K1 (y2,(t6_p,t6_n,t6_c),t7,(IntKind.wrap .i64 (t8+1)),()) h10) (
 Q (.tuple #[]) h3)
def model_reader_small (y0:Option Addr) (y1p:OA) (y1n y1c:Nat) (h:Heap) (Q:VH):Prop:=
 newI h (.cells #[(.pointer y0)] 115 (0,0)) fun b1 h2=>
 LoopS (S:=(Addr×S3×Int×Int×Unit)) (fun K1 s h=>model_reader_small_l2 Q K1 s.1 s.2.1.1 s.2.1.2.1 s.2.1.2.2 s.2.2.1 s.2.2.2.1 h) (⟨b1,0,none⟩,(y1p,y1n,y1c),(y1n:Int),(0:Int),()) h2
noncomputable def tab_model_reader_small:Tab:=tb (lookT .done []) (lookT [] [(2,[(2,.sc (.adr)),(6,SL),(7,I6),(8,I6)])]) (lookT none [])
theorem call_model_reader_small (y0:Option Addr) (y1p:OA) (y1n y1c:Nat) {h:Heap} {Q:VH} (H:model_reader_small y0 y1p y1n y1c h Q):callP P n_model_reader_small #[(.agg #[(.pointer y0)]),(.slice y1p y1n y1c)] h Q:=
 @callP_of P n_model_reader_small Tryz.f68 tab_model_reader_small [(.agg #[(.pointer y0)]),(.slice y1p y1n y1c)] h Q mixed Tryz.func68 Tryz.call68 (by kernel_rfl) (Eq.mpr (by kernel_rfl) H)
def tape_Reader_Word (y0:Option Addr) (h:Heap) (Q:VH):Prop:=
 callInt P .u64 n_tape_Reader_get #[(.pointer y0),(.int .i64 4)] h fun n2 h1=>
 Q (.int .i64 (IntKind.wrap .i64 (IntKind.wrap .i32 n2))) h1
noncomputable def tab_tape_Reader_Word:Tab:=tb (lookT .done []) (lookT [] []) (lookT none [])
theorem call_tape_Reader_Word (y0:Option Addr) {h:Heap} {Q:VH} (H:tape_Reader_Word y0 h Q):callP P n_tape_Reader_Word #[(.pointer y0)] h Q:=
 @callP_of P n_tape_Reader_Word Tryz.f69 tab_tape_Reader_Word [(.pointer y0)] h Q mixed Tryz.func69 Tryz.call69 (by kernel_rfl) (Eq.mpr (by kernel_rfl) H)
def tape_Reader_Short (y0:Option Addr) (h:Heap) (Q:VH):Prop:=
 callInt P .u64 n_tape_Reader_get #[(.pointer y0),(.int .i64 2)] h fun n2 h1=>
 Q (.int .i64 (IntKind.wrap .i64 n2)) h1
noncomputable def tab_tape_Reader_Short:Tab:=tb (lookT .done []) (lookT [] []) (lookT none [])
theorem call_tape_Reader_Short (y0:Option Addr) {h:Heap} {Q:VH} (H:tape_Reader_Short y0 h Q):callP P n_tape_Reader_Short #[(.pointer y0)] h Q:=
 @callP_of P n_tape_Reader_Short Tryz.f118 tab_tape_Reader_Short [(.pointer y0)] h Q mixed Tryz.func118 Tryz.call118 (by kernel_rfl) (Eq.mpr (by kernel_rfl) H)
def tape_Reader_Err (y0:Option Addr) (h:Heap) (Q:VH):Prop:=
 ifB ((y0).isNone) (
 Q (.int .i64 1) h) (
 nilI y0 fun a1=>
 ldInt .i64 h (a1.add 2) fun n2=>
 Q (.int .i64 n2) h)
noncomputable def tab_tape_Reader_Err:Tab:=tb (lookT .done []) (lookT [] []) (lookT none [])
theorem call_tape_Reader_Err (y0:Option Addr) {h:Heap} {Q:VH} (H:tape_Reader_Err y0 h Q):callP P n_tape_Reader_Err #[(.pointer y0)] h Q:=
 @callP_of P n_tape_Reader_Err Tryz.f72 tab_tape_Reader_Err [(.pointer y0)] h Q mixed Tryz.func72 Tryz.call72 (by kernel_rfl) (Eq.mpr (by kernel_rfl) H)
def tape_Reader_Row_l3 (Q:VH) (K1:YH Y1) (y0:Option Addr) (y3p:OA) (y3n y3c:Nat) (t6 t7:Int) (h3:Heap):Prop:=
 ifB (decide (t7<t6)) (
 callInt P .i64 n_tape_Reader_Word #[(.pointer y0)] h3 fun n5 h4=>
 callInt P .i64 n_tape_Reader_Err #[(.pointer y0)] h4 fun n7 h6=>
 ifB (n7 !=0) (
 Q (.slice none 0 0) h6) (
 newI h6 (.cells #[(.int .i64 n5)] 3 (0,0)) fun b8 h9=>
 appI 3 1 8 (.int .i64 0) y3p y3n y3c (some ⟨b8,0,none⟩) 1 h9 fun p10 l10 c10 h11=>
 K1 (y0,(p10,l10,c10),t6,(IntKind.wrap .i64 (t7+1)),()) h11)) (
 Q (.slice y3p y3n y3c) h3)
def tape_Reader_Row (y0:Option Addr) (h:Heap) (Q:VH):Prop:=
 callInt P .i64 n_tape_Reader_Short #[(.pointer y0)] h fun n2 h1=>
 LoopS (S:=Y1) (fun K1 s h=>tape_Reader_Row_l3 Q K1 s.1 s.2.1.1 s.2.1.2.1 s.2.1.2.2 s.2.2.1 s.2.2.2.1 h) (y0,(none,0,0),n2,(0:Int),()) h1
noncomputable def tab_tape_Reader_Row:Tab:=tb (lookT .done []) (lookT [] [(3,[(0,.sc (.ptr)),(3,SL),(6,I6),(7,I6)])]) (lookT none [])
theorem call_tape_Reader_Row (y0:Option Addr) {h:Heap} {Q:VH} (H:tape_Reader_Row y0 h Q):callP P n_tape_Reader_Row #[(.pointer y0)] h Q:=
 @callP_of P n_tape_Reader_Row Tryz.f117 tab_tape_Reader_Row [(.pointer y0)] h Q mixed Tryz.func117 Tryz.call117 (by kernel_rfl) (Eq.mpr (by kernel_rfl) H)
def model_reader_node_l5 (Q:VH) (K1:(Addr×Addr×Addr×Int×Int×Unit)→Heap→Prop) (y1 t2 y3:Addr) (t9 t10:Int) (h15:Heap):Prop:=
 ifB (decide (t10<t9)) (
 ldSlice h15 (y3.add 1) fun p16 l16 c16=>
 ldPtr h15 y1 fun p17=>
 callInt P .i64 n_tape_Reader_Byte #[(.pointer p17)] h15 fun n19 h18=>
 cellH h18 (y3.add 1)=some (.slice p16 l16 c16)∧
 newI h18 (.cells #[(.int .i64 n19)] 3 (0,0)) fun b20 h21=>
 appI 3 1 8 (.int .i64 0) p16 l16 c16 (some ⟨b20,0,none⟩) 1 h21 fun p22 l22 c22 h23=>
 stI h23 (y3.add 1) (.slice p22 l22 c22) fun h24=>
 K1 (y1,t2,y3,t9,(IntKind.wrap .i64 (t10+1)),()) h24) (
 ldPtr h15 y1 fun p25=>
 newI h15 (.cells #[(.pointer (some (y3.add 2))),(.pointer (some (y3.add 3))),(.pointer (some (y3.add 4))),(.pointer (some (y3.add 5))),(.pointer (some (y3.add 6))),(.pointer (some (y3.add 7)))] 117 (0,0)) fun b26 h27=>
 callUnit P n_model_reader_small #[(.agg #[(.pointer p25)]),(.slice (some ⟨b26,0,none⟩) 6 6)] h27 fun h28=>
 ldPtr h28 y1 fun p29=>
 ldPtr h28 y1 fun p30=>
 callSlice P n_tape_Reader_Row #[(.pointer p29)] h28 fun p32 l32 c32 h31=>
 cellH h31 y1=some (.pointer p30)∧
 callSlice P n_tape_Reader_Row #[(.pointer p30)] h31 fun p34 l34 c34 h33=>
 cellH h33 y1=some (.pointer p29)∧
 stI h33 (y3.add 8) (.slice p32 l32 c32) fun h35=>
 cellH h35 y1=some (.pointer p30)∧
 stI h35 (y3.add 9) (.slice p34 l34 c34) fun h36=>
 ldPtr h36 y1 fun p37=>
 callInt P .i64 n_tape_Reader_Short #[(.pointer p37)] h36 fun n39 h38=>
 stI h38 (y3.add 10) (.int .i64 n39) fun h40=>
 ldPtr h40 y1 fun p41=>
 newI h40 (.cells #[(.pointer (some (y3.add 11)))] 117 (0,0)) fun b42 h43=>
 callUnit P n_model_reader_small #[(.agg #[(.pointer p41)]),(.slice (some ⟨b42,0,none⟩) 1 1)] h43 fun h44=>
 ldPtr h44 y1 fun p45=>
 ldPtr h44 y1 fun p46=>
 callInt P .i64 n_tape_Reader_Word #[(.pointer p45)] h44 fun n48 h47=>
 cellH h47 y1=some (.pointer p46)∧
 callInt P .i64 n_tape_Reader_Word #[(.pointer p46)] h47 fun n50 h49=>
 cellH h49 y1=some (.pointer p45)∧
 stI h49 (y3.add 12) (.int .i64 n48) fun h51=>
 cellH h51 y1=some (.pointer p46)∧
 stI h51 (y3.add 13) (.int .i64 n50) fun h52=>
 ldPtr h52 y1 fun p53=>
 newI h52 (.cells #[(.pointer (some (y3.add 14)))] 117 (0,0)) fun b54 h55=>
 callUnit P n_model_reader_small #[(.agg #[(.pointer p53)]),(.slice (some ⟨b54,0,none⟩) 1 1)] h55 fun h56=>
 ldAg A1 h56 y3 fun x57=>
 storeL (mkS' A1 x57) h56 t2 0 fun h58=>
 ldAg A1 h58 t2 fun x59=>
 Q (agS A1 x59) h58)
def model_reader_node (y0:Option Addr) (h:Heap) (Q:VH):Prop:=
 newI h (.cells #[(.pointer y0)] 115 (0,0)) fun b1 h2=>
 newI h2 (.cells (mkS' A1 (zT A1)).toArray 62 (0,0)) fun b3 h4=>
 newI h4 (.cells (mkS' A1 (zT A1)).toArray 62 (0,0)) fun b5 h6=>
 newI h6 (.cells #[(.int .i64 0)] 3 (0,0)) fun b7 h8=>
 stI h8 ⟨b7,0,none⟩ (.int .i64 0) fun h9=>
 ldPtr h9 ⟨b1,0,none⟩ fun p10=>
 newI h9 (.cells #[(.pointer (some ⟨b5,0,none⟩)),(.pointer (some ⟨b7,0,none⟩))] 117 (0,0)) fun b11 h12=>
 callUnit P n_model_reader_small #[(.agg #[(.pointer p10)]),(.slice (some ⟨b11,0,none⟩) 2 2)] h12 fun h13=>
 ldInt .i64 h13 ⟨b7,0,none⟩ fun n14=>
 LoopS (S:=(Addr×Addr×Addr×Int×Int×Unit)) (fun K1 s h=>model_reader_node_l5 Q K1 s.1 s.2.1 s.2.2.1 s.2.2.2.1 s.2.2.2.2.1 h) (⟨b1,0,none⟩,⟨b3,0,none⟩,⟨b5,0,none⟩,n14,(0:Int),()) h13
noncomputable def tab_model_reader_node:Tab:=tb (lookT .done [(6,(ones [0,2] (.early 1 (.alt 3 (.alt 4 (.alt 5 (.alt 6 (ones [7] (.alt 8 .done .stop)) .stop) .stop) .stop) .stop)))),(9,(ones [0,3] (.early 1 (.early 4 (.alt 2 (.alt 5 (ones [6] (.alt 7 (ones [8] (.alt 9 .done .stop)) .stop)) .stop) .stop))))),(12,(ones [0,3] (.early 1 (.early 4 (.alt 2 (.alt 5 (ones [6] (.alt 7 (ones [8] (.alt 9 .done .stop)) .stop)) .stop) .stop)))))]) (lookT [] [(5,[(1,.sc (.adr)),(2,.sc (.adr)),(3,.sc (.adr)),(9,I6),(10,I6)])]) (lookT none [])
theorem call_model_reader_node (y0:Option Addr) {h:Heap} {Q:VH} (H:model_reader_node y0 h Q):callP P n_model_reader_node #[(.agg #[(.pointer y0)])] h Q:=
 @callP_of P n_model_reader_node Tryz.f71 tab_model_reader_node [(.agg #[(.pointer y0)])] h Q mixed Tryz.func71 Tryz.call71 (by kernel_rfl) (Eq.mpr (by kernel_rfl) H)
def model_Decode_l9 (Q:VH) (K1:(Addr×Addr×Addr×Int×Int×Unit)→Heap→Prop) (t2 y6 y7:Addr) (t33 t34:Int) (h31:Heap):Prop:=
 ifB (decide (t34<t33)) (
 ldSlice h31 (y7.add 3) fun p32 l32 c32=>
 ldPtr h31 y6 fun p33=>
 callP P n_model_reader_node #[(.agg #[(.pointer p33)])] h31 fun v35 h34=>
 exS A1 fun x36=>v35=(agS A1 x36)∧
 cellH h34 (y7.add 3)=some (.slice p32 l32 c32)∧
 newI h34 (.cells (mkS' A1 x36).toArray 62 (0,0)) fun b37 h38=>
 appI 62 15 168 (agS A1 (zT A1)) p32 l32 c32 (some ⟨b37,0,none⟩) 1 h38 fun p39 l39 c39 h40=>
 stI h40 (y7.add 3) (.slice p39 l39 c39) fun h41=>
 K1 (t2,y6,y7,t33,(IntKind.wrap .i64 (t34+1)),()) h41) (
 ldPtr h31 y6 fun p42=>
 newI h31 (.cells #[(.pointer (some (y7.add 4)))] 117 (0,0)) fun b43 h44=>
 callUnit P n_model_reader_small #[(.agg #[(.pointer p42)]),(.slice (some ⟨b43,0,none⟩) 1 1)] h44 fun h45=>
 ldPtr h45 y6 fun p46=>
 callInt P .i64 n_tape_Reader_Err #[(.pointer p46)] h45 fun n48 h47=>
 ifB (n48 !=0) (
 storeL [(.int .i64 0),(.int .i64 0),(.int .i64 0),(.slice none 0 0),(.int .i64 0)] h47 t2 0 fun h49=>
 ldAg A2 h49 t2 fun x50=>
 Q (.tuple #[(agS A2 x50),(.int .i64 11)]) h49) (
 ldPtr h47 y6 fun p51=>
 callInt P .i64 n_tape_Reader_Left #[(.pointer p51)] h47 fun n53 h52=>
 ifB (decide (n53>0)) (
 storeL [(.int .i64 0),(.int .i64 0),(.int .i64 0),(.slice none 0 0),(.int .i64 0)] h52 t2 0 fun h54=>
 ldAg A2 h54 t2 fun x55=>
 Q (.tuple #[(agS A2 x55),(.int .i64 10)]) h54) (
 ldAg A2 h52 y7 fun x56=>
 storeL (mkS' A2 x56) h52 t2 0 fun h57=>
 ldAg A2 h57 t2 fun x58=>
 Q (.tuple #[(agS A2 x58),(.int .i64 0)]) h57)))
def model_Decode (y0:ByteArray) (h:Heap) (Q:VH):Prop:=
 newI h (.cells (mkS' A2 (zT A2)).toArray 32 (0,0)) fun b1 h2=>
 callP P n_strings_CutPrefix #[(.string y0),(.string (ByteArray.mk #[69,65,82,49]))] h2 fun v4 h3=>
 ∃s5:ByteArray,∃b6:Bool,v4=(.tuple #[(.string s5),(.bool b6)])∧
 ifB (!b6) (
 storeL [(.int .i64 0),(.int .i64 0),(.int .i64 0),(.slice none 0 0),(.int .i64 0)] h3 ⟨b1,0,none⟩ 0 fun h7=>
 ldAg A2 h7 ⟨b1,0,none⟩ fun x8=>
 Q (.tuple #[(agS A2 x8),(.int .i64 10)]) h7) (
 callPtr P n_tape_Read #[(.string s5)] h3 fun p10 h9=>
 newI h9 (.cells #[(.pointer none)] 115 (0,0)) fun b11 h12=>
 stI h12 ⟨b11,0,none⟩ (.pointer p10) fun h13=>
 newI h13 (.cells (mkS' A2 (zT A2)).toArray 32 (0,0)) fun b14 h15=>
 ldPtr h15 ⟨b11,0,none⟩ fun p16=>
 newI h15 (.cells #[(.pointer (some ⟨b14,0,none⟩))] 117 (0,0)) fun b17 h18=>
 callUnit P n_model_reader_small #[(.agg #[(.pointer p16)]),(.slice (some ⟨b17,0,none⟩) 1 1)] h18 fun h19=>
 ldPtr h19 ⟨b11,0,none⟩ fun p20=>
 ldPtr h19 ⟨b11,0,none⟩ fun p21=>
 callInt P .i64 n_tape_Reader_Word #[(.pointer p20)] h19 fun n23 h22=>
 cellH h22 ⟨b11,0,none⟩=some (.pointer p21)∧
 callInt P .i64 n_tape_Reader_Word #[(.pointer p21)] h22 fun n25 h24=>
 cellH h24 ⟨b11,0,none⟩=some (.pointer p20)∧
 stI h24 ⟨b14,1,none⟩ (.int .i64 n23) fun h26=>
 cellH h26 ⟨b11,0,none⟩=some (.pointer p21)∧
 stI h26 ⟨b14,2,none⟩ (.int .i64 n25) fun h27=>
 ldPtr h27 ⟨b11,0,none⟩ fun p28=>
 callInt P .i64 n_tape_Reader_Byte #[(.pointer p28)] h27 fun n30 h29=>
 LoopS (S:=(Addr×Addr×Addr×Int×Int×Unit)) (fun K1 s h=>model_Decode_l9 Q K1 s.1 s.2.1 s.2.2.1 s.2.2.2.1 s.2.2.2.2.1 h) (⟨b1,0,none⟩,⟨b11,0,none⟩,⟨b14,0,none⟩,n30,(0:Int),()) h29)
noncomputable def tab_model_Decode:Tab:=tb (lookT .done [(7,(ones [0,3] (.early 1 (.early 4 (.alt 2 (.alt 5 (ones [6] (.alt 7 (ones [8] (.alt 9 .done .stop)) .stop)) .stop) .stop))))),(10,(ones [0] (.early 1 (.alt 2 (.alt 3 (.alt 4 (.alt 5 (ones [6] (.alt 7 .done .stop)) .stop) .stop) .stop) .stop))))]) (lookT [] [(9,[(2,.sc (.adr)),(6,.sc (.adr)),(7,.sc (.adr)),(33,I6),(34,I6)])]) (lookT none [])
theorem call_model_Decode (y0:ByteArray) {h:Heap} {Q:VH} (H:model_Decode y0 h Q):callP P n_model_Decode #[(.string y0)] h Q:=
 @callP_of P n_model_Decode Tryz.f31 tab_model_Decode [(.string y0)] h Q mixed Tryz.func31 Tryz.call31 (by kernel_rfl) (Eq.mpr (by kernel_rfl) H)
def graph_may_l10 (Q:VH) (K1:(Int×S3×Int×Int×Unit)→Heap→Prop) (K2:YH Y2) (y3:Int) (t54_p:OA) (t54_n t54_c:Nat) (t55 t56:Int) (t61_p:OA) (t61_n t61_c:Nat) (t62 t63:Int) (h16:Heap):Prop:=
 ifB (decide (t63<t62)) (
 idxI t61_p t63 t61_n fun a17=>
 ldInt .i64 h16 (a17.add (t63.toNat*1)) fun n18=>
 ifB (decide (n18<0)) (
 Q (.int .i64 1) h16) (
 ifB (decide (n18>y3)) (
 Q (.int .i64 1) h16) (
 K2 (y3,(t54_p,t54_n,t54_c),t55,t56,(t61_p,t61_n,t61_c),t62,(IntKind.wrap .i64 (t63+1)),()) h16))) (
 K1 (y3,(t54_p,t54_n,t54_c),t55,(IntKind.wrap .i64 (t56+1)),()) h16)
def graph_may_l7 (Q:VH) (K1:(Int×S3×Int×Int×Unit)→Heap→Prop) (y3:Int) (t54_p:OA) (t54_n t54_c:Nat) (t55 t56:Int) (h9:Heap):Prop:=
 ifB (decide (t56<t55)) (
 idxI t54_p t56 t54_n fun a10=>
 ldAg A1 h9 (a10.add (t56.toNat*15)) fun x11=>
 newI h9 (.cells (mkS' A1 (zT A1)).toArray 62 (0,0)) fun b12 h13=>
 storeL (mkS' A1 x11) h13 ⟨b12,0,none⟩ 0 fun h14=>
 ldSlice h14 ⟨b12,1,none⟩ fun p15 l15 c15=>
 LoopS (S:=Y2) (fun K2 s h=>graph_may_l10 Q K1 K2 s.1 s.2.1.1 s.2.1.2.1 s.2.1.2.2 s.2.2.1 s.2.2.2.1 s.2.2.2.2.1.1 s.2.2.2.2.1.2.1 s.2.2.2.2.1.2.2 s.2.2.2.2.2.1 s.2.2.2.2.2.2.1 h) (y3,(t54_p,t54_n,t54_c),t55,t56,(p15,l15,c15),(l15:Int),(0:Int),()) h14) (
 Q (.int .i64 0) h9)
def graph_may_j6 (Q:VH) (y1:Addr) (y3:Int) (h7:Heap):Prop:=
 ldSlice h7 (y1.add 3) fun p8 l8 c8=>
 LoopS (S:=(Int×S3×Int×Int×Unit)) (fun K1 s h=>graph_may_l7 Q K1 s.1 s.2.1.1 s.2.1.2.1 s.2.1.2.2 s.2.2.1 s.2.2.2.1 h) (y3,(p8,l8,c8),(l8:Int),(0:Int),()) h7
def graph_may_j4 (Q:VH) (y1:Addr) (y3:Int) (h5:Heap):Prop:=
 ∃J6:(Addr×Int×Unit)→Heap→Prop,(∀s h,J6 s h→graph_may_j6 Q s.1 s.2.1 h)∧
 ldInt .i64 h5 y1 fun n19=>
 ifB (decide (n19<1)) (
 Q (.int .i64 1) h5) (
 ldInt .i64 h5 y1 fun n20=>
 ifB (decide (n20>16)) (
 Q (.int .i64 1) h5) (
 ldInt .i64 h5 (y1.add 1) fun n21=>
 ldInt .i64 h5 (y1.add 2) fun n22=>
 ifB (decide (n21>n22)) (
 Q (.int .i64 1) h5) (
 ldInt .i64 h5 (y1.add 1) fun n23=>
 ifB (decide (n23<(-32768:Int))) (
 Q (.int .i64 1) h5) (
 ldInt .i64 h5 (y1.add 2) fun n24=>
 ifB (decide (n24>32767)) (
 Q (.int .i64 1) h5) (
 ldInt .i64 h5 (y1.add 4) fun n25=>
 ifB (decide (n25<1)) (
 Q (.int .i64 1) h5) (
 ldInt .i64 h5 (y1.add 4) fun n26=>
 ifB (decide (n26>y3)) (
 Q (.int .i64 1) h5) (
 J6 (y1,y3,()) h5)))))))
def graph_may (y0:TS A2) (h:Heap) (Q:VH):Prop:=
 newI h (.cells (mkS' A2 y0).toArray 32 (0,0)) fun b1 h2=>
 ldSlice h2 ⟨b1,3,none⟩ fun p3 l3 c3=>
 ∃J4:(Addr×Int×Unit)→Heap→Prop,(∀s h,J4 s h→graph_may_j4 Q s.1 s.2.1 h)∧
 ifB (decide ((l3:Int)<1)) (
 Q (.int .i64 22) h2) (
 ifB (decide ((l3:Int)>12)) (
 Q (.int .i64 22) h2) (
 J4 (⟨b1,0,none⟩,(l3:Int),()) h2))
noncomputable def tab_graph_may:Tab:=tb (lookT .done []) (lookT [] [(7,[(3,I6),(54,SL),(55,I6),(56,I6)]),(10,[(3,I6),(54,SL),(55,I6),(56,I6),(61,SL),(62,I6),(63,I6)])]) (lookT none [(4,some [(1,.sc (.adr)),(3,I6)]),(6,some [(1,.sc (.adr)),(3,I6)])])
theorem call_graph_may (y0:TS A2) {h:Heap} {Q:VH} (H:graph_may y0 h Q):callP P n_graph_may #[(agS A2 y0)] h Q:=
 @callP_of P n_graph_may Tryz.f136 tab_graph_may [(agS A2 y0)] h Q mixed Tryz.func136 Tryz.call136 (by kernel_rfl) (Eq.mpr (by kernel_rfl) H)
def graph_ordered_1 (y0:Int) (free0:Addr) (h:Heap) (Q:VH):Prop:=
 ldMap h free0 fun m1=>
 lookB .i64 (.int .i64 0) m1 y0 h fun v3 b4=>
 ∃n5:Int,∃b6:Bool,(Value.tuple #[v3,.bool b4])=(.tuple #[(.int .i64 n5),(.bool b6)])∧
 Q (.bool (!b6)) h
noncomputable def tab_graph_ordered_1:Tab:=tb (lookT .done []) (lookT [] []) (lookT none [])
theorem call_graph_ordered_1 (y0:Int) (free0:Addr) {h:Heap} {Q:VH} (H:graph_ordered_1 y0 free0 h Q):callP P n_graph_ordered_1 #[(.int .i64 y0),(.pointer (some free0))] h Q:=
 @callP_of P n_graph_ordered_1 Tryz.f190 tab_graph_ordered_1 [(.int .i64 y0),(.pointer (some free0))] h Q mixed Tryz.func190 Tryz.call190 (by kernel_rfl) (Eq.mpr (by kernel_rfl) H)
def slices_IndexFunc_int_int_at_graph_ordered_1_l2 (Q:VH) (K1:YH Y43) (y0p:OA) (y0n y0c:Nat) (f_1_c0:Addr) (t7 t8:Int) (h1:Heap):Prop:=
 ifB (decide (t8<t7)) (
 idxI y0p t8 y0n fun a2=>
 ldInt .i64 h1 (a2.add (t8.toNat*1)) fun n3=>
 callBool P n_graph_ordered_1 #[(.int .i64 n3),(.pointer (some f_1_c0))] h1 fun b5 h4=>
 ifB b5 (
 Q (.int .i64 t8) h4) (
 K1 ((y0p,y0n,y0c),((()),(f_1_c0,())),t7,(IntKind.wrap .i64 (t8+1)),()) h4)) (
 Q (.int .i64 (-1:Int)) h1)
def slices_IndexFunc_int_int_at_graph_ordered_1 (y0p:OA) (y0n y0c:Nat) (f_1_c0:Addr) (h:Heap) (Q:VH):Prop:=
 LoopS (S:=Y43) (fun K1 s h=>slices_IndexFunc_int_int_at_graph_ordered_1_l2 Q K1 s.1.1 s.1.2.1 s.1.2.2 s.2.1.2.1 s.2.2.1 s.2.2.2.1 h) ((y0p,y0n,y0c),((()),(f_1_c0,())),(y0n:Int),(0:Int),()) h
noncomputable def tab_slices_IndexFunc_int_int_at_graph_ordered_1:Tab:=tb (lookT .done []) (lookT [] [(2,[(0,SL),(1,.fn 190 [] [.adr]),(7,I6),(8,I6)])]) (lookT none [])
theorem call_slices_IndexFunc_int_int_at_graph_ordered_1 (y0p:OA) (y0n y0c:Nat) (f_1_c0:Addr) {h:Heap} {Q:VH} (H:slices_IndexFunc_int_int_at_graph_ordered_1 y0p y0n y0c f_1_c0 h Q):callP P n_slices_IndexFunc_int_int #[(.slice y0p y0n y0c),(.func (.func n_graph_ordered_1) #[] #[(.pointer (some f_1_c0))])] h Q:=
 @callP_of P n_slices_IndexFunc_int_int Tryz.f169 tab_slices_IndexFunc_int_int_at_graph_ordered_1 [(.slice y0p y0n y0c),(.func (.func n_graph_ordered_1) #[] #[(.pointer (some f_1_c0))])] h Q mixed Tryz.func169 Tryz.call169 (by kernel_rfl) (Eq.mpr (by kernel_rfl) H)
def slices_IndexFunc_int_int_at_graph_rate_1_l2 (Q:VH) (K1:YH Y43) (y0p:OA) (y0n y0c:Nat) (f_1_c0:Addr) (t7 t8:Int) (h1:Heap):Prop:=
 ifB (decide (t8<t7)) (
 idxI y0p t8 y0n fun a2=>
 ldInt .i64 h1 (a2.add (t8.toNat*1)) fun n3=>
 callBool P n_graph_rate_1 #[(.int .i64 n3),(.pointer (some f_1_c0))] h1 fun b5 h4=>
 ifB b5 (
 Q (.int .i64 t8) h4) (
 K1 ((y0p,y0n,y0c),((()),(f_1_c0,())),t7,(IntKind.wrap .i64 (t8+1)),()) h4)) (
 Q (.int .i64 (-1:Int)) h1)
def slices_IndexFunc_int_int_at_graph_rate_1 (y0p:OA) (y0n y0c:Nat) (f_1_c0:Addr) (h:Heap) (Q:VH):Prop:=
 LoopS (S:=Y43) (fun K1 s h=>slices_IndexFunc_int_int_at_graph_rate_1_l2 Q K1 s.1.1 s.1.2.1 s.1.2.2 s.2.1.2.1 s.2.2.1 s.2.2.2.1 h) ((y0p,y0n,y0c),((()),(f_1_c0,())),(y0n:Int),(0:Int),()) h
noncomputable def tab_slices_IndexFunc_int_int_at_graph_rate_1:Tab:=tb (lookT .done []) (lookT [] [(2,[(0,SL),(1,.fn 195 [] [.adr]),(7,I6),(8,I6)])]) (lookT none [])
theorem call_slices_IndexFunc_int_int_at_graph_rate_1 (y0p:OA) (y0n y0c:Nat) (f_1_c0:Addr) {h:Heap} {Q:VH} (H:slices_IndexFunc_int_int_at_graph_rate_1 y0p y0n y0c f_1_c0 h Q):callP P n_slices_IndexFunc_int_int #[(.slice y0p y0n y0c),(.func (.func n_graph_rate_1) #[] #[(.pointer (some f_1_c0))])] h Q:=
 @callP_of P n_slices_IndexFunc_int_int Tryz.f169 tab_slices_IndexFunc_int_int_at_graph_rate_1 [(.slice y0p y0n y0c),(.func (.func n_graph_rate_1) #[] #[(.pointer (some f_1_c0))])] h Q mixed Tryz.func169 Tryz.call169 (by kernel_rfl) (Eq.mpr (by kernel_rfl) H)
def slices_ContainsFunc_int_int_at_graph_ordered_1 (y0p:OA) (y0n y0c:Nat) (f_1_c0:Addr) (h:Heap) (Q:VH):Prop:=
 callInt P .i64 n_slices_IndexFunc_int_int #[(.slice y0p y0n y0c),(.func (.func n_graph_ordered_1) #[] #[(.pointer (some f_1_c0))])] h fun n2 h1=>
 Q (.bool (decide (n2≥0))) h1
noncomputable def tab_slices_ContainsFunc_int_int_at_graph_ordered_1:Tab:=tb (lookT .done []) (lookT [] []) (lookT none [])
theorem call_slices_ContainsFunc_int_int_at_graph_ordered_1 (y0p:OA) (y0n y0c:Nat) (f_1_c0:Addr) {h:Heap} {Q:VH} (H:slices_ContainsFunc_int_int_at_graph_ordered_1 y0p y0n y0c f_1_c0 h Q):callP P n_slices_ContainsFunc_int_int #[(.slice y0p y0n y0c),(.func (.func n_graph_ordered_1) #[] #[(.pointer (some f_1_c0))])] h Q:=
 @callP_of P n_slices_ContainsFunc_int_int Tryz.f103 tab_slices_ContainsFunc_int_int_at_graph_ordered_1 [(.slice y0p y0n y0c),(.func (.func n_graph_ordered_1) #[] #[(.pointer (some f_1_c0))])] h Q mixed Tryz.func103 Tryz.call103 (by kernel_rfl) (Eq.mpr (by kernel_rfl) H)
def slices_ContainsFunc_int_int_at_graph_rate_1 (y0p:OA) (y0n y0c:Nat) (f_1_c0:Addr) (h:Heap) (Q:VH):Prop:=
 callInt P .i64 n_slices_IndexFunc_int_int #[(.slice y0p y0n y0c),(.func (.func n_graph_rate_1) #[] #[(.pointer (some f_1_c0))])] h fun n2 h1=>
 Q (.bool (decide (n2≥0))) h1
noncomputable def tab_slices_ContainsFunc_int_int_at_graph_rate_1:Tab:=tb (lookT .done []) (lookT [] []) (lookT none [])
theorem call_slices_ContainsFunc_int_int_at_graph_rate_1 (y0p:OA) (y0n y0c:Nat) (f_1_c0:Addr) {h:Heap} {Q:VH} (H:slices_ContainsFunc_int_int_at_graph_rate_1 y0p y0n y0c f_1_c0 h Q):callP P n_slices_ContainsFunc_int_int #[(.slice y0p y0n y0c),(.func (.func n_graph_rate_1) #[] #[(.pointer (some f_1_c0))])] h Q:=
 @callP_of P n_slices_ContainsFunc_int_int Tryz.f103 tab_slices_ContainsFunc_int_int_at_graph_rate_1 [(.slice y0p y0n y0c),(.func (.func n_graph_rate_1) #[] #[(.pointer (some f_1_c0))])] h Q mixed Tryz.func103 Tryz.call103 (by kernel_rfl) (Eq.mpr (by kernel_rfl) H)
def graph_ordered_l6 (Q:VH) (K1:YH Y3) (K2:YH Y4) (y0p:OA) (y0n y0c:Nat) (y4:Addr) (y5p:OA) (y5n y5c:Nat) (t13 t14:Int) (t16_p:OA) (t16_n t16_c:Nat) (t17 t18:Int) (h8:Heap):Prop:=
 ifB (decide (t18<t17)) (
 idxI t16_p t18 t16_n fun a9=>
 ldAg A1 h8 (a9.add (t18.toNat*15)) fun x10=>
 newI h8 (.cells (mkS' A1 (zT A1)).toArray 62 (0,0)) fun b11 h12=>
 storeL (mkS' A1 x10) h12 ⟨b11,0,none⟩ 0 fun h13=>
 ldMap h13 y4 fun m14=>
 lookB .i64 (.int .i64 0) m14 (IntKind.wrap .i64 (t18+1)) h13 fun v16 b17=>
 ∃n18:Int,∃b19:Bool,(Value.tuple #[v16,.bool b17])=(.tuple #[(.int .i64 n18),(.bool b19)])∧
 ifB b19 (
 K2 ((y0p,y0n,y0c),y4,(y5p,y5n,y5c),t13,t14,(t16_p,t16_n,t16_c),t17,(IntKind.wrap .i64 (t18+1)),()) h13) (
 ldSlice h13 ⟨b11,1,none⟩ fun p20 l20 c20=>
 callBool P n_slices_ContainsFunc_int_int #[(.slice p20 l20 c20),(.func (.func n_graph_ordered_1) #[] #[(.pointer (some y4))])] h13 fun b22 h21=>
 ifB b22 (
 K2 ((y0p,y0n,y0c),y4,(y5p,y5n,y5c),t13,t14,(t16_p,t16_n,t16_c),t17,(IntKind.wrap .i64 (t18+1)),()) h21) (
 ldMap h21 y4 fun m23=>
 updB .i64 m23 (IntKind.wrap .i64 (t18+1)) (.int .i64 (y5n:Int)) h21 fun h24=>
 newI h24 (.cells #[(.int .i64 (IntKind.wrap .i64 (t18+1)))] 3 (0,0)) fun b25 h26=>
 appI 3 1 8 (.int .i64 0) y5p y5n y5c (some ⟨b25,0,none⟩) 1 h26 fun p27 l27 c27 h28=>
 K1 ((y0p,y0n,y0c),y4,(p27,l27,c27),t13,(IntKind.wrap .i64 (t14+1)),()) h28))) (
 K1 ((y0p,y0n,y0c),y4,(y5p,y5n,y5c),t13,(IntKind.wrap .i64 (t14+1)),()) h8)
def graph_ordered_l4 (Q:VH) (K1:YH Y3) (y0p:OA) (y0n y0c:Nat) (y4:Addr) (y5p:OA) (y5n y5c:Nat) (t13 t14:Int) (h7:Heap):Prop:=
 ifB (decide (t14<t13)) (
 LoopS (S:=Y4) (fun K2 s h=>graph_ordered_l6 Q K1 K2 s.1.1 s.1.2.1 s.1.2.2 s.2.1 s.2.2.1.1 s.2.2.1.2.1 s.2.2.1.2.2 s.2.2.2.1 s.2.2.2.2.1 s.2.2.2.2.2.1.1 s.2.2.2.2.2.1.2.1 s.2.2.2.2.2.1.2.2 s.2.2.2.2.2.2.1 s.2.2.2.2.2.2.2.1 h) ((y0p,y0n,y0c),y4,(y5p,y5n,y5c),t13,t14,(y0p,y0n,y0c),(y0n:Int),(0:Int),()) h7) (
 Q (.tuple #[(.slice y5p y5n y5c),(.bool ((y5n:Int)==(y0n:Int)))]) h7)
def graph_ordered (y0p:OA) (y0n y0c:Nat) (h:Heap) (Q:VH):Prop:=
 newI h (.map #[] 0) fun r2 h1=>
 updB .i64 (some r2) 0 (.int .i64 0) h1 fun h3=>
 newI h3 (.cells #[(.map none)] 125 (0,0)) fun b4 h5=>
 stI h5 ⟨b4,0,none⟩ (.map (some r2)) fun h6=>
 LoopS (S:=Y3) (fun K1 s h=>graph_ordered_l4 Q K1 s.1.1 s.1.2.1 s.1.2.2 s.2.1 s.2.2.1.1 s.2.2.1.2.1 s.2.2.1.2.2 s.2.2.2.1 s.2.2.2.2.1 h) ((y0p,y0n,y0c),⟨b4,0,none⟩,(none,0,0),(y0n:Int),(0:Int),()) h6
noncomputable def tab_graph_ordered:Tab:=tb (lookT .done []) (lookT [] [(4,[(0,SL),(4,.sc (.adr)),(5,SL),(13,I6),(14,I6)]),(6,[(0,SL),(4,.sc (.adr)),(5,SL),(13,I6),(14,I6),(16,SL),(17,I6),(18,I6)])]) (lookT none [])
theorem call_graph_ordered (y0p:OA) (y0n y0c:Nat) {h:Heap} {Q:VH} (H:graph_ordered y0p y0n y0c h Q):callP P n_graph_ordered #[(.slice y0p y0n y0c)] h Q:=
 @callP_of P n_graph_ordered Tryz.f137 tab_graph_ordered [(.slice y0p y0n y0c)] h Q mixed Tryz.func137 Tryz.call137 (by kernel_rfl) (Eq.mpr (by kernel_rfl) H)
def graph_pick_l3 (Q:VH) (K1:YH Y5) (y0p:OA) (y0n y0c:Nat) (y5p:OA) (y5n y5c:Nat) (t11_p:OA) (t11_n t11_c:Nat) (t12 t13:Int) (h3:Heap):Prop:=
 ifB (decide (t13<t12)) (
 idxI t11_p t13 t11_n fun a4=>
 ldInt .i64 h3 (a4.add (t13.toNat*1)) fun n5=>
 idxI y0p n5 y0n fun a6=>
 ldInt .i64 h3 (a6.add (n5.toNat*1)) fun n7=>
 idxI y5p t13 y5n fun a8=>
 stI h3 (a8.add (t13.toNat*1)) (.int .i64 n7) fun h9=>
 K1 ((y0p,y0n,y0c),(y5p,y5n,y5c),(t11_p,t11_n,t11_c),t12,(IntKind.wrap .i64 (t13+1)),()) h9) (
 Q (.slice y5p y5n y5c) h3)
def graph_pick (y0p:OA) (y0n y0c:Nat) (y1p:OA) (y1n y1c:Nat) (h:Heap) (Q:VH):Prop:=
 mkI 3 1 8 (.int .i64 0) (y1n:Int) (y1n:Int) h fun b1 h2=>
 LoopS (S:=Y5) (fun K1 s h=>graph_pick_l3 Q K1 s.1.1 s.1.2.1 s.1.2.2 s.2.1.1 s.2.1.2.1 s.2.1.2.2 s.2.2.1.1 s.2.2.1.2.1 s.2.2.1.2.2 s.2.2.2.1 s.2.2.2.2.1 h) ((y0p,y0n,y0c),(some ⟨b1,0,none⟩,(y1n:Int).toNat,(y1n:Int).toNat),(y1p,y1n,y1c),(y1n:Int),(0:Int),()) h2
noncomputable def tab_graph_pick:Tab:=tb (lookT .done []) (lookT [] [(3,[(0,SL),(5,SL),(11,SL),(12,I6),(13,I6)])]) (lookT none [])
theorem call_graph_pick (y0p:OA) (y0n y0c:Nat) (y1p:OA) (y1n y1c:Nat) {h:Heap} {Q:VH} (H:graph_pick y0p y0n y0c y1p y1n y1c h Q):callP P n_graph_pick #[(.slice y0p y0n y0c),(.slice y1p y1n y1c)] h Q:=
 @callP_of P n_graph_pick Tryz.f138 tab_graph_pick [(.slice y0p y0n y0c),(.slice y1p y1n y1c)] h Q mixed Tryz.func138 Tryz.call138 (by kernel_rfl) (Eq.mpr (by kernel_rfl) H)
def kind_in (y0 y1 y2:Int) (h:Heap) (Q:VH):Prop:=
 ifB (decide (y0≥y1)) (
 Q (.bool (decide (y0≤y2))) h) (
 Q (.bool false) h)
noncomputable def tab_kind_in:Tab:=tb (lookT .done []) (lookT [] []) (lookT none [])
theorem call_kind_in (y0 y1 y2:Int) {h:Heap} {Q:VH} (H:kind_in y0 y1 y2 h Q):callP P n_kind_in #[(.int .i64 y0),(.int .i64 y1),(.int .i64 y2)] h Q:=
 @callP_of P n_kind_in Tryz.f192 tab_kind_in [(.int .i64 y0),(.int .i64 y1),(.int .i64 y2)] h Q mixed Tryz.func192 Tryz.call192 (by kernel_rfl) (Eq.mpr (by kernel_rfl) H)
def kind_every_l2 (Q:VH) (K1:(Int×Int×S3×Int×Int×Unit)→Heap→Prop) (y1 y2:Int) (t9_p:OA) (t9_n t9_c:Nat) (t10 t11:Int) (h1:Heap):Prop:=
 ifB (decide (t11<t10)) (
 idxI t9_p t11 t9_n fun a2=>
 ldInt .i64 h1 (a2.add (t11.toNat*1)) fun n3=>
 callBool P n_kind_in #[(.int .i64 n3),(.int .i64 y1),(.int .i64 y2)] h1 fun b5 h4=>
 ifB (!b5) (
 Q (.bool false) h4) (
 K1 (y1,y2,(t9_p,t9_n,t9_c),t10,(IntKind.wrap .i64 (t11+1)),()) h4)) (
 Q (.bool true) h1)
def kind_every (y0p:OA) (y0n y0c:Nat) (y1 y2:Int) (h:Heap) (Q:VH):Prop:=
 LoopS (S:=(Int×Int×S3×Int×Int×Unit)) (fun K1 s h=>kind_every_l2 Q K1 s.1 s.2.1 s.2.2.1.1 s.2.2.1.2.1 s.2.2.1.2.2 s.2.2.2.1 s.2.2.2.2.1 h) (y1,y2,(y0p,y0n,y0c),(y0n:Int),(0:Int),()) h
noncomputable def tab_kind_every:Tab:=tb (lookT .done []) (lookT [] [(2,[(1,I6),(2,I6),(9,SL),(10,I6),(11,I6)])]) (lookT none [])
theorem call_kind_every (y0p:OA) (y0n y0c:Nat) (y1 y2:Int) {h:Heap} {Q:VH} (H:kind_every y0p y0n y0c y1 y2 h Q):callP P n_kind_every #[(.slice y0p y0n y0c),(.int .i64 y1),(.int .i64 y2)] h Q:=
 @callP_of P n_kind_every Tryz.f191 tab_kind_every [(.slice y0p y0n y0c),(.int .i64 y1),(.int .i64 y2)] h Q mixed Tryz.func191 Tryz.call191 (by kernel_rfl) (Eq.mpr (by kernel_rfl) H)
def kind_has (y0:TS A1) (y1:Int) (h:Heap) (Q:VH):Prop:=
 newI h (.cells (mkS' A1 y0).toArray 62 (0,0)) fun b1 h2=>
 ldInt .i64 h2 ⟨b1,0,none⟩ fun n3=>
 ifB (decide (n3<1)) (
 Q (.bool false) h2) (
 ldInt .i64 h2 ⟨b1,0,none⟩ fun n4=>
 ifB (decide (n4≥13)) (
 Q (.bool false) h2) (
 ldInt .i64 h2 ⟨b1,0,none⟩ fun n5=>
 arrI n5 13 fun _=>
 ldInt .i64 h2 (Addr.add ⟨0,0,none⟩ (n5.toNat*1)) fun n6=>
 ldInt .i64 h2 ⟨b1,14,none⟩ fun n7=>
 ifB ((andI .i64 n7 1) !=0) (
 ldInt .i64 h2 ⟨b1,14,none⟩ fun n8=>
 ifB ((andI .i64 n8 2) !=0) (
 Q (.bool ((andI .i64 (orI .i64 (orI .i64 n6 64) 32) y1) !=0)) h2) (
 Q (.bool ((andI .i64 (orI .i64 n6 64) y1) !=0)) h2)) (
 ldInt .i64 h2 ⟨b1,14,none⟩ fun n9=>
 ifB ((andI .i64 n9 2) !=0) (
 Q (.bool ((andI .i64 (orI .i64 n6 32) y1) !=0)) h2) (
 Q (.bool ((andI .i64 n6 y1) !=0)) h2))))
noncomputable def tab_kind_has:Tab:=tb (lookT .done []) (lookT [] []) (lookT none [])
theorem call_kind_has (y0:TS A1) (y1:Int) {h:Heap} {Q:VH} (H:kind_has y0 y1 h Q):callP P n_kind_has #[(agS A1 y0),(.int .i64 y1)] h Q:=
 @callP_of P n_kind_has Tryz.f179 tab_kind_has [(agS A1 y0),(.int .i64 y1)] h Q mixed Tryz.func179 Tryz.call179 (by kernel_rfl) (Eq.mpr (by kernel_rfl) H)
def kind_bare_l2 (Q:VH) (K1:(Addr×TS A3×Int×Unit)→Heap→Prop) (y1:Addr) (t61:TS A3) (t62:Int) (h5:Heap):Prop:=
 ifB (decide (t62<6)) (
 arrI t62 6 fun _=> ∃n6:Int,∃b7:Bool,Array.extract (#[(.int .i64 t61.1),(.bool t61.2.1),(.int .i64 t61.2.2.1),(.bool t61.2.2.2.1),(.int .i64 t61.2.2.2.2.1),(.bool t61.2.2.2.2.2.1),(.int .i64 t61.2.2.2.2.2.2.1),(.bool t61.2.2.2.2.2.2.2.1),(.int .i64 t61.2.2.2.2.2.2.2.2.1),(.bool t61.2.2.2.2.2.2.2.2.2.1),(.int .i64 t61.2.2.2.2.2.2.2.2.2.2.1),(.bool t61.2.2.2.2.2.2.2.2.2.2.2.1)]:Array Value) (t62.toNat*2) (t62.toNat*2+2)=(#[(.int .i64 n6),(.bool b7)]:Array Value)∧
 newI h5 (.cells #[(.int .i64 0),(.bool false)] 243 (0,0)) fun b8 h9=>
 stI h9 ⟨b8,0,none⟩ (.int .i64 n6) fun h10=>
 stI h10 ⟨b8,1,none⟩ (.bool b7) fun h11=>
 ldBool h11 ⟨b8,1,none⟩ fun b12=>
 ifB b12 (
 ldAg A1 h11 y1 fun x13=>
 ldInt .i64 h11 ⟨b8,0,none⟩ fun n14=>
 callBool P n_kind_has #[(agS A1 x13),(.int .i64 n14)] h11 fun b16 h15=>
 ifB (!b16) (
 Q (.bool false) h15) (
 K1 (y1,t61,(IntKind.wrap .i64 (t62+1)),()) h15)) (
 K1 (y1,t61,(IntKind.wrap .i64 (t62+1)),()) h11)) (
 Q (.bool true) h5)
def kind_bare_j2 (Q:VH) (y1:Addr) (t61:TS A3) (t62:Int) (h4:Heap):Prop:=
 LoopS (S:=(Addr×TS A3×Int×Unit)) (fun K1 s h=>kind_bare_l2 Q K1 s.1 s.2.1 s.2.2.1 h) (y1,t61,t62,()) h4
def kind_bare (y0:TS A1) (h:Heap) (Q:VH):Prop:=
 newI h (.cells (mkS' A1 y0).toArray 62 (0,0)) fun b1 h2=>
 ∃J3:(Addr×TS A3×Int×Unit)→Heap→Prop,(∀s h,J3 s h→kind_bare_j2 Q s.1 s.2.1 s.2.2.1 h)∧
 ldInt .i64 h2 ⟨b1,4,none⟩ fun n17=>
 ifB (n17 !=0) (
 ldInt .i64 h2 ⟨b1,3,none⟩ fun n18=>
 ldInt .i64 h2 ⟨b1,2,none⟩ fun n19=>
 ldSlice h2 ⟨b1,8,none⟩ fun p20 l20 c20=>
 ifB (decide ((l20:Int)>0)) (
 ldInt .i64 h2 ⟨b1,12,none⟩ fun n21=>
 ifB (n21 !=0) (
 ldInt .i64 h2 ⟨b1,10,none⟩ fun n22=>
 ifB (n22 !=0) (
 J3 (⟨b1,0,none⟩,((1:Int),true,(17:Int),(n18 !=0),(2:Int),(n19 !=0),(4:Int),true,(32:Int),true,(64:Int),true,()),(0:Int),()) h2) (
 ldInt .i64 h2 ⟨b1,11,none⟩ fun n23=>
 J3 (⟨b1,0,none⟩,((1:Int),true,(17:Int),(n18 !=0),(2:Int),(n19 !=0),(4:Int),true,(32:Int),true,(64:Int),(n23 !=0),()),(0:Int),()) h2)) (
 ldInt .i64 h2 ⟨b1,13,none⟩ fun n24=>
 ldInt .i64 h2 ⟨b1,10,none⟩ fun n25=>
 ifB (n25 !=0) (
 J3 (⟨b1,0,none⟩,((1:Int),true,(17:Int),(n18 !=0),(2:Int),(n19 !=0),(4:Int),true,(32:Int),(n24 !=0),(64:Int),true,()),(0:Int),()) h2) (
 ldInt .i64 h2 ⟨b1,11,none⟩ fun n26=>
 J3 (⟨b1,0,none⟩,((1:Int),true,(17:Int),(n18 !=0),(2:Int),(n19 !=0),(4:Int),true,(32:Int),(n24 !=0),(64:Int),(n26 !=0),()),(0:Int),()) h2))) (
 ldSlice h2 ⟨b1,9,none⟩ fun p27 l27 c27=>
 ldInt .i64 h2 ⟨b1,12,none⟩ fun n28=>
 ifB (n28 !=0) (
 ldInt .i64 h2 ⟨b1,10,none⟩ fun n29=>
 ifB (n29 !=0) (
 J3 (⟨b1,0,none⟩,((1:Int),true,(17:Int),(n18 !=0),(2:Int),(n19 !=0),(4:Int),(decide ((l27:Int)>0)),(32:Int),true,(64:Int),true,()),(0:Int),()) h2) (
 ldInt .i64 h2 ⟨b1,11,none⟩ fun n30=>
 J3 (⟨b1,0,none⟩,((1:Int),true,(17:Int),(n18 !=0),(2:Int),(n19 !=0),(4:Int),(decide ((l27:Int)>0)),(32:Int),true,(64:Int),(n30 !=0),()),(0:Int),()) h2)) (
 ldInt .i64 h2 ⟨b1,13,none⟩ fun n31=>
 ldInt .i64 h2 ⟨b1,10,none⟩ fun n32=>
 ifB (n32 !=0) (
 J3 (⟨b1,0,none⟩,((1:Int),true,(17:Int),(n18 !=0),(2:Int),(n19 !=0),(4:Int),(decide ((l27:Int)>0)),(32:Int),(n31 !=0),(64:Int),true,()),(0:Int),()) h2) (
 ldInt .i64 h2 ⟨b1,11,none⟩ fun n33=>
 J3 (⟨b1,0,none⟩,((1:Int),true,(17:Int),(n18 !=0),(2:Int),(n19 !=0),(4:Int),(decide ((l27:Int)>0)),(32:Int),(n31 !=0),(64:Int),(n33 !=0),()),(0:Int),()) h2)))) (
 ldInt .i64 h2 ⟨b1,5,none⟩ fun n34=>
 ifB (n34 !=0) (
 ldInt .i64 h2 ⟨b1,3,none⟩ fun n35=>
 ldInt .i64 h2 ⟨b1,2,none⟩ fun n36=>
 ldSlice h2 ⟨b1,8,none⟩ fun p37 l37 c37=>
 ifB (decide ((l37:Int)>0)) (
 ldInt .i64 h2 ⟨b1,12,none⟩ fun n38=>
 ifB (n38 !=0) (
 ldInt .i64 h2 ⟨b1,10,none⟩ fun n39=>
 ifB (n39 !=0) (
 J3 (⟨b1,0,none⟩,((1:Int),true,(17:Int),(n35 !=0),(2:Int),(n36 !=0),(4:Int),true,(32:Int),true,(64:Int),true,()),(0:Int),()) h2) (
 ldInt .i64 h2 ⟨b1,11,none⟩ fun n40=>
 J3 (⟨b1,0,none⟩,((1:Int),true,(17:Int),(n35 !=0),(2:Int),(n36 !=0),(4:Int),true,(32:Int),true,(64:Int),(n40 !=0),()),(0:Int),()) h2)) (
 ldInt .i64 h2 ⟨b1,13,none⟩ fun n41=>
 ldInt .i64 h2 ⟨b1,10,none⟩ fun n42=>
 ifB (n42 !=0) (
 J3 (⟨b1,0,none⟩,((1:Int),true,(17:Int),(n35 !=0),(2:Int),(n36 !=0),(4:Int),true,(32:Int),(n41 !=0),(64:Int),true,()),(0:Int),()) h2) (
 ldInt .i64 h2 ⟨b1,11,none⟩ fun n43=>
 J3 (⟨b1,0,none⟩,((1:Int),true,(17:Int),(n35 !=0),(2:Int),(n36 !=0),(4:Int),true,(32:Int),(n41 !=0),(64:Int),(n43 !=0),()),(0:Int),()) h2))) (
 ldSlice h2 ⟨b1,9,none⟩ fun p44 l44 c44=>
 ldInt .i64 h2 ⟨b1,12,none⟩ fun n45=>
 ifB (n45 !=0) (
 ldInt .i64 h2 ⟨b1,10,none⟩ fun n46=>
 ifB (n46 !=0) (
 J3 (⟨b1,0,none⟩,((1:Int),true,(17:Int),(n35 !=0),(2:Int),(n36 !=0),(4:Int),(decide ((l44:Int)>0)),(32:Int),true,(64:Int),true,()),(0:Int),()) h2) (
 ldInt .i64 h2 ⟨b1,11,none⟩ fun n47=>
 J3 (⟨b1,0,none⟩,((1:Int),true,(17:Int),(n35 !=0),(2:Int),(n36 !=0),(4:Int),(decide ((l44:Int)>0)),(32:Int),true,(64:Int),(n47 !=0),()),(0:Int),()) h2)) (
 ldInt .i64 h2 ⟨b1,13,none⟩ fun n48=>
 ldInt .i64 h2 ⟨b1,10,none⟩ fun n49=>
 ifB (n49 !=0) (
 J3 (⟨b1,0,none⟩,((1:Int),true,(17:Int),(n35 !=0),(2:Int),(n36 !=0),(4:Int),(decide ((l44:Int)>0)),(32:Int),(n48 !=0),(64:Int),true,()),(0:Int),()) h2) (
 ldInt .i64 h2 ⟨b1,11,none⟩ fun n50=>
 J3 (⟨b1,0,none⟩,((1:Int),true,(17:Int),(n35 !=0),(2:Int),(n36 !=0),(4:Int),(decide ((l44:Int)>0)),(32:Int),(n48 !=0),(64:Int),(n50 !=0),()),(0:Int),()) h2)))) (
 ldInt .i64 h2 ⟨b1,6,none⟩ fun n51=>
 ifB (n51 !=0) (
 ldInt .i64 h2 ⟨b1,3,none⟩ fun n52=>
 ldInt .i64 h2 ⟨b1,2,none⟩ fun n53=>
 ldSlice h2 ⟨b1,8,none⟩ fun p54 l54 c54=>
 ifB (decide ((l54:Int)>0)) (
 ldInt .i64 h2 ⟨b1,12,none⟩ fun n55=>
 ifB (n55 !=0) (
 ldInt .i64 h2 ⟨b1,10,none⟩ fun n56=>
 ifB (n56 !=0) (
 J3 (⟨b1,0,none⟩,((1:Int),true,(17:Int),(n52 !=0),(2:Int),(n53 !=0),(4:Int),true,(32:Int),true,(64:Int),true,()),(0:Int),()) h2) (
 ldInt .i64 h2 ⟨b1,11,none⟩ fun n57=>
 J3 (⟨b1,0,none⟩,((1:Int),true,(17:Int),(n52 !=0),(2:Int),(n53 !=0),(4:Int),true,(32:Int),true,(64:Int),(n57 !=0),()),(0:Int),()) h2)) (
 ldInt .i64 h2 ⟨b1,13,none⟩ fun n58=>
 ldInt .i64 h2 ⟨b1,10,none⟩ fun n59=>
 ifB (n59 !=0) (
 J3 (⟨b1,0,none⟩,((1:Int),true,(17:Int),(n52 !=0),(2:Int),(n53 !=0),(4:Int),true,(32:Int),(n58 !=0),(64:Int),true,()),(0:Int),()) h2) (
 ldInt .i64 h2 ⟨b1,11,none⟩ fun n60=>
 J3 (⟨b1,0,none⟩,((1:Int),true,(17:Int),(n52 !=0),(2:Int),(n53 !=0),(4:Int),true,(32:Int),(n58 !=0),(64:Int),(n60 !=0),()),(0:Int),()) h2))) (
 ldSlice h2 ⟨b1,9,none⟩ fun p61 l61 c61=>
 ldInt .i64 h2 ⟨b1,12,none⟩ fun n62=>
 ifB (n62 !=0) (
 ldInt .i64 h2 ⟨b1,10,none⟩ fun n63=>
 ifB (n63 !=0) (
 J3 (⟨b1,0,none⟩,((1:Int),true,(17:Int),(n52 !=0),(2:Int),(n53 !=0),(4:Int),(decide ((l61:Int)>0)),(32:Int),true,(64:Int),true,()),(0:Int),()) h2) (
 ldInt .i64 h2 ⟨b1,11,none⟩ fun n64=>
 J3 (⟨b1,0,none⟩,((1:Int),true,(17:Int),(n52 !=0),(2:Int),(n53 !=0),(4:Int),(decide ((l61:Int)>0)),(32:Int),true,(64:Int),(n64 !=0),()),(0:Int),()) h2)) (
 ldInt .i64 h2 ⟨b1,13,none⟩ fun n65=>
 ldInt .i64 h2 ⟨b1,10,none⟩ fun n66=>
 ifB (n66 !=0) (
 J3 (⟨b1,0,none⟩,((1:Int),true,(17:Int),(n52 !=0),(2:Int),(n53 !=0),(4:Int),(decide ((l61:Int)>0)),(32:Int),(n65 !=0),(64:Int),true,()),(0:Int),()) h2) (
 ldInt .i64 h2 ⟨b1,11,none⟩ fun n67=>
 J3 (⟨b1,0,none⟩,((1:Int),true,(17:Int),(n52 !=0),(2:Int),(n53 !=0),(4:Int),(decide ((l61:Int)>0)),(32:Int),(n65 !=0),(64:Int),(n67 !=0),()),(0:Int),()) h2)))) (
 ldInt .i64 h2 ⟨b1,7,none⟩ fun n68=>
 ldInt .i64 h2 ⟨b1,3,none⟩ fun n69=>
 ldInt .i64 h2 ⟨b1,2,none⟩ fun n70=>
 ldSlice h2 ⟨b1,8,none⟩ fun p71 l71 c71=>
 ifB (decide ((l71:Int)>0)) (
 ldInt .i64 h2 ⟨b1,12,none⟩ fun n72=>
 ifB (n72 !=0) (
 ldInt .i64 h2 ⟨b1,10,none⟩ fun n73=>
 ifB (n73 !=0) (
 J3 (⟨b1,0,none⟩,((1:Int),(n68 !=0),(17:Int),(n69 !=0),(2:Int),(n70 !=0),(4:Int),true,(32:Int),true,(64:Int),true,()),(0:Int),()) h2) (
 ldInt .i64 h2 ⟨b1,11,none⟩ fun n74=>
 J3 (⟨b1,0,none⟩,((1:Int),(n68 !=0),(17:Int),(n69 !=0),(2:Int),(n70 !=0),(4:Int),true,(32:Int),true,(64:Int),(n74 !=0),()),(0:Int),()) h2)) (
 ldInt .i64 h2 ⟨b1,13,none⟩ fun n75=>
 ldInt .i64 h2 ⟨b1,10,none⟩ fun n76=>
 ifB (n76 !=0) (
 J3 (⟨b1,0,none⟩,((1:Int),(n68 !=0),(17:Int),(n69 !=0),(2:Int),(n70 !=0),(4:Int),true,(32:Int),(n75 !=0),(64:Int),true,()),(0:Int),()) h2) (
 ldInt .i64 h2 ⟨b1,11,none⟩ fun n77=>
 J3 (⟨b1,0,none⟩,((1:Int),(n68 !=0),(17:Int),(n69 !=0),(2:Int),(n70 !=0),(4:Int),true,(32:Int),(n75 !=0),(64:Int),(n77 !=0),()),(0:Int),()) h2))) (
 ldSlice h2 ⟨b1,9,none⟩ fun p78 l78 c78=>
 ldInt .i64 h2 ⟨b1,12,none⟩ fun n79=>
 ifB (n79 !=0) (
 ldInt .i64 h2 ⟨b1,10,none⟩ fun n80=>
 ifB (n80 !=0) (
 J3 (⟨b1,0,none⟩,((1:Int),(n68 !=0),(17:Int),(n69 !=0),(2:Int),(n70 !=0),(4:Int),(decide ((l78:Int)>0)),(32:Int),true,(64:Int),true,()),(0:Int),()) h2) (
 ldInt .i64 h2 ⟨b1,11,none⟩ fun n81=>
 J3 (⟨b1,0,none⟩,((1:Int),(n68 !=0),(17:Int),(n69 !=0),(2:Int),(n70 !=0),(4:Int),(decide ((l78:Int)>0)),(32:Int),true,(64:Int),(n81 !=0),()),(0:Int),()) h2)) (
 ldInt .i64 h2 ⟨b1,13,none⟩ fun n82=>
 ldInt .i64 h2 ⟨b1,10,none⟩ fun n83=>
 ifB (n83 !=0) (
 J3 (⟨b1,0,none⟩,((1:Int),(n68 !=0),(17:Int),(n69 !=0),(2:Int),(n70 !=0),(4:Int),(decide ((l78:Int)>0)),(32:Int),(n82 !=0),(64:Int),true,()),(0:Int),()) h2) (
 ldInt .i64 h2 ⟨b1,11,none⟩ fun n84=>
 J3 (⟨b1,0,none⟩,((1:Int),(n68 !=0),(17:Int),(n69 !=0),(2:Int),(n70 !=0),(4:Int),(decide ((l78:Int)>0)),(32:Int),(n82 !=0),(64:Int),(n84 !=0),()),(0:Int),()) h2))))))
noncomputable def tab_kind_bare:Tab:=tb (lookT .done []) (lookT [] [(2,[(1,.sc (.adr)),(61,.ag A3),(62,I6)])]) (lookT none [(2,some [(1,.sc (.adr)),(61,.ag A3),(62,I6)])])
theorem call_kind_bare (y0:TS A1) {h:Heap} {Q:VH} (H:kind_bare y0 h Q):callP P n_kind_bare #[(agS A1 y0)] h Q:=
 @callP_of P n_kind_bare Tryz.f193 tab_kind_bare [(agS A1 y0)] h Q mixed Tryz.func193 Tryz.call193 (by kernel_rfl) (Eq.mpr (by kernel_rfl) H)
def kind_Span (y0:TS A1) (h:Heap) (Q:VH):Prop:=
 newI h (.cells (mkS' A1 y0).toArray 62 (0,0)) fun b1 h2=>
 ldAg A1 h2 ⟨b1,0,none⟩ fun x3=>
 callBool P n_kind_has #[(agS A1 x3),(.int .i64 1)] h2 fun b5 h4=>
 ifB b5 (
 ldInt .i64 h4 ⟨b1,3,none⟩ fun n6=>
 ldInt .i64 h4 ⟨b1,5,none⟩ fun n7=>
 Q (.int .i64 (IntKind.wrap .i64 ((IntKind.wrap .i64 ((IntKind.wrap .i64 (n6-1))*n7))+1))) h4) (
 ldAg A1 h4 ⟨b1,0,none⟩ fun x8=>
 callBool P n_kind_has #[(agS A1 x8),(.int .i64 16)] h4 fun b10 h9=>
 ifB b10 (
 ldInt .i64 h9 ⟨b1,3,none⟩ fun n11=>
 Q (.int .i64 n11) h9) (
 Q (.int .i64 1) h9))
noncomputable def tab_kind_Span:Tab:=tb (lookT .done []) (lookT [] []) (lookT none [])
theorem call_kind_Span (y0:TS A1) {h:Heap} {Q:VH} (H:kind_Span y0 h Q):callP P n_kind_Span #[(agS A1 y0)] h Q:=
 @callP_of P n_kind_Span Tryz.f134 tab_kind_Span [(agS A1 y0)] h Q mixed Tryz.func134 Tryz.call134 (by kernel_rfl) (Eq.mpr (by kernel_rfl) H)
def kind_fits_j14 (Q:VH) (y2:Addr) (h8:Heap):Prop:=
 ldInt .i64 h8 (y2.add 10) fun n9=>
 callBool P n_kind_in #[(.int .i64 n9),(.int .i64 0),(.int .i64 32767)] h8 fun b11 h10=>
 ifB b11 (
 ldInt .i64 h10 (y2.add 11) fun n12=>
 callBool P n_kind_in #[(.int .i64 n12),(.int .i64 0),(.int .i64 30)] h10 fun b14 h13=>
 ifB b14 (
 ldInt .i64 h13 (y2.add 12) fun n15=>
 ldInt .i64 h13 (y2.add 13) fun n16=>
 callBool P n_kind_in #[(.int .i64 n15),(.int .i64 (-2147483648:Int)),(.int .i64 n16)] h13 fun b18 h17=>
 ifB b18 (
 ldInt .i64 h17 (y2.add 13) fun n19=>
 ldInt .i64 h17 (y2.add 12) fun n20=>
 callBool P n_kind_in #[(.int .i64 n19),(.int .i64 n20),(.int .i64 2147483647)] h17 fun b22 h21=>
 Q (.bool b22) h21) (
 Q (.bool false) h17)) (
 Q (.bool false) h13)) (
 Q (.bool false) h10)
def kind_fits_j5 (Q:VH) (y1:Int) (y2:Addr) (h6:Heap):Prop:=
 ∃J7:(Addr×Unit)→Heap→Prop,(∀s h,J7 s h→kind_fits_j14 Q s.1 h)∧
 ldAg A1 h6 y2 fun x23=>
 callBool P n_kind_has #[(agS A1 x23),(.int .i64 4)] h6 fun b25 h24=>
 ifB b25 (
 ldInt .i64 h24 (y2.add 2) fun n26=>
 ldInt .i64 h24 y2 fun n27=>
 ifB (n27==2) (
 ldInt .i64 h24 (y2.add 3) fun n28=>
 ldSlice h24 (y2.add 8) fun p29 l29 c29=>
 ifB ((l29:Int) !=(IntKind.wrap .i64 (y1*(IntKind.wrap .i64 ((1:Int)*n28))))) (
 Q (.bool false) h24) (
 ldSlice h24 (y2.add 9) fun p30 l30 c30=>
 ifB ((l30:Int) !=y1) (
 Q (.bool false) h24) (
 ldSlice h24 (y2.add 8) fun p31 l31 c31=>
 callBool P n_kind_every #[(.slice p31 l31 c31),(.int .i64 (-128:Int)),(.int .i64 127)] h24 fun b33 h32=>
 ifB (!b33) (
 Q (.bool false) h32) (
 ldSlice h32 (y2.add 9) fun p34 l34 c34=>
 callBool P n_kind_every #[(.slice p34 l34 c34),(.int .i64 (-16777216:Int)),(.int .i64 16777216)] h32 fun b36 h35=>
 ifB (!b36) (
 Q (.bool false) h35) (
 J7 (y2,()) h35))))) (
 ifB (n27==1) (
 ldInt .i64 h24 (y2.add 3) fun n37=>
 ldSlice h24 (y2.add 8) fun p38 l38 c38=>
 ifB ((l38:Int) !=(IntKind.wrap .i64 (n26*(IntKind.wrap .i64 (y1*n37))))) (
 Q (.bool false) h24) (
 ldSlice h24 (y2.add 9) fun p39 l39 c39=>
 ifB ((l39:Int) !=n26) (
 Q (.bool false) h24) (
 ldSlice h24 (y2.add 8) fun p40 l40 c40=>
 callBool P n_kind_every #[(.slice p40 l40 c40),(.int .i64 (-128:Int)),(.int .i64 127)] h24 fun b42 h41=>
 ifB (!b42) (
 Q (.bool false) h41) (
 ldSlice h41 (y2.add 9) fun p43 l43 c43=>
 callBool P n_kind_every #[(.slice p43 l43 c43),(.int .i64 (-16777216:Int)),(.int .i64 16777216)] h41 fun b45 h44=>
 ifB (!b45) (
 Q (.bool false) h44) (
 J7 (y2,()) h44))))) (
 ldSlice h24 (y2.add 8) fun p46 l46 c46=>
 ifB ((l46:Int) !=(IntKind.wrap .i64 (n26*y1))) (
 Q (.bool false) h24) (
 ldSlice h24 (y2.add 9) fun p47 l47 c47=>
 ifB ((l47:Int) !=n26) (
 Q (.bool false) h24) (
 ldSlice h24 (y2.add 8) fun p48 l48 c48=>
 callBool P n_kind_every #[(.slice p48 l48 c48),(.int .i64 (-128:Int)),(.int .i64 127)] h24 fun b50 h49=>
 ifB (!b50) (
 Q (.bool false) h49) (
 ldSlice h49 (y2.add 9) fun p51 l51 c51=>
 callBool P n_kind_every #[(.slice p51 l51 c51),(.int .i64 (-16777216:Int)),(.int .i64 16777216)] h49 fun b53 h52=>
 ifB (!b53) (
 Q (.bool false) h52) (
 J7 (y2,()) h52))))))) (
 J7 (y2,()) h24)
def kind_fits_j3 (Q:VH) (y1:Int) (y2:Addr) (h4:Heap):Prop:=
 ∃J5:(Int×Addr×Unit)→Heap→Prop,(∀s h,J5 s h→kind_fits_j5 Q s.1 s.2.1 h)∧
 ldAg A1 h4 y2 fun x54=>
 callBool P n_kind_has #[(agS A1 x54),(.int .i64 1)] h4 fun b56 h55=>
 ifB b56 (
 ldInt .i64 h55 (y2.add 4) fun n57=>
 callBool P n_kind_in #[(.int .i64 n57),(.int .i64 1),(.int .i64 4)] h55 fun b59 h58=>
 ifB b59 (
 ldInt .i64 h58 (y2.add 5) fun n60=>
 callBool P n_kind_in #[(.int .i64 n60),(.int .i64 1),(.int .i64 4)] h58 fun b62 h61=>
 ifB b62 (
 ldInt .i64 h61 (y2.add 6) fun n63=>
 ldAg A1 h61 y2 fun x64=>
 callInt P .i64 n_kind_Span #[(agS A1 x64)] h61 fun n66 h65=>
 cellH h65 (y2.add 6)=some (.int .i64 n63)∧
 callBool P n_kind_in #[(.int .i64 n63),(.int .i64 0),(.int .i64 (IntKind.wrap .i64 (n66-1)))] h65 fun b68 h67=>
 ifB b68 (
 ldInt .i64 h67 (y2.add 7) fun n69=>
 ldAg A1 h67 y2 fun x70=>
 callInt P .i64 n_kind_Span #[(agS A1 x70)] h67 fun n72 h71=>
 cellH h71 (y2.add 7)=some (.int .i64 n69)∧
 cellH h71 (y2.add 6)=some (.int .i64 n63)∧
 callBool P n_kind_in #[(.int .i64 n69),(.int .i64 0),(.int .i64 (IntKind.wrap .i64 (n72-1)))] h71 fun b74 h73=>
 cellH h73 (y2.add 6)=some (.int .i64 n63)∧
 ifB (!b74) (
 Q (.bool false) h73) (
 J5 (y1,y2,()) h73)) (
 cellH h67 (y2.add 6)=some (.int .i64 n63)∧
 cellH h67 (y2.add 6)=some (.int .i64 n63)∧
 ifB (!false) (
 Q (.bool false) h67) (
 J5 (y1,y2,()) h67))) (
 ifB (!false) (
 Q (.bool false) h61) (
 J5 (y1,y2,()) h61))) (
 ifB (!false) (
 Q (.bool false) h58) (
 J5 (y1,y2,()) h58))) (
 J5 (y1,y2,()) h55)
def kind_fits (y0:TS A1) (y1:Int) (h:Heap) (Q:VH):Prop:=
 newI h (.cells (mkS' A1 y0).toArray 62 (0,0)) fun b1 h2=>
 ∃J3:(Int×Addr×Unit)→Heap→Prop,(∀s h,J3 s h→kind_fits_j3 Q s.1 s.2.1 h)∧
 ldAg A1 h2 ⟨b1,0,none⟩ fun x75=>
 callBool P n_kind_has #[(agS A1 x75),(.int .i64 17)] h2 fun b77 h76=>
 ifB b77 (
 ldInt .i64 h76 ⟨b1,3,none⟩ fun n78=>
 callBool P n_kind_in #[(.int .i64 n78),(.int .i64 1),(.int .i64 8)] h76 fun b80 h79=>
 ifB (!b80) (
 Q (.bool false) h79) (
 ldAg A1 h79 ⟨b1,0,none⟩ fun x81=>
 callBool P n_kind_has #[(agS A1 x81),(.int .i64 2)] h79 fun b83 h82=>
 ifB b83 (
 ldInt .i64 h82 ⟨b1,2,none⟩ fun n84=>
 callBool P n_kind_in #[(.int .i64 n84),(.int .i64 1),(.int .i64 16)] h82 fun b86 h85=>
 ifB (!b86) (
 Q (.bool false) h85) (
 J3 (y1,⟨b1,0,none⟩,()) h85)) (
 J3 (y1,⟨b1,0,none⟩,()) h82))) (
 ldAg A1 h76 ⟨b1,0,none⟩ fun x87=>
 callBool P n_kind_has #[(agS A1 x87),(.int .i64 2)] h76 fun b89 h88=>
 ifB b89 (
 ldInt .i64 h88 ⟨b1,2,none⟩ fun n90=>
 callBool P n_kind_in #[(.int .i64 n90),(.int .i64 1),(.int .i64 16)] h88 fun b92 h91=>
 ifB (!b92) (
 Q (.bool false) h91) (
 J3 (y1,⟨b1,0,none⟩,()) h91)) (
 J3 (y1,⟨b1,0,none⟩,()) h88))
noncomputable def tab_kind_fits:Tab:=tb (lookT .done [(3,(.alt 0 (.alt 1 (ones [2,3] (.alt 4 (.alt 5 (ones [6,7] (.alt 8 (.alt 9 (ones [10,11,12] (.early 13 (.alt 14 (.alt 15 (ones [16] (.alt 17 (ones [18,19,20] (.early 21 (.alt 22 (.alt 23 (ones [24] (.alt 25 (ones [26,27,28] .done) .stop)) .stop) .stop))) .stop)) .stop) .stop))) .stop) .stop)) .stop) .stop)) .stop) .stop))]) (lookT [] []) (lookT none [(3,some [(1,I6),(2,.sc (.adr))]),(5,some [(1,I6),(2,.sc (.adr))]),(14,some [(2,.sc (.adr))])])
theorem call_kind_fits (y0:TS A1) (y1:Int) {h:Heap} {Q:VH} (H:kind_fits y0 y1 h Q):callP P n_kind_fits #[(agS A1 y0),(.int .i64 y1)] h Q:=
 @callP_of P n_kind_fits Tryz.f194 tab_kind_fits [(agS A1 y0),(.int .i64 y1)] h Q mixed Tryz.func194 Tryz.call194 (by kernel_rfl) (Eq.mpr (by kernel_rfl) H)
def kind_Check_l11 (Q:VH) (K1:YH Y6) (y1p:OA) (y1n y1c:Nat) (y2:Addr) (y5:Int) (t72_p:OA) (t72_n t72_c:Nat) (t73 t74:Int) (h5:Heap):Prop:=
 ifB (decide (t74<t73)) (
 idxI t72_p t74 t72_n fun a6=>
 ldInt .i64 h5 (a6.add (t74.toNat*1)) fun n7=>
 ldInt .i64 h5 y2 fun n8=>
 ifB (n8==7) (
 idxI y1p 0 y1n fun a9=>
 ldInt .i64 h5 (a9.add ((0:Int).toNat*1)) fun n10=>
 ifB (n7 !=n10) (
 Q (.int .i64 14) h5) (
 K1 ((y1p,y1n,y1c),y2,(IntKind.wrap .i64 (y5+n7)),(t72_p,t72_n,t72_c),t73,(IntKind.wrap .i64 (t74+1)),()) h5)) (
 K1 ((y1p,y1n,y1c),y2,(IntKind.wrap .i64 (y5+n7)),(t72_p,t72_n,t72_c),t73,(IntKind.wrap .i64 (t74+1)),()) h5)) (
 ldInt .i64 h5 y2 fun n11=>
 ifB (n11==8) (
 ifB (decide (y5>16)) (
 Q (.int .i64 14) h5) (
 Q (.int .i64 0) h5)) (
 Q (.int .i64 0) h5))
def kind_Check_j9 (Q:VH) (y1p:OA) (y1n y1c:Nat) (y2:Addr) (h4:Heap):Prop:=
 LoopS (S:=Y6) (fun K1 s h=>kind_Check_l11 Q K1 s.1.1 s.1.2.1 s.1.2.2 s.2.1 s.2.2.1 s.2.2.2.1.1 s.2.2.2.1.2.1 s.2.2.2.1.2.2 s.2.2.2.2.1 s.2.2.2.2.2.1 h) ((y1p,y1n,y1c),y2,(0:Int),(y1p,y1n,y1c),(y1n:Int),(0:Int),()) h4
def kind_Check (y0:TS A1) (y1p:OA) (y1n y1c:Nat) (h:Heap) (Q:VH):Prop:=
 newI h (.cells (mkS' A1 y0).toArray 62 (0,0)) fun b1 h2=>
 ∃J3:(S3×Addr×Unit)→Heap→Prop,(∀s h,J3 s h→kind_Check_j9 Q s.1.1 s.1.2.1 s.1.2.2 s.2.1 h)∧
 ldSlice h2 ⟨b1,1,none⟩ fun p12 l12 c12=>
 ifB ((y1n:Int) !=(l12:Int)) (
 Q (.int .i64 1) h2) (
 callBool P n_kind_every #[(.slice y1p y1n y1c),(.int .i64 1),(.int .i64 16)] h2 fun b14 h13=>
 ifB (!b14) (
 Q (.int .i64 1) h13) (
 ldInt .i64 h13 ⟨b1,0,none⟩ fun n15=>
 callBool P n_kind_in #[(.int .i64 n15),(.int .i64 1),(.int .i64 12)] h13 fun b17 h16=>
 ifB (!b17) (
 Q (.int .i64 12) h16) (
 ldInt .i64 h16 ⟨b1,14,none⟩ fun n18=>
 callBool P n_kind_in #[(.int .i64 n18),(.int .i64 0),(.int .i64 3)] h16 fun b20 h19=>
 ifB (!b20) (
 Q (.int .i64 12) h19) (
 ldInt .i64 h19 ⟨b1,14,none⟩ fun n21=>
 ifB (n21 !=0) (
 ldAg A1 h19 ⟨b1,0,none⟩ fun x22=>
 callBool P n_kind_has #[(agS A1 x22),(.int .i64 4)] h19 fun b24 h23=>
 ifB (!b24) (
 Q (.int .i64 12) h23) (
 ldAg A1 h23 ⟨b1,0,none⟩ fun x25=>
 callBool P n_kind_has #[(agS A1 x25),(.int .i64 8)] h23 fun b27 h26=>
 ifB b27 (
 callBool P n_kind_in #[(.int .i64 (y1n:Int)),(.int .i64 2),(.int .i64 4)] h26 fun b29 h28=>
 ifB (!b29) (
 Q (.int .i64 12) h28) (
 ldAg A1 h28 ⟨b1,0,none⟩ fun x30=>
 callBool P n_kind_has #[(agS A1 x30),(.int .i64 8)] h28 fun b32 h31=>
 ifB (!b32) (
 ifB ((y1n:Int) !=1) (
 Q (.int .i64 12) h31) (
 ldAg A1 h31 ⟨b1,0,none⟩ fun x33=>
 callBool P n_kind_bare #[(agS A1 x33)] h31 fun b35 h34=>
 ifB (!b35) (
 Q (.int .i64 12) h34) (
 idxI y1p 0 y1n fun a36=>
 ldAg A1 h34 ⟨b1,0,none⟩ fun x37=>
 ldInt .i64 h34 (a36.add ((0:Int).toNat*1)) fun n38=>
 callBool P n_kind_fits #[(agS A1 x37),(.int .i64 n38)] h34 fun b40 h39=>
 ifB (!b40) (
 Q (.int .i64 22) h39) (
 J3 ((y1p,y1n,y1c),⟨b1,0,none⟩,()) h39)))) (
 ldAg A1 h31 ⟨b1,0,none⟩ fun x41=>
 callBool P n_kind_bare #[(agS A1 x41)] h31 fun b43 h42=>
 ifB (!b43) (
 Q (.int .i64 12) h42) (
 idxI y1p 0 y1n fun a44=>
 ldAg A1 h42 ⟨b1,0,none⟩ fun x45=>
 ldInt .i64 h42 (a44.add ((0:Int).toNat*1)) fun n46=>
 callBool P n_kind_fits #[(agS A1 x45),(.int .i64 n46)] h42 fun b48 h47=>
 ifB (!b48) (
 Q (.int .i64 22) h47) (
 J3 ((y1p,y1n,y1c),⟨b1,0,none⟩,()) h47))))) (
 ldAg A1 h26 ⟨b1,0,none⟩ fun x49=>
 callBool P n_kind_has #[(agS A1 x49),(.int .i64 8)] h26 fun b51 h50=>
 ifB (!b51) (
 ifB ((y1n:Int) !=1) (
 Q (.int .i64 12) h50) (
 ldAg A1 h50 ⟨b1,0,none⟩ fun x52=>
 callBool P n_kind_bare #[(agS A1 x52)] h50 fun b54 h53=>
 ifB (!b54) (
 Q (.int .i64 12) h53) (
 idxI y1p 0 y1n fun a55=>
 ldAg A1 h53 ⟨b1,0,none⟩ fun x56=>
 ldInt .i64 h53 (a55.add ((0:Int).toNat*1)) fun n57=>
 callBool P n_kind_fits #[(agS A1 x56),(.int .i64 n57)] h53 fun b59 h58=>
 ifB (!b59) (
 Q (.int .i64 22) h58) (
 J3 ((y1p,y1n,y1c),⟨b1,0,none⟩,()) h58)))) (
 ldAg A1 h50 ⟨b1,0,none⟩ fun x60=>
 callBool P n_kind_bare #[(agS A1 x60)] h50 fun b62 h61=>
 ifB (!b62) (
 Q (.int .i64 12) h61) (
 idxI y1p 0 y1n fun a63=>
 ldAg A1 h61 ⟨b1,0,none⟩ fun x64=>
 ldInt .i64 h61 (a63.add ((0:Int).toNat*1)) fun n65=>
 callBool P n_kind_fits #[(agS A1 x64),(.int .i64 n65)] h61 fun b67 h66=>
 ifB (!b67) (
 Q (.int .i64 22) h66) (
 J3 ((y1p,y1n,y1c),⟨b1,0,none⟩,()) h66)))))) (
 ldAg A1 h19 ⟨b1,0,none⟩ fun x68=>
 callBool P n_kind_has #[(agS A1 x68),(.int .i64 8)] h19 fun b70 h69=>
 ifB b70 (
 callBool P n_kind_in #[(.int .i64 (y1n:Int)),(.int .i64 2),(.int .i64 4)] h69 fun b72 h71=>
 ifB (!b72) (
 Q (.int .i64 12) h71) (
 ldAg A1 h71 ⟨b1,0,none⟩ fun x73=>
 callBool P n_kind_has #[(agS A1 x73),(.int .i64 8)] h71 fun b75 h74=>
 ifB (!b75) (
 ifB ((y1n:Int) !=1) (
 Q (.int .i64 12) h74) (
 ldAg A1 h74 ⟨b1,0,none⟩ fun x76=>
 callBool P n_kind_bare #[(agS A1 x76)] h74 fun b78 h77=>
 ifB (!b78) (
 Q (.int .i64 12) h77) (
 idxI y1p 0 y1n fun a79=>
 ldAg A1 h77 ⟨b1,0,none⟩ fun x80=>
 ldInt .i64 h77 (a79.add ((0:Int).toNat*1)) fun n81=>
 callBool P n_kind_fits #[(agS A1 x80),(.int .i64 n81)] h77 fun b83 h82=>
 ifB (!b83) (
 Q (.int .i64 22) h82) (
 J3 ((y1p,y1n,y1c),⟨b1,0,none⟩,()) h82)))) (
 ldAg A1 h74 ⟨b1,0,none⟩ fun x84=>
 callBool P n_kind_bare #[(agS A1 x84)] h74 fun b86 h85=>
 ifB (!b86) (
 Q (.int .i64 12) h85) (
 idxI y1p 0 y1n fun a87=>
 ldAg A1 h85 ⟨b1,0,none⟩ fun x88=>
 ldInt .i64 h85 (a87.add ((0:Int).toNat*1)) fun n89=>
 callBool P n_kind_fits #[(agS A1 x88),(.int .i64 n89)] h85 fun b91 h90=>
 ifB (!b91) (
 Q (.int .i64 22) h90) (
 J3 ((y1p,y1n,y1c),⟨b1,0,none⟩,()) h90))))) (
 ldAg A1 h69 ⟨b1,0,none⟩ fun x92=>
 callBool P n_kind_has #[(agS A1 x92),(.int .i64 8)] h69 fun b94 h93=>
 ifB (!b94) (
 ifB ((y1n:Int) !=1) (
 Q (.int .i64 12) h93) (
 ldAg A1 h93 ⟨b1,0,none⟩ fun x95=>
 callBool P n_kind_bare #[(agS A1 x95)] h93 fun b97 h96=>
 ifB (!b97) (
 Q (.int .i64 12) h96) (
 idxI y1p 0 y1n fun a98=>
 ldAg A1 h96 ⟨b1,0,none⟩ fun x99=>
 ldInt .i64 h96 (a98.add ((0:Int).toNat*1)) fun n100=>
 callBool P n_kind_fits #[(agS A1 x99),(.int .i64 n100)] h96 fun b102 h101=>
 ifB (!b102) (
 Q (.int .i64 22) h101) (
 J3 ((y1p,y1n,y1c),⟨b1,0,none⟩,()) h101)))) (
 ldAg A1 h93 ⟨b1,0,none⟩ fun x103=>
 callBool P n_kind_bare #[(agS A1 x103)] h93 fun b105 h104=>
 ifB (!b105) (
 Q (.int .i64 12) h104) (
 idxI y1p 0 y1n fun a106=>
 ldAg A1 h104 ⟨b1,0,none⟩ fun x107=>
 ldInt .i64 h104 (a106.add ((0:Int).toNat*1)) fun n108=>
 callBool P n_kind_fits #[(agS A1 x107),(.int .i64 n108)] h104 fun b110 h109=>
 ifB (!b110) (
 Q (.int .i64 22) h109) (
 J3 ((y1p,y1n,y1c),⟨b1,0,none⟩,()) h109)))))))))
noncomputable def tab_kind_Check:Tab:=tb (lookT .done [(7,(ones [1,2,0,3] (.alt 4 (ones [5,6] .done) .stop)))]) (lookT [] [(11,[(1,SL),(2,.sc (.adr)),(5,I6),(72,SL),(73,I6),(74,I6)])]) (lookT none [(9,some [(1,SL),(2,.sc (.adr))])])
theorem call_kind_Check (y0:TS A1) (y1p:OA) (y1n y1c:Nat) {h:Heap} {Q:VH} (H:kind_Check y0 y1p y1n y1c h Q):callP P n_kind_Check #[(agS A1 y0),(.slice y1p y1n y1c)] h Q:=
 @callP_of P n_kind_Check Tryz.f139 tab_kind_Check [(agS A1 y0),(.slice y1p y1n y1c)] h Q mixed Tryz.func139 Tryz.call139 (by kernel_rfl) (Eq.mpr (by kernel_rfl) H)
def graph_rate_1 (y0:Int) (free0:Addr) (h:Heap) (Q:VH):Prop:=
 ldInt .i64 h free0 fun n1=>
 Q (.bool (y0 !=n1)) h
noncomputable def tab_graph_rate_1:Tab:=tb (lookT .done []) (lookT [] []) (lookT none [])
theorem call_graph_rate_1 (y0:Int) (free0:Addr) {h:Heap} {Q:VH} (H:graph_rate_1 y0 free0 h Q):callP P n_graph_rate_1 #[(.int .i64 y0),(.pointer (some free0))] h Q:=
 @callP_of P n_graph_rate_1 Tryz.f195 tab_graph_rate_1 [(.int .i64 y0),(.pointer (some free0))] h Q mixed Tryz.func195 Tryz.call195 (by kernel_rfl) (Eq.mpr (by kernel_rfl) H)
def kind_Step (y0:TS A1) (h:Heap) (Q:VH):Prop:=
 newI h (.cells (mkS' A1 y0).toArray 62 (0,0)) fun b1 h2=>
 ldAg A1 h2 ⟨b1,0,none⟩ fun x3=>
 callBool P n_kind_has #[(agS A1 x3),(.int .i64 1)] h2 fun b5 h4=>
 ifB b5 (
 ldInt .i64 h4 ⟨b1,4,none⟩ fun n6=>
 Q (.int .i64 n6) h4) (
 Q (.int .i64 1) h4)
noncomputable def tab_kind_Step:Tab:=tb (lookT .done []) (lookT [] []) (lookT none [])
theorem call_kind_Step (y0:TS A1) {h:Heap} {Q:VH} (H:kind_Step y0 h Q):callP P n_kind_Step #[(agS A1 y0)] h Q:=
 @callP_of P n_kind_Step Tryz.f196 tab_kind_Step [(agS A1 y0)] h Q mixed Tryz.func196 Tryz.call196 (by kernel_rfl) (Eq.mpr (by kernel_rfl) H)
def graph_rate_j5 (Q:VH) (y2 y6:Addr) (h11:Heap):Prop:=
 ldInt .i64 h11 y2 fun n12=>
 ifB (n12==5) (
 Q (.tuple #[(.int .i64 0),(.bool true)]) h11) (
 ldAg A1 h11 y2 fun x13=>
 ldInt .i64 h11 y6 fun n14=>
 callInt P .i64 n_kind_Step #[(agS A1 x13)] h11 fun n16 h15=>
 cellH h15 y6=some (.int .i64 n14)∧
 Q (.tuple #[(.int .i64 (IntKind.wrap .i64 (n14*n16))),(.bool true)]) h15)
def graph_rate_j3 (Q:VH) (y1p:OA) (y1n y1c:Nat) (y2 y6:Addr) (y7:Bool) (h9:Heap):Prop:=
 ∃J10:(Addr×Addr×Unit)→Heap→Prop,(∀s h,J10 s h→graph_rate_j5 Q s.1 s.2.1 h)∧
 callBool P n_slices_ContainsFunc_int_int #[(.slice y1p y1n y1c),(.func (.func n_graph_rate_1) #[] #[(.pointer (some y6))])] h9 fun b18 h17=>
 ifB b18 (
 Q (.tuple #[(.int .i64 0),(.bool false)]) h17) (
 ldInt .i64 h17 y6 fun n19=>
 ifB (n19==0) (
 ifB y7 (
 Q (.tuple #[(.int .i64 0),(.bool false)]) h17) (
 ldInt .i64 h17 y2 fun n20=>
 ifB (n20==5) (
 Q (.tuple #[(.int .i64 0),(.bool false)]) h17) (
 J10 (y2,y6,()) h17))) (
 J10 (y2,y6,()) h17))
def graph_rate (y0:TS A1) (y1p:OA) (y1n y1c:Nat) (h:Heap) (Q:VH):Prop:=
 newI h (.cells (mkS' A1 y0).toArray 62 (0,0)) fun b1 h2=>
 idxI y1p 0 y1n fun a3=>
 ldInt .i64 h2 (a3.add ((0:Int).toNat*1)) fun n4=>
 newI h2 (.cells #[(.int .i64 0)] 3 (0,0)) fun b5 h6=>
 stI h6 ⟨b5,0,none⟩ (.int .i64 n4) fun h7=>
 ∃J8:(S3×Addr×Addr×Bool×Unit)→Heap→Prop,(∀s h,J8 s h→graph_rate_j3 Q s.1.1 s.1.2.1 s.1.2.2 s.2.1 s.2.2.1 s.2.2.2.1 h)∧
 ldAg A1 h7 ⟨b1,0,none⟩ fun x21=>
 callInt P .i64 n_kind_Span #[(agS A1 x21)] h7 fun n23 h22=>
 ifB (decide (n23>1)) (
 J8 ((y1p,y1n,y1c),⟨b1,0,none⟩,⟨b5,0,none⟩,true,()) h22) (
 ldInt .i64 h22 ⟨b1,0,none⟩ fun n24=>
 ifB (decide (n24≤4)) (
 J8 ((y1p,y1n,y1c),⟨b1,0,none⟩,⟨b5,0,none⟩,true,()) h22) (
 ldInt .i64 h22 ⟨b1,0,none⟩ fun n25=>
 J8 ((y1p,y1n,y1c),⟨b1,0,none⟩,⟨b5,0,none⟩,(n25==12),()) h22))
noncomputable def tab_graph_rate:Tab:=tb (lookT .done [(7,(ones [1] (.early 0 (.alt 2 (ones [3,4,5] .done) .stop))))]) (lookT [] []) (lookT none [(3,some [(1,SL),(2,.sc (.adr)),(6,.sc (.adr)),(7,BO)]),(5,some [(2,.sc (.adr)),(6,.sc (.adr))])])
theorem call_graph_rate (y0:TS A1) (y1p:OA) (y1n y1c:Nat) {h:Heap} {Q:VH} (H:graph_rate y0 y1p y1n y1c h Q):callP P n_graph_rate #[(agS A1 y0),(.slice y1p y1n y1c)] h Q:=
 @callP_of P n_graph_rate Tryz.f140 tab_graph_rate [(agS A1 y0),(.slice y1p y1n y1c)] h Q mixed Tryz.func140 Tryz.call140 (by kernel_rfl) (Eq.mpr (by kernel_rfl) H)
def kind_Width_l10 (Q:VH) (K1:(Int×S3×Int×Int×Unit)→Heap→Prop) (y5:Int) (t25_p:OA) (t25_n t25_c:Nat) (t26 t27:Int) (h12:Heap):Prop:=
 ifB (decide (t27<t26)) (
 idxI t25_p t27 t25_n fun a13=>
 ldInt .i64 h12 (a13.add (t27.toNat*1)) fun n14=>
 K1 ((IntKind.wrap .i64 (y5+n14)),(t25_p,t25_n,t25_c),t26,(IntKind.wrap .i64 (t27+1)),()) h12) (
 Q (.int .i64 y5) h12)
def kind_Width (y0:TS A1) (y1p:OA) (y1n y1c:Nat) (h:Heap) (Q:VH):Prop:=
 newI h (.cells (mkS' A1 y0).toArray 62 (0,0)) fun b1 h2=>
 ldAg A1 h2 ⟨b1,0,none⟩ fun x3=>
 callInt P .i64 n_kind_Check #[(agS A1 x3),(.slice y1p y1n y1c)] h2 fun n5 h4=>
 ifB (n5 !=0) (
 Q (.int .i64 0) h4) (
 ldAg A1 h4 ⟨b1,0,none⟩ fun x6=>
 callBool P n_kind_has #[(agS A1 x6),(.int .i64 2)] h4 fun b8 h7=>
 ifB b8 (
 ldInt .i64 h7 ⟨b1,2,none⟩ fun n9=>
 Q (.int .i64 n9) h7) (
 ldInt .i64 h7 ⟨b1,0,none⟩ fun n10=>
 ifB (n10==11) (
 Q (.int .i64 1) h7) (
 ldInt .i64 h7 ⟨b1,0,none⟩ fun n11=>
 ifB (n11==8) (
 LoopS (S:=(Int×S3×Int×Int×Unit)) (fun K1 s h=>kind_Width_l10 Q K1 s.1 s.2.1.1 s.2.1.2.1 s.2.1.2.2 s.2.2.1 s.2.2.2.1 h) ((0:Int),(y1p,y1n,y1c),(y1n:Int),(0:Int),()) h7) (
 idxI y1p 0 y1n fun a15=>
 ldInt .i64 h7 (a15.add ((0:Int).toNat*1)) fun n16=>
 Q (.int .i64 n16) h7))))
noncomputable def tab_kind_Width:Tab:=tb (lookT .done []) (lookT [] [(10,[(5,I6),(25,SL),(26,I6),(27,I6)])]) (lookT none [])
theorem call_kind_Width (y0:TS A1) (y1p:OA) (y1n y1c:Nat) {h:Heap} {Q:VH} (H:kind_Width y0 y1p y1n y1c h Q):callP P n_kind_Width #[(agS A1 y0),(.slice y1p y1n y1c)] h Q:=
 @callP_of P n_kind_Width Tryz.f141 tab_kind_Width [(agS A1 y0),(.slice y1p y1n y1c)] h Q mixed Tryz.func141 Tryz.call141 (by kernel_rfl) (Eq.mpr (by kernel_rfl) H)
def graph_look_l10 (Q:VH) (K1:YH Y7) (y1 t2 y7:Addr) (t49_p:OA) (t49_n t49_c:Nat) (t50 t51:Int) (h43:Heap):Prop:=
 ifB (decide (t51<t50)) (
 idxI t49_p t51 t49_n fun a44=>
 ldInt .i64 h43 (a44.add (t51.toNat*1)) fun n45=>
 ldSlice h43 (y1.add 3) fun p46 l46 c46=>
 idxI p46 (IntKind.wrap .i64 (n45-1)) l46 fun a47=>
 ldAg A1 h43 (a47.add ((IntKind.wrap .i64 (n45-1)).toNat*15)) fun x48=>
 newI h43 (.cells (mkS' A1 (zT A1)).toArray 62 (0,0)) fun b49 h50=>
 storeL (mkS' A1 x48) h50 ⟨b49,0,none⟩ 0 fun h51=>
 ldSlice h51 (y7.add 1) fun p52 l52 c52=>
 ldSlice h51 ⟨b49,1,none⟩ fun p53 l53 c53=>
 callSlice P n_graph_pick #[(.slice p52 l52 c52),(.slice p53 l53 c53)] h51 fun p55 l55 c55 h54=>
 ldAg A1 h54 ⟨b49,0,none⟩ fun x56=>
 callInt P .i64 n_kind_Check #[(agS A1 x56),(.slice p55 l55 c55)] h54 fun n58 h57=>
 ifB (n58 !=0) (
 stI h57 t2 (.slice none 0 0) fun h59=>
 stI h59 (t2.add 1) (.slice none 0 0) fun h60=>
 stI h60 (t2.add 2) (.slice none 0 0) fun h61=>
 ldSlice h61 t2 fun p62 l62 c62=>
 ldSlice h61 (t2.add 1) fun p63 l63 c63=>
 ldSlice h61 (t2.add 2) fun p64 l64 c64=>
 Q (.tuple #[(.agg #[(.slice p62 l62 c62),(.slice p63 l63 c63),(.slice p64 l64 c64)]),(.int .i64 n58)]) h61) (
 ldAg A1 h57 ⟨b49,0,none⟩ fun x65=>
 ldSlice h57 (y7.add 2) fun p66 l66 c66=>
 ldSlice h57 ⟨b49,1,none⟩ fun p67 l67 c67=>
 callSlice P n_graph_pick #[(.slice p66 l66 c66),(.slice p67 l67 c67)] h57 fun p69 l69 c69 h68=>
 holdW (watchL 0 ⟨b49,0,none⟩ (mkS' A1 x65) 0) h68 (
 callP P n_graph_rate #[(agS A1 x65),(.slice p69 l69 c69)] h68 fun v71 h70=>
 ∃n72:Int,∃b73:Bool,v71=(.tuple #[(.int .i64 n72),(.bool b73)])∧
 cellH h70 (y7.add 2)=some (.slice p66 l66 c66)∧
 ifB (!b73) (
 stI h70 t2 (.slice none 0 0) fun h74=>
 stI h74 (t2.add 1) (.slice none 0 0) fun h75=>
 stI h75 (t2.add 2) (.slice none 0 0) fun h76=>
 ldSlice h76 t2 fun p77 l77 c77=>
 ldSlice h76 (t2.add 1) fun p78 l78 c78=>
 ldSlice h76 (t2.add 2) fun p79 l79 c79=>
 Q (.tuple #[(.agg #[(.slice p77 l77 c77),(.slice p78 l78 c78),(.slice p79 l79 c79)]),(.int .i64 15)]) h76) (
 ldAg A1 h70 ⟨b49,0,none⟩ fun x80=>
 ldSlice h70 (y7.add 1) fun p81 l81 c81=>
 ldSlice h70 (y7.add 2) fun p82 l82 c82=>
 callInt P .i64 n_kind_Width #[(agS A1 x80),(.slice p55 l55 c55)] h70 fun n84 h83=>
 cellH h83 (y7.add 2)=some (.slice p82 l82 c82)∧
 cellH h83 (y7.add 1)=some (.slice p81 l81 c81)∧
 idxI p81 n45 l81 fun a85=>
 stI h83 (a85.add (n45.toNat*1)) (.int .i64 n84) fun h86=>
 cellH h86 (y7.add 2)=some (.slice p82 l82 c82)∧
 idxI p82 n45 l82 fun a87=>
 stI h86 (a87.add (n45.toNat*1)) (.int .i64 n72) fun h88=>
 K1 (y1,t2,y7,(t49_p,t49_n,t49_c),t50,(IntKind.wrap .i64 (t51+1)),()) h88)))) (
 ldSlice h43 y7 fun p89 l89 c89=>
 ldSlice h43 (y7.add 1) fun p90 l90 c90=>
 ldSlice h43 (y7.add 2) fun p91 l91 c91=>
 stI h43 t2 (.slice p89 l89 c89) fun h92=>
 stI h92 (t2.add 1) (.slice p90 l90 c90) fun h93=>
 stI h93 (t2.add 2) (.slice p91 l91 c91) fun h94=>
 ldSlice h94 t2 fun p95 l95 c95=>
 ldSlice h94 (t2.add 1) fun p96 l96 c96=>
 ldSlice h94 (t2.add 2) fun p97 l97 c97=>
 Q (.tuple #[(.agg #[(.slice p95 l95 c95),(.slice p96 l96 c96),(.slice p97 l97 c97)]),(.int .i64 0)]) h94)
def graph_look (y0:TS A2) (h:Heap) (Q:VH):Prop:=
 newI h (.cells (mkS' A2 y0).toArray 32 (0,0)) fun b1 h2=>
 newI h2 (.cells #[(.slice none 0 0),(.slice none 0 0),(.slice none 0 0)] 139 (0,0)) fun b3 h4=>
 ldAg A2 h4 ⟨b1,0,none⟩ fun x5=>
 callInt P .i64 n_graph_may #[(agS A2 x5)] h4 fun n7 h6=>
 ifB (n7 !=0) (
 stI h6 ⟨b3,0,none⟩ (.slice none 0 0) fun h8=>
 stI h8 ⟨b3,1,none⟩ (.slice none 0 0) fun h9=>
 stI h9 ⟨b3,2,none⟩ (.slice none 0 0) fun h10=>
 ldSlice h10 ⟨b3,0,none⟩ fun p11 l11 c11=>
 ldSlice h10 ⟨b3,1,none⟩ fun p12 l12 c12=>
 ldSlice h10 ⟨b3,2,none⟩ fun p13 l13 c13=>
 Q (.tuple #[(.agg #[(.slice p11 l11 c11),(.slice p12 l12 c12),(.slice p13 l13 c13)]),(.int .i64 n7)]) h10) (
 ldSlice h6 ⟨b1,3,none⟩ fun p14 l14 c14=>
 callP P n_graph_ordered #[(.slice p14 l14 c14)] h6 fun v16 h15=>
 ∃p17:Option Addr,∃l17:Nat,∃c17:Nat,∃b18:Bool,v16=(.tuple #[(.slice p17 l17 c17),(.bool b18)])∧
 ifB (!b18) (
 stI h15 ⟨b3,0,none⟩ (.slice none 0 0) fun h19=>
 stI h19 ⟨b3,1,none⟩ (.slice none 0 0) fun h20=>
 stI h20 ⟨b3,2,none⟩ (.slice none 0 0) fun h21=>
 ldSlice h21 ⟨b3,0,none⟩ fun p22 l22 c22=>
 ldSlice h21 ⟨b3,1,none⟩ fun p23 l23 c23=>
 ldSlice h21 ⟨b3,2,none⟩ fun p24 l24 c24=>
 Q (.tuple #[(.agg #[(.slice p22 l22 c22),(.slice p23 l23 c23),(.slice p24 l24 c24)]),(.int .i64 13)]) h21) (
 ldSlice h15 ⟨b1,3,none⟩ fun p25 l25 c25=>
 ldSlice h15 ⟨b1,3,none⟩ fun p26 l26 c26=>
 (
 mkI 3 1 8 (.int .i64 0) (IntKind.wrap .i64 ((l25:Int)+1)) (IntKind.wrap .i64 ((l25:Int)+1)) h15 fun b27 h28=>
 cellH h28 ⟨b1,3,none⟩=some (.slice p26 l26 c26)∧
 cellH h28 ⟨b1,3,none⟩=some (.slice p25 l25 c25)∧
 (
 mkI 3 1 8 (.int .i64 0) (IntKind.wrap .i64 ((l26:Int)+1)) (IntKind.wrap .i64 ((l26:Int)+1)) h28 fun b29 h30=>
 cellH h30 ⟨b1,3,none⟩=some (.slice p26 l26 c26)∧
 cellH h30 ⟨b1,3,none⟩=some (.slice p25 l25 c25)∧
 newI h30 (.cells #[(.slice none 0 0),(.slice none 0 0),(.slice none 0 0)] 139 (0,0)) fun b31 h32=>
 stI h32 ⟨b31,0,none⟩ (.slice p17 l17 c17) fun h33=>
 stI h33 ⟨b31,1,none⟩ (.slice (some ⟨b27,0,none⟩) ((IntKind.wrap .i64 ((l25:Int)+1)).toNat) ((IntKind.wrap .i64 ((l25:Int)+1)).toNat)) fun h34=>
 stI h34 ⟨b31,2,none⟩ (.slice (some ⟨b29,0,none⟩) ((IntKind.wrap .i64 ((l26:Int)+1)).toNat) ((IntKind.wrap .i64 ((l26:Int)+1)).toNat)) fun h35=>
 ldSlice h35 ⟨b31,1,none⟩ fun p36 l36 c36=>
 ldInt .i64 h35 ⟨b1,0,none⟩ fun n37=>
 idxI p36 0 l36 fun a38=>
 ldSlice h35 ⟨b31,2,none⟩ fun p39 l39 c39=>
 stI h35 (a38.add ((0:Int).toNat*1)) (.int .i64 n37) fun h40=>
 cellH h40 ⟨b31,2,none⟩=some (.slice p39 l39 c39)∧
 idxI p39 0 l39 fun a41=>
 stI h40 (a41.add ((0:Int).toNat*1)) (.int .i64 1) fun h42=>
 LoopS (S:=Y7) (fun K1 s h=>graph_look_l10 Q K1 s.1 s.2.1 s.2.2.1 s.2.2.2.1.1 s.2.2.2.1.2.1 s.2.2.2.1.2.2 s.2.2.2.2.1 s.2.2.2.2.2.1 h) (⟨b1,0,none⟩,⟨b3,0,none⟩,⟨b31,0,none⟩,(p17,l17,c17),(l17:Int),(0:Int),()) h42)∧(
 newI h28 (.cells #[(.slice none 0 0),(.slice none 0 0),(.slice none 0 0)] 139 (0,0)) fun b98 h99=>
 mkI 3 1 8 (.int .i64 0) (IntKind.wrap .i64 ((l26:Int)+1)) (IntKind.wrap .i64 ((l26:Int)+1)) h99 fun b100 h101=>
 cellH h101 ⟨b1,3,none⟩=some (.slice p26 l26 c26)∧
 cellH h101 ⟨b1,3,none⟩=some (.slice p25 l25 c25)∧
 stI h101 ⟨b98,0,none⟩ (.slice p17 l17 c17) fun h102=>
 stI h102 ⟨b98,1,none⟩ (.slice (some ⟨b27,0,none⟩) ((IntKind.wrap .i64 ((l25:Int)+1)).toNat) ((IntKind.wrap .i64 ((l25:Int)+1)).toNat)) fun h103=>
 stI h103 ⟨b98,2,none⟩ (.slice (some ⟨b100,0,none⟩) ((IntKind.wrap .i64 ((l26:Int)+1)).toNat) ((IntKind.wrap .i64 ((l26:Int)+1)).toNat)) fun h104=>
 ldSlice h104 ⟨b98,1,none⟩ fun p105 l105 c105=>
 ldInt .i64 h104 ⟨b1,0,none⟩ fun n106=>
 idxI p105 0 l105 fun a107=>
 ldSlice h104 ⟨b98,2,none⟩ fun p108 l108 c108=>
 stI h104 (a107.add ((0:Int).toNat*1)) (.int .i64 n106) fun h109=>
 cellH h109 ⟨b98,2,none⟩=some (.slice p108 l108 c108)∧
 idxI p108 0 l108 fun a110=>
 stI h109 (a110.add ((0:Int).toNat*1)) (.int .i64 1) fun h111=>
 LoopS (S:=Y7) (fun K1 s h=>graph_look_l10 Q K1 s.1 s.2.1 s.2.2.1 s.2.2.2.1.1 s.2.2.2.1.2.1 s.2.2.2.1.2.2 s.2.2.2.2.1 s.2.2.2.2.2.1 h) (⟨b1,0,none⟩,⟨b3,0,none⟩,⟨b98,0,none⟩,(p17,l17,c17),(l17:Int),(0:Int),()) h111))∧(
 (
 mkI 3 1 8 (.int .i64 0) (IntKind.wrap .i64 ((l26:Int)+1)) (IntKind.wrap .i64 ((l26:Int)+1)) h15 fun b167 h168=>
 cellH h168 ⟨b1,3,none⟩=some (.slice p26 l26 c26)∧
 cellH h168 ⟨b1,3,none⟩=some (.slice p25 l25 c25)∧
 (
 mkI 3 1 8 (.int .i64 0) (IntKind.wrap .i64 ((l25:Int)+1)) (IntKind.wrap .i64 ((l25:Int)+1)) h168 fun b169 h170=>
 cellH h170 ⟨b1,3,none⟩=some (.slice p26 l26 c26)∧
 cellH h170 ⟨b1,3,none⟩=some (.slice p25 l25 c25)∧
 newI h170 (.cells #[(.slice none 0 0),(.slice none 0 0),(.slice none 0 0)] 139 (0,0)) fun b171 h172=>
 stI h172 ⟨b171,0,none⟩ (.slice p17 l17 c17) fun h173=>
 stI h173 ⟨b171,1,none⟩ (.slice (some ⟨b169,0,none⟩) ((IntKind.wrap .i64 ((l25:Int)+1)).toNat) ((IntKind.wrap .i64 ((l25:Int)+1)).toNat)) fun h174=>
 stI h174 ⟨b171,2,none⟩ (.slice (some ⟨b167,0,none⟩) ((IntKind.wrap .i64 ((l26:Int)+1)).toNat) ((IntKind.wrap .i64 ((l26:Int)+1)).toNat)) fun h175=>
 ldSlice h175 ⟨b171,1,none⟩ fun p176 l176 c176=>
 ldInt .i64 h175 ⟨b1,0,none⟩ fun n177=>
 idxI p176 0 l176 fun a178=>
 ldSlice h175 ⟨b171,2,none⟩ fun p179 l179 c179=>
 stI h175 (a178.add ((0:Int).toNat*1)) (.int .i64 n177) fun h180=>
 cellH h180 ⟨b171,2,none⟩=some (.slice p179 l179 c179)∧
 idxI p179 0 l179 fun a181=>
 stI h180 (a181.add ((0:Int).toNat*1)) (.int .i64 1) fun h182=>
 LoopS (S:=Y7) (fun K1 s h=>graph_look_l10 Q K1 s.1 s.2.1 s.2.2.1 s.2.2.2.1.1 s.2.2.2.1.2.1 s.2.2.2.1.2.2 s.2.2.2.2.1 s.2.2.2.2.2.1 h) (⟨b1,0,none⟩,⟨b3,0,none⟩,⟨b171,0,none⟩,(p17,l17,c17),(l17:Int),(0:Int),()) h182)∧(
 newI h168 (.cells #[(.slice none 0 0),(.slice none 0 0),(.slice none 0 0)] 139 (0,0)) fun b238 h239=>
 mkI 3 1 8 (.int .i64 0) (IntKind.wrap .i64 ((l25:Int)+1)) (IntKind.wrap .i64 ((l25:Int)+1)) h239 fun b240 h241=>
 cellH h241 ⟨b1,3,none⟩=some (.slice p26 l26 c26)∧
 cellH h241 ⟨b1,3,none⟩=some (.slice p25 l25 c25)∧
 stI h241 ⟨b238,0,none⟩ (.slice p17 l17 c17) fun h242=>
 stI h242 ⟨b238,1,none⟩ (.slice (some ⟨b240,0,none⟩) ((IntKind.wrap .i64 ((l25:Int)+1)).toNat) ((IntKind.wrap .i64 ((l25:Int)+1)).toNat)) fun h243=>
 stI h243 ⟨b238,2,none⟩ (.slice (some ⟨b167,0,none⟩) ((IntKind.wrap .i64 ((l26:Int)+1)).toNat) ((IntKind.wrap .i64 ((l26:Int)+1)).toNat)) fun h244=>
 ldSlice h244 ⟨b238,1,none⟩ fun p245 l245 c245=>
 ldInt .i64 h244 ⟨b1,0,none⟩ fun n246=>
 idxI p245 0 l245 fun a247=>
 ldSlice h244 ⟨b238,2,none⟩ fun p248 l248 c248=>
 stI h244 (a247.add ((0:Int).toNat*1)) (.int .i64 n246) fun h249=>
 cellH h249 ⟨b238,2,none⟩=some (.slice p248 l248 c248)∧
 idxI p248 0 l248 fun a250=>
 stI h249 (a250.add ((0:Int).toNat*1)) (.int .i64 1) fun h251=>
 LoopS (S:=Y7) (fun K1 s h=>graph_look_l10 Q K1 s.1 s.2.1 s.2.2.1 s.2.2.2.1.1 s.2.2.2.1.2.1 s.2.2.2.1.2.2 s.2.2.2.2.1 s.2.2.2.2.2.1 h) (⟨b1,0,none⟩,⟨b3,0,none⟩,⟨b238,0,none⟩,(p17,l17,c17),(l17:Int),(0:Int),()) h251))∧(
 newI h15 (.cells #[(.slice none 0 0),(.slice none 0 0),(.slice none 0 0)] 139 (0,0)) fun b307 h308=>
 (
 mkI 3 1 8 (.int .i64 0) (IntKind.wrap .i64 ((l25:Int)+1)) (IntKind.wrap .i64 ((l25:Int)+1)) h308 fun b309 h310=>
 cellH h310 ⟨b1,3,none⟩=some (.slice p26 l26 c26)∧
 cellH h310 ⟨b1,3,none⟩=some (.slice p25 l25 c25)∧
 mkI 3 1 8 (.int .i64 0) (IntKind.wrap .i64 ((l26:Int)+1)) (IntKind.wrap .i64 ((l26:Int)+1)) h310 fun b311 h312=>
 cellH h312 ⟨b1,3,none⟩=some (.slice p26 l26 c26)∧
 cellH h312 ⟨b1,3,none⟩=some (.slice p25 l25 c25)∧
 stI h312 ⟨b307,0,none⟩ (.slice p17 l17 c17) fun h313=>
 stI h313 ⟨b307,1,none⟩ (.slice (some ⟨b309,0,none⟩) ((IntKind.wrap .i64 ((l25:Int)+1)).toNat) ((IntKind.wrap .i64 ((l25:Int)+1)).toNat)) fun h314=>
 stI h314 ⟨b307,2,none⟩ (.slice (some ⟨b311,0,none⟩) ((IntKind.wrap .i64 ((l26:Int)+1)).toNat) ((IntKind.wrap .i64 ((l26:Int)+1)).toNat)) fun h315=>
 ldSlice h315 ⟨b307,1,none⟩ fun p316 l316 c316=>
 ldInt .i64 h315 ⟨b1,0,none⟩ fun n317=>
 idxI p316 0 l316 fun a318=>
 ldSlice h315 ⟨b307,2,none⟩ fun p319 l319 c319=>
 stI h315 (a318.add ((0:Int).toNat*1)) (.int .i64 n317) fun h320=>
 cellH h320 ⟨b307,2,none⟩=some (.slice p319 l319 c319)∧
 idxI p319 0 l319 fun a321=>
 stI h320 (a321.add ((0:Int).toNat*1)) (.int .i64 1) fun h322=>
 LoopS (S:=Y7) (fun K1 s h=>graph_look_l10 Q K1 s.1 s.2.1 s.2.2.1 s.2.2.2.1.1 s.2.2.2.1.2.1 s.2.2.2.1.2.2 s.2.2.2.2.1 s.2.2.2.2.2.1 h) (⟨b1,0,none⟩,⟨b3,0,none⟩,⟨b307,0,none⟩,(p17,l17,c17),(l17:Int),(0:Int),()) h322)∧(
 mkI 3 1 8 (.int .i64 0) (IntKind.wrap .i64 ((l26:Int)+1)) (IntKind.wrap .i64 ((l26:Int)+1)) h308 fun b378 h379=>
 cellH h379 ⟨b1,3,none⟩=some (.slice p26 l26 c26)∧
 cellH h379 ⟨b1,3,none⟩=some (.slice p25 l25 c25)∧
 mkI 3 1 8 (.int .i64 0) (IntKind.wrap .i64 ((l25:Int)+1)) (IntKind.wrap .i64 ((l25:Int)+1)) h379 fun b380 h381=>
 cellH h381 ⟨b1,3,none⟩=some (.slice p26 l26 c26)∧
 cellH h381 ⟨b1,3,none⟩=some (.slice p25 l25 c25)∧
 stI h381 ⟨b307,0,none⟩ (.slice p17 l17 c17) fun h382=>
 stI h382 ⟨b307,1,none⟩ (.slice (some ⟨b380,0,none⟩) ((IntKind.wrap .i64 ((l25:Int)+1)).toNat) ((IntKind.wrap .i64 ((l25:Int)+1)).toNat)) fun h383=>
 stI h383 ⟨b307,2,none⟩ (.slice (some ⟨b378,0,none⟩) ((IntKind.wrap .i64 ((l26:Int)+1)).toNat) ((IntKind.wrap .i64 ((l26:Int)+1)).toNat)) fun h384=>
 ldSlice h384 ⟨b307,1,none⟩ fun p385 l385 c385=>
 ldInt .i64 h384 ⟨b1,0,none⟩ fun n386=>
 idxI p385 0 l385 fun a387=>
 ldSlice h384 ⟨b307,2,none⟩ fun p388 l388 c388=>
 stI h384 (a387.add ((0:Int).toNat*1)) (.int .i64 n386) fun h389=>
 cellH h389 ⟨b307,2,none⟩=some (.slice p388 l388 c388)∧
 idxI p388 0 l388 fun a390=>
 stI h389 (a390.add ((0:Int).toNat*1)) (.int .i64 1) fun h391=>
 LoopS (S:=Y7) (fun K1 s h=>graph_look_l10 Q K1 s.1 s.2.1 s.2.2.1 s.2.2.2.1.1 s.2.2.2.1.2.1 s.2.2.2.1.2.2 s.2.2.2.2.1 s.2.2.2.2.2.1 h) (⟨b1,0,none⟩,⟨b3,0,none⟩,⟨b307,0,none⟩,(p17,l17,c17),(l17:Int),(0:Int),()) h391)))))
noncomputable def tab_graph_look:Tab:=tb (lookT .done [(7,(ones [0,1,6] (.early 2 (ones [3,4] (.early 7 (ones [8,9] (.alt 5 (.alt 10 (ones [11] (.alt 12 (.alt 13 .done .stop) .stop)) (.alt 12 (.alt 10 (ones [11] (.alt 13 .done .stop)) .stop) .stop)) (.alt 10 (.alt 5 (ones [11] (.alt 12 (.alt 13 .done .stop) .stop)) (.alt 12 (.alt 5 (ones [11] (.alt 13 .done .stop)) .stop) .stop)) (.alt 12 (.alt 5 (.alt 10 (ones [11] (.alt 13 .done .stop)) .stop) (.alt 10 (.alt 5 (ones [11] (.alt 13 .done .stop)) .stop) .stop)) .stop))))))))),(8,(ones [0,2,4,1,5,6] (.early 3 (.alt 7 (ones [8] (.alt 9 .done .stop)) .stop)))),(17,(ones [1,3] (.early 0 (.early 2 (.alt 4 (.alt 5 (.alt 6 (ones [7,8,9,10,11] .done) .stop) .stop) .stop))))),(20,(ones [0,2,3,5,7,9,6] (.early 1 (.early 4 (.alt 8 (ones [10] (.alt 11 (ones [12] (.alt 13 .done .stop)) .stop)) .stop)))))]) (lookT [] [(10,[(1,.sc (.adr)),(2,.sc (.adr)),(7,.sc (.adr)),(49,SL),(50,I6),(51,I6)])]) (lookT none [])
theorem call_graph_look (y0:TS A2) {h:Heap} {Q:VH} (H:graph_look y0 h Q):callP P n_graph_look #[(agS A2 y0)] h Q:=
 @callP_of P n_graph_look Tryz.f86 tab_graph_look [(agS A2 y0)] h Q mixed Tryz.func86 Tryz.call86 (by kernel_rfl) (Eq.mpr (by kernel_rfl) H)
def graph_Check (y0:TS A2) (h:Heap) (Q:VH):Prop:=
 newI h (.cells (mkS' A2 y0).toArray 32 (0,0)) fun b1 h2=>
 ldAg A2 h2 ⟨b1,0,none⟩ fun x3=>
 callP P n_graph_look #[(agS A2 x3)] h2 fun v5 h4=>
 ∃p6:Option Addr,∃l6:Nat,∃c6:Nat,∃p7:Option Addr,∃l7:Nat,∃c7:Nat,∃p8:Option Addr,∃l8:Nat,∃c8:Nat,∃n9:Int,v5=(.tuple #[(.agg #[(.slice p6 l6 c6),(.slice p7 l7 c7),(.slice p8 l8 c8)]),(.int .i64 n9)])∧
 newI h4 (.cells #[(.slice none 0 0),(.slice none 0 0),(.slice none 0 0)] 139 (0,0)) fun b10 h11=>
 stI h11 ⟨b10,0,none⟩ (.slice p6 l6 c6) fun h12=>
 stI h12 ⟨b10,1,none⟩ (.slice p7 l7 c7) fun h13=>
 stI h13 ⟨b10,2,none⟩ (.slice p8 l8 c8) fun h14=>
 Q (.int .i64 n9) h14
noncomputable def tab_graph_Check:Tab:=tb (lookT .done []) (lookT [] []) (lookT none [])
theorem call_graph_Check (y0:TS A2) {h:Heap} {Q:VH} (H:graph_Check y0 h Q):callP P n_graph_Check #[(agS A2 y0)] h Q:=
 @callP_of P n_graph_Check Tryz.f74 tab_graph_Check [(agS A2 y0)] h Q mixed Tryz.func74 Tryz.call74 (by kernel_rfl) (Eq.mpr (by kernel_rfl) H)
def graph_Widths (y0:TS A2) (h:Heap) (Q:VH):Prop:=
 newI h (.cells (mkS' A2 y0).toArray 32 (0,0)) fun b1 h2=>
 ldAg A2 h2 ⟨b1,0,none⟩ fun x3=>
 callP P n_graph_look #[(agS A2 x3)] h2 fun v5 h4=>
 ∃p6:Option Addr,∃l6:Nat,∃c6:Nat,∃p7:Option Addr,∃l7:Nat,∃c7:Nat,∃p8:Option Addr,∃l8:Nat,∃c8:Nat,∃n9:Int,v5=(.tuple #[(.agg #[(.slice p6 l6 c6),(.slice p7 l7 c7),(.slice p8 l8 c8)]),(.int .i64 n9)])∧
 newI h4 (.cells #[(.slice none 0 0),(.slice none 0 0),(.slice none 0 0)] 139 (0,0)) fun b10 h11=>
 stI h11 ⟨b10,0,none⟩ (.slice p6 l6 c6) fun h12=>
 stI h12 ⟨b10,1,none⟩ (.slice p7 l7 c7) fun h13=>
 stI h13 ⟨b10,2,none⟩ (.slice p8 l8 c8) fun h14=>
 ldSlice h14 ⟨b10,1,none⟩ fun p15 l15 c15=>
 Q (.slice p15 l15 c15) h14
noncomputable def tab_graph_Widths:Tab:=tb (lookT .done []) (lookT [] []) (lookT none [])
theorem call_graph_Widths (y0:TS A2) {h:Heap} {Q:VH} (H:graph_Widths y0 h Q):callP P n_graph_Widths #[(agS A2 y0)] h Q:=
 @callP_of P n_graph_Widths Tryz.f35 tab_graph_Widths [(agS A2 y0)] h Q mixed Tryz.func35 Tryz.call35 (by kernel_rfl) (Eq.mpr (by kernel_rfl) H)
def bound_same (y0 y1:Int) (h:Heap) (Q:VH):Prop:=
 newI h (.cells #[(.int .i64 0),(.int .i64 0),(.int .i64 0),(.int .i64 0)] 122 (0,0)) fun b1 h2=>
 stI h2 ⟨b1,0,none⟩ (.int .i64 y0) fun h3=>
 stI h3 ⟨b1,1,none⟩ (.int .i64 y1) fun h4=>
 stI h4 ⟨b1,2,none⟩ (.int .i64 y0) fun h5=>
 stI h5 ⟨b1,3,none⟩ (.int .i64 y1) fun h6=>
 ldInt .i64 h6 ⟨b1,0,none⟩ fun n7=>
 ldInt .i64 h6 ⟨b1,1,none⟩ fun n8=>
 ldInt .i64 h6 ⟨b1,2,none⟩ fun n9=>
 ldInt .i64 h6 ⟨b1,3,none⟩ fun n10=>
 Q (.agg #[(.int .i64 n7),(.int .i64 n8),(.int .i64 n9),(.int .i64 n10)]) h6
noncomputable def tab_bound_same:Tab:=tb (lookT .done []) (lookT [] []) (lookT none [])
theorem call_bound_same (y0 y1:Int) {h:Heap} {Q:VH} (H:bound_same y0 y1 h Q):callP P n_bound_same #[(.int .i64 y0),(.int .i64 y1)] h Q:=
 @callP_of P n_bound_same Tryz.f75 tab_bound_same [(.int .i64 y0),(.int .i64 y1)] h Q mixed Tryz.func75 Tryz.call75 (by kernel_rfl) (Eq.mpr (by kernel_rfl) H)
def graph_Order (y0:TS A2) (h:Heap) (Q:VH):Prop:=
 newI h (.cells (mkS' A2 y0).toArray 32 (0,0)) fun b1 h2=>
 ldAg A2 h2 ⟨b1,0,none⟩ fun x3=>
 callP P n_graph_look #[(agS A2 x3)] h2 fun v5 h4=>
 ∃p6:Option Addr,∃l6:Nat,∃c6:Nat,∃p7:Option Addr,∃l7:Nat,∃c7:Nat,∃p8:Option Addr,∃l8:Nat,∃c8:Nat,∃n9:Int,v5=(.tuple #[(.agg #[(.slice p6 l6 c6),(.slice p7 l7 c7),(.slice p8 l8 c8)]),(.int .i64 n9)])∧
 newI h4 (.cells #[(.slice none 0 0),(.slice none 0 0),(.slice none 0 0)] 139 (0,0)) fun b10 h11=>
 stI h11 ⟨b10,0,none⟩ (.slice p6 l6 c6) fun h12=>
 stI h12 ⟨b10,1,none⟩ (.slice p7 l7 c7) fun h13=>
 stI h13 ⟨b10,2,none⟩ (.slice p8 l8 c8) fun h14=>
 ldSlice h14 ⟨b10,0,none⟩ fun p15 l15 c15=>
 Q (.slice p15 l15 c15) h14
noncomputable def tab_graph_Order:Tab:=tb (lookT .done []) (lookT [] []) (lookT none [])
theorem call_graph_Order (y0:TS A2) {h:Heap} {Q:VH} (H:graph_Order y0 h Q):callP P n_graph_Order #[(agS A2 y0)] h Q:=
 @callP_of P n_graph_Order Tryz.f37 tab_graph_Order [(agS A2 y0)] h Q mixed Tryz.func37 Tryz.call37 (by kernel_rfl) (Eq.mpr (by kernel_rfl) H)
def kind_Pads (y0:TS A1) (h:Heap) (Q:VH):Prop:=
 newI h (.cells (mkS' A1 y0).toArray 62 (0,0)) fun b1 h2=>
 ldAg A1 h2 ⟨b1,0,none⟩ fun x3=>
 callBool P n_kind_has #[(agS A1 x3),(.int .i64 1)] h2 fun b5 h4=>
 ifB b5 (
 ldInt .i64 h4 ⟨b1,6,none⟩ fun n6=>
 ldInt .i64 h4 ⟨b1,7,none⟩ fun n7=>
 Q (.tuple #[(.int .i64 n6),(.int .i64 n7)]) h4) (
 ldAg A1 h4 ⟨b1,0,none⟩ fun x8=>
 callBool P n_kind_has #[(agS A1 x8),(.int .i64 16)] h4 fun b10 h9=>
 ifB b10 (
 ldInt .i64 h9 ⟨b1,3,none⟩ fun n11=>
 Q (.tuple #[(.int .i64 (IntKind.wrap .i64 (n11-1))),(.int .i64 0)]) h9) (
 Q (.tuple #[(.int .i64 0),(.int .i64 0)]) h9))
noncomputable def tab_kind_Pads:Tab:=tb (lookT .done [(2,(ones [0,2,1,4,3,5] .done))]) (lookT [] []) (lookT none [])
theorem call_kind_Pads (y0:TS A1) {h:Heap} {Q:VH} (H:kind_Pads y0 h Q):callP P n_kind_Pads #[(agS A1 y0)] h Q:=
 @callP_of P n_kind_Pads Tryz.f120 tab_kind_Pads [(agS A1 y0)] h Q mixed Tryz.func120 Tryz.call120 (by kernel_rfl) (Eq.mpr (by kernel_rfl) H)
def bound_weighed_1_l3 (Q:VH) (K1:YH Y8) (t3 t4:Addr) (y6 y7:Int) (t29_p:OA) (t29_n t29_c:Nat) (t30 t31:Int) (h12:Heap):Prop:=
 ifB (decide (t31<t30)) (
 idxI t29_p t31 t29_n fun a13=>
 ldInt .i64 h12 (a13.add (t31.toNat*1)) fun n14=>
 ifB (decide (n14<0)) (
 ldInt .i64 h12 t3 fun n15=>
 ldInt .i64 h12 t4 fun n16=>
 K1 (t3,t4,(IntKind.wrap .i64 (y6+(IntKind.wrap .i64 (n14*n15)))),(IntKind.wrap .i64 (y7+(IntKind.wrap .i64 (n14*n16)))),(t29_p,t29_n,t29_c),t30,(IntKind.wrap .i64 (t31+1)),()) h12) (
 ldInt .i64 h12 t4 fun n17=>
 ldInt .i64 h12 t3 fun n18=>
 K1 (t3,t4,(IntKind.wrap .i64 (y6+(IntKind.wrap .i64 (n14*n17)))),(IntKind.wrap .i64 (y7+(IntKind.wrap .i64 (n14*n18)))),(t29_p,t29_n,t29_c),t30,(IntKind.wrap .i64 (t31+1)),()) h12)) (
 Q (.tuple #[(.int .i64 y6),(.int .i64 y7)]) h12)
def bound_weighed_1 (y0:Int) (free0 free1 free2 free3:Addr) (h:Heap) (Q:VH):Prop:=
 ldSlice h (free0.add 9) fun p1 l1 c1=>
 idxI p1 y0 l1 fun a2=>
 ldInt .i64 h (a2.add (y0.toNat*1)) fun n3=>
 ldSlice h (free0.add 9) fun p4 l4 c4=>
 idxI p4 y0 l4 fun a5=>
 ldInt .i64 h (a5.add (y0.toNat*1)) fun n6=>
 ldSlice h (free0.add 8) fun p7 l7 c7=>
 ldInt .i64 h free1 fun n8=>
 ldInt .i64 h free1 fun n9=>
 bndI (IntKind.wrap .i64 ((IntKind.wrap .i64 (y0+1))*n9)) c7 fun l10=>
 bndI (IntKind.wrap .i64 (y0*n8)) l10 fun l11=>
 LoopS (S:=Y8) (fun K1 s h=>bound_weighed_1_l3 Q K1 s.1 s.2.1 s.2.2.1 s.2.2.2.1 s.2.2.2.2.1.1 s.2.2.2.2.1.2.1 s.2.2.2.2.1.2.2 s.2.2.2.2.2.1 s.2.2.2.2.2.2.1 h) (free2,free3,n3,n6,((if c7=l11 then p7 else Option.map (fun a=>a.add (l11*1)) p7),(l10-l11),(c7-l11)),(((l10-l11):Nat):Int),(0:Int),()) h
noncomputable def tab_bound_weighed_1:Tab:=tb (lookT .done [(1,(ones [0,2,5,7,1,3,4,10,6,8,9,11] .done)),(6,(ones [0,1,5,6,2,3,4,10,7,8,9,11] .done)),(7,(ones [0,1,5,6,2,3,4,10,7,8,9,11] .done))]) (lookT [] [(3,[(3,.sc (.adr)),(4,.sc (.adr)),(6,I6),(7,I6),(29,SL),(30,I6),(31,I6)])]) (lookT none [])
theorem call_bound_weighed_1 (y0:Int) (free0 free1 free2 free3:Addr) {h:Heap} {Q:VH} (H:bound_weighed_1 y0 free0 free1 free2 free3 h Q):callP P n_bound_weighed_1 #[(.int .i64 y0),(.pointer (some free0)),(.pointer (some free1)),(.pointer (some free2)),(.pointer (some free3))] h Q:=
 @callP_of P n_bound_weighed_1 Tryz.f180 tab_bound_weighed_1 [(.int .i64 y0),(.pointer (some free0)),(.pointer (some free1)),(.pointer (some free2)),(.pointer (some free3))] h Q mixed Tryz.func180 Tryz.call180 (by kernel_rfl) (Eq.mpr (by kernel_rfl) H)
def sat_ends (y0:Int) (h:Heap) (Q:VH):Prop:=
 ifB (decide (y0<1)) (
 Q (.tuple #[(.int .i64 0),(.int .i64 0),(.bool false)]) h) (
 ifB (decide (y0>64)) (
 Q (.tuple #[(.int .i64 0),(.int .i64 0),(.bool false)]) h) (
 nonnegI (IntKind.wrap .i64 ((64:Int)-y0)) fun _=>
 Q (.tuple #[(.int .i64 (shrI (-9223372036854775808:Int) (min (IntKind.wrap .i64 ((64:Int)-y0)).toNat 64))),(.int .i64 (xorI .i64 (-1) (shrI (-9223372036854775808:Int) (min (IntKind.wrap .i64 ((64:Int)-y0)).toNat 64)))),(.bool true)]) h))
noncomputable def tab_sat_ends:Tab:=tb (lookT .done []) (lookT [] []) (lookT none [])
theorem call_sat_ends (y0:Int) {h:Heap} {Q:VH} (H:sat_ends y0 h Q):callP P n_sat_ends #[(.int .i64 y0)] h Q:=
 @callP_of P n_sat_ends Tryz.f223 tab_sat_ends [(.int .i64 y0)] h Q mixed Tryz.func223 Tryz.call223 (by kernel_rfl) (Eq.mpr (by kernel_rfl) H)
def sat_Clamp (y0 y1 y2:Int) (h:Heap) (Q:VH):Prop:=
 ifB (decide (y0<y1)) (
 Q (.int .i64 y1) h) (
 ifB (decide (y0>y2)) (
 Q (.int .i64 y2) h) (
 Q (.int .i64 y0) h))
noncomputable def tab_sat_Clamp:Tab:=tb (lookT .done []) (lookT [] []) (lookT none [])
theorem call_sat_Clamp (y0 y1 y2:Int) {h:Heap} {Q:VH} (H:sat_Clamp y0 y1 y2 h Q):callP P n_sat_Clamp #[(.int .i64 y0),(.int .i64 y1),(.int .i64 y2)] h Q:=
 @callP_of P n_sat_Clamp Tryz.f123 tab_sat_Clamp [(.int .i64 y0),(.int .i64 y1),(.int .i64 y2)] h Q mixed Tryz.func123 Tryz.call123 (by kernel_rfl) (Eq.mpr (by kernel_rfl) H)
def sat_Sat (y0 y1:Int) (h:Heap) (Q:VH):Prop:=
 callP P n_sat_ends #[(.int .i64 y1)] h fun v2 h1=>
 ∃n3:Int,∃n4:Int,∃b5:Bool,v2=(.tuple #[(.int .i64 n3),(.int .i64 n4),(.bool b5)])∧
 ifB (!b5) (
 Q (.int .i64 0) h1) (
 callInt P .i64 n_sat_Clamp #[(.int .i64 y0),(.int .i64 n3),(.int .i64 n4)] h1 fun n7 h6=>
 Q (.int .i64 n7) h6)
noncomputable def tab_sat_Sat:Tab:=tb (lookT .done []) (lookT [] []) (lookT none [])
theorem call_sat_Sat (y0 y1:Int) {h:Heap} {Q:VH} (H:sat_Sat y0 y1 h Q):callP P n_sat_Sat #[(.int .i64 y0),(.int .i64 y1)] h Q:=
 @callP_of P n_sat_Sat Tryz.f183 tab_sat_Sat [(.int .i64 y0),(.int .i64 y1)] h Q mixed Tryz.func183 Tryz.call183 (by kernel_rfl) (Eq.mpr (by kernel_rfl) H)
def sat_Mul (y0 y1:Int) (h:Heap) (Q:VH):Prop:=
 ifB (y0==0) (
 Q (.tuple #[(.int .i64 0),(.bool true)]) h) (
 ifB (y1==0) (
 Q (.tuple #[(.int .i64 0),(.bool true)]) h) (
 neI y1 fun _=>
 ifB ((IntKind.wrap .i64 (Int.tdiv (IntKind.wrap .i64 (y0*y1)) y1)) !=y0) (
 Q (.tuple #[(.int .i64 0),(.bool false)]) h) (
 ifB (y0==(-1:Int)) (
 ifB (y1==(-9223372036854775808:Int)) (
 Q (.tuple #[(.int .i64 0),(.bool false)]) h) (
 ifB (y1==(-1:Int)) (
 ifB (y0==(-9223372036854775808:Int)) (
 Q (.tuple #[(.int .i64 0),(.bool false)]) h) (
 Q (.tuple #[(.int .i64 (IntKind.wrap .i64 (y0*y1))),(.bool true)]) h)) (
 Q (.tuple #[(.int .i64 (IntKind.wrap .i64 (y0*y1))),(.bool true)]) h))) (
 ifB (y1==(-1:Int)) (
 ifB (y0==(-9223372036854775808:Int)) (
 Q (.tuple #[(.int .i64 0),(.bool false)]) h) (
 Q (.tuple #[(.int .i64 (IntKind.wrap .i64 (y0*y1))),(.bool true)]) h)) (
 Q (.tuple #[(.int .i64 (IntKind.wrap .i64 (y0*y1))),(.bool true)]) h)))))
noncomputable def tab_sat_Mul:Tab:=tb (lookT .done []) (lookT [] []) (lookT none [])
theorem call_sat_Mul (y0 y1:Int) {h:Heap} {Q:VH} (H:sat_Mul y0 y1 h Q):callP P n_sat_Mul #[(.int .i64 y0),(.int .i64 y1)] h Q:=
 @callP_of P n_sat_Mul Tryz.f184 tab_sat_Mul [(.int .i64 y0),(.int .i64 y1)] h Q mixed Tryz.func184 Tryz.call184 (by kernel_rfl) (Eq.mpr (by kernel_rfl) H)
def round_Parts (y0 y1:Int) (h:Heap) (Q:VH):Prop:=
 ifB (decide (y1<1)) (
 Q (.tuple #[(.int .i64 0),(.int .i64 0)]) h) (
 neI y1 fun _=>
 neI y1 fun _=>
 ifB (decide ((Int.tmod y0 y1)<0)) (
 Q (.tuple #[(.int .i64 (IntKind.wrap .i64 ((IntKind.wrap .i64 (Int.tdiv y0 y1))-1))),(.int .i64 (IntKind.wrap .i64 ((Int.tmod y0 y1)+y1)))]) h) (
 Q (.tuple #[(.int .i64 (IntKind.wrap .i64 (Int.tdiv y0 y1))),(.int .i64 (Int.tmod y0 y1))]) h))
noncomputable def tab_round_Parts:Tab:=tb (lookT .done [(3,(ones [0,1,2,3,4,5,6,7] .done))]) (lookT [] []) (lookT none [])
theorem call_round_Parts (y0 y1:Int) {h:Heap} {Q:VH} (H:round_Parts y0 y1 h Q):callP P n_round_Parts #[(.int .i64 y0),(.int .i64 y1)] h Q:=
 @callP_of P n_round_Parts Tryz.f237 tab_round_Parts [(.int .i64 y0),(.int .i64 y1)] h Q mixed Tryz.func237 Tryz.call237 (by kernel_rfl) (Eq.mpr (by kernel_rfl) H)
def round_Div_1 (free0 free1:Addr) (h:Heap) (Q:VH):Prop:=
 ldInt .i64 h free0 fun n1=>
 ifB (decide (n1>0)) (
 ldInt .i64 h free1 fun n2=>
 ldInt .i64 h free0 fun n3=>
 ldInt .i64 h free1 fun n4=>
 Q (.bool (decide (n2≥(IntKind.wrap .i64 (n3-n4))))) h) (
 Q (.bool false) h)
noncomputable def tab_round_Div_1:Tab:=tb (lookT .done []) (lookT [] []) (lookT none [])
theorem call_round_Div_1 (free0 free1:Addr) {h:Heap} {Q:VH} (H:round_Div_1 free0 free1 h Q):callP P n_round_Div_1 #[(.pointer (some free0)),(.pointer (some free1))] h Q:=
 @callP_of P n_round_Div_1 Tryz.f238 tab_round_Div_1 [(.pointer (some free0)),(.pointer (some free1))] h Q mixed Tryz.func238 Tryz.call238 (by kernel_rfl) (Eq.mpr (by kernel_rfl) H)
def round_Div (y0 y1:Int) (h:Heap) (Q:VH):Prop:=
 newI h (.cells #[(.int .i64 y1)] 3 (0,0)) fun b1 h2=>
 ldInt .i64 h2 ⟨b1,0,none⟩ fun n3=>
 callP P n_round_Parts #[(.int .i64 y0),(.int .i64 n3)] h2 fun v5 h4=>
 ∃n6:Int,∃n7:Int,v5=(.tuple #[(.int .i64 n6),(.int .i64 n7)])∧
 newI h4 (.cells #[(.int .i64 0)] 3 (0,0)) fun b8 h9=>
 stI h9 ⟨b8,0,none⟩ (.int .i64 n7) fun h10=>
 callBool P n_round_Div_1 #[(.pointer (some ⟨b1,0,none⟩)),(.pointer (some ⟨b8,0,none⟩))] h10 fun b12 h11=>
 ifB b12 (
 Q (.int .i64 (IntKind.wrap .i64 (n6+1))) h11) (
 Q (.int .i64 n6) h11)
noncomputable def tab_round_Div:Tab:=tb (lookT .done []) (lookT [] []) (lookT none [])
theorem call_round_Div (y0 y1:Int) {h:Heap} {Q:VH} (H:round_Div y0 y1 h Q):callP P n_round_Div #[(.int .i64 y0),(.int .i64 y1)] h Q:=
 @callP_of P n_round_Div Tryz.f224 tab_round_Div [(.int .i64 y0),(.int .i64 y1)] h Q mixed Tryz.func224 Tryz.call224 (by kernel_rfl) (Eq.mpr (by kernel_rfl) H)
def round_Half (y0 y1:Int) (h:Heap) (Q:VH):Prop:=
 ifB (decide (y1<0)) (
 Q (.int .i64 0) h) (
 ifB (decide (y1>62)) (
 Q (.int .i64 0) h) (
 nonnegI y1 fun _=>
 callInt P .i64 n_round_Div #[(.int .i64 y0),(.int .i64 (shlI .i64 1 (min y1.toNat 64)))] h fun n2 h1=>
 Q (.int .i64 n2) h1))
noncomputable def tab_round_Half:Tab:=tb (lookT .done []) (lookT [] []) (lookT none [])
theorem call_round_Half (y0 y1:Int) {h:Heap} {Q:VH} (H:round_Half y0 y1 h Q):callP P n_round_Half #[(.int .i64 y0),(.int .i64 y1)] h Q:=
 @callP_of P n_round_Half Tryz.f185 tab_round_Half [(.int .i64 y0),(.int .i64 y1)] h Q mixed Tryz.func185 Tryz.call185 (by kernel_rfl) (Eq.mpr (by kernel_rfl) H)
def round_Scale_j3 (Q:VH) (y0 y1 y2:Int) (h2:Heap):Prop:=
 callP P n_sat_Mul #[(.int .i64 y0),(.int .i64 y1)] h2 fun v4 h3=>
 ∃n5:Int,∃b6:Bool,v4=(.tuple #[(.int .i64 n5),(.bool b6)])∧
 ifB (!b6) (
 ifB (decide (y0<0)) (
 Q (.int .i64 (-2147483648:Int)) h3) (
 ifB (!b6) (
 Q (.int .i64 2147483647) h3) (
 callInt P .i64 n_round_Half #[(.int .i64 n5),(.int .i64 y2)] h3 fun n8 h7=>
 callInt P .i64 n_sat_Sat #[(.int .i64 n8),(.int .i64 32)] h7 fun n10 h9=>
 Q (.int .i64 n10) h9))) (
 ifB (!b6) (
 Q (.int .i64 2147483647) h3) (
 callInt P .i64 n_round_Half #[(.int .i64 n5),(.int .i64 y2)] h3 fun n12 h11=>
 callInt P .i64 n_sat_Sat #[(.int .i64 n12),(.int .i64 32)] h11 fun n14 h13=>
 Q (.int .i64 n14) h13))
def round_Scale (y0 y1 y2:Int) (h:Heap) (Q:VH):Prop:=
 ∃J1:(Int×Int×Int×Unit)→Heap→Prop,(∀s h,J1 s h→round_Scale_j3 Q s.1 s.2.1 s.2.2.1 h)∧
 ifB (decide (y1≥0)) (
 ifB (decide (y1≤32767)) (
 ifB (decide (y2≥0)) (
 ifB (!(decide (y2≤30))) (
 Q (.int .i64 0) h) (
 J1 (y0,y1,y2,()) h)) (
 ifB (!false) (
 Q (.int .i64 0) h) (
 J1 (y0,y1,y2,()) h))) (
 ifB (!false) (
 Q (.int .i64 0) h) (
 J1 (y0,y1,y2,()) h))) (
 ifB (!false) (
 Q (.int .i64 0) h) (
 J1 (y0,y1,y2,()) h))
noncomputable def tab_round_Scale:Tab:=tb (lookT .done []) (lookT [] []) (lookT none [(3,some [(0,I6),(1,I6),(2,I6)])])
theorem call_round_Scale (y0 y1 y2:Int) {h:Heap} {Q:VH} (H:round_Scale y0 y1 y2 h Q):callP P n_round_Scale #[(.int .i64 y0),(.int .i64 y1),(.int .i64 y2)] h Q:=
 @callP_of P n_round_Scale Tryz.f124 tab_round_Scale [(.int .i64 y0),(.int .i64 y1),(.int .i64 y2)] h Q mixed Tryz.func124 Tryz.call124 (by kernel_rfl) (Eq.mpr (by kernel_rfl) H)
def bound_post (y0:TS A1) (y1:Int) (h:Heap) (Q:VH):Prop:=
 newI h (.cells (mkS' A1 y0).toArray 62 (0,0)) fun b1 h2=>
 callInt P .i64 n_sat_Sat #[(.int .i64 y1),(.int .i64 32)] h2 fun n4 h3=>
 ldInt .i64 h3 ⟨b1,14,none⟩ fun n5=>
 ifB ((andI .i64 n5 1) !=0) (
 ldInt .i64 h3 ⟨b1,10,none⟩ fun n6=>
 ldInt .i64 h3 ⟨b1,11,none⟩ fun n7=>
 callInt P .i64 n_round_Scale #[(.int .i64 n4),(.int .i64 n6),(.int .i64 n7)] h3 fun n9 h8=>
 ldInt .i64 h8 ⟨b1,14,none⟩ fun n10=>
 ifB ((andI .i64 n10 2) !=0) (
 ldInt .i64 h8 ⟨b1,12,none⟩ fun n11=>
 ldInt .i64 h8 ⟨b1,13,none⟩ fun n12=>
 callInt P .i64 n_sat_Clamp #[(.int .i64 n9),(.int .i64 n11),(.int .i64 n12)] h8 fun n14 h13=>
 Q (.int .i64 n14) h13) (
 Q (.int .i64 n9) h8)) (
 ldInt .i64 h3 ⟨b1,14,none⟩ fun n15=>
 ifB ((andI .i64 n15 2) !=0) (
 ldInt .i64 h3 ⟨b1,12,none⟩ fun n16=>
 ldInt .i64 h3 ⟨b1,13,none⟩ fun n17=>
 callInt P .i64 n_sat_Clamp #[(.int .i64 n4),(.int .i64 n16),(.int .i64 n17)] h3 fun n19 h18=>
 Q (.int .i64 n19) h18) (
 Q (.int .i64 n4) h3))
noncomputable def tab_bound_post:Tab:=tb (lookT .done []) (lookT [] []) (lookT none [])
theorem call_bound_post (y0:TS A1) (y1:Int) {h:Heap} {Q:VH} (H:bound_post y0 y1 h Q):callP P n_bound_post #[(agS A1 y0),(.int .i64 y1)] h Q:=
 @callP_of P n_bound_post Tryz.f181 tab_bound_post [(agS A1 y0),(.int .i64 y1)] h Q mixed Tryz.func181 Tryz.call181 (by kernel_rfl) (Eq.mpr (by kernel_rfl) H)
def bound_weighed_l6 (Q:VH) (K1:YH Y9) (y3 t6 ends_8_c0 ends_8_c1 ends_8_c2 ends_8_c3 y9:Addr) (t30 t31:Int) (h23:Heap):Prop:=
 ifB (decide (t31<t30)) (
 callP P n_bound_weighed_1 #[(.int .i64 t31),(.pointer (some ends_8_c0)),(.pointer (some ends_8_c1)),(.pointer (some ends_8_c2)),(.pointer (some ends_8_c3))] h23 fun v25 h24=>
 ∃n26:Int,∃n27:Int,v25=(.tuple #[(.int .i64 n26),(.int .i64 n27)])∧
 ldInt .i64 h24 (y9.add 2) fun n28=>
 ldInt .i64 h24 (y9.add 3) fun n29=>
 stI h24 (y9.add 2) (.int .i64 (if n26<n28 then n26 else n28)) fun h30=>
 stI h30 (y9.add 3) (.int .i64 (if n27>n29 then n27 else n29)) fun h31=>
 K1 (y3,t6,((()),(ends_8_c0,ends_8_c1,ends_8_c2,ends_8_c3,())),y9,t30,(IntKind.wrap .i64 (t31+1)),()) h31) (
 ldAg A1 h23 y3 fun x32=>
 ldInt .i64 h23 (y9.add 2) fun n33=>
 ldAg A1 h23 y3 fun x34=>
 ldInt .i64 h23 (y9.add 3) fun n35=>
 callInt P .i64 n_bound_post #[(agS A1 x32),(.int .i64 n33)] h23 fun n37 h36=>
 cellH h36 (y9.add 3)=some (.int .i64 n35)∧
 holdW (watchL 0 y3 (mkS' A1 x34) 0) h36 (
 callInt P .i64 n_bound_post #[(agS A1 x34),(.int .i64 n35)] h36 fun n39 h38=>
 cellH h38 (y9.add 2)=some (.int .i64 n33)∧
 holdW (watchL 0 y3 (mkS' A1 x32) 0) h38 (
 stI h38 y9 (.int .i64 n37) fun h40=>
 holdW (watchL 0 y3 (mkS' A1 x34) 0) h40 (
 stI h40 (y9.add 1) (.int .i64 n39) fun h41=>
 ldInt .i64 h41 y9 fun n42=>
 ldInt .i64 h41 (y9.add 1) fun n43=>
 ldInt .i64 h41 (y9.add 2) fun n44=>
 ldInt .i64 h41 (y9.add 3) fun n45=>
 stI h41 t6 (.int .i64 n42) fun h46=>
 stI h46 (t6.add 1) (.int .i64 n43) fun h47=>
 stI h47 (t6.add 2) (.int .i64 n44) fun h48=>
 stI h48 (t6.add 3) (.int .i64 n45) fun h49=>
 ldInt .i64 h49 t6 fun n50=>
 ldInt .i64 h49 (t6.add 1) fun n51=>
 ldInt .i64 h49 (t6.add 2) fun n52=>
 ldInt .i64 h49 (t6.add 3) fun n53=>
 Q (.agg #[(.int .i64 n50),(.int .i64 n51),(.int .i64 n52),(.int .i64 n53)]) h49))))
def bound_weighed (y0:TS A1) (y1 y2:Int) (h:Heap) (Q:VH):Prop:=
 newI h (.cells (mkS' A1 y0).toArray 62 (0,0)) fun b1 h2=>
 newI h2 (.cells #[(.int .i64 y1)] 3 (0,0)) fun b3 h4=>
 newI h4 (.cells #[(.int .i64 y2)] 3 (0,0)) fun b5 h6=>
 newI h6 (.cells #[(.int .i64 0),(.int .i64 0),(.int .i64 0),(.int .i64 0)] 122 (0,0)) fun b7 h8=>
 ldSlice h8 ⟨b1,8,none⟩ fun p9 l9 c9=>
 ldSlice h8 ⟨b1,9,none⟩ fun p10 l10 c10=>
 neI (l10:Int) fun _=>
 newI h8 (.cells #[(.int .i64 0)] 3 (0,0)) fun b11 h12=>
 stI h12 ⟨b11,0,none⟩ (.int .i64 (IntKind.wrap .i64 (Int.tdiv (l9:Int) (l10:Int)))) fun h13=>
 newI h13 (.cells #[(.int .i64 0),(.int .i64 0),(.int .i64 0),(.int .i64 0)] 122 (0,0)) fun b14 h15=>
 callP P n_bound_weighed_1 #[(.int .i64 0),(.pointer (some ⟨b1,0,none⟩)),(.pointer (some ⟨b11,0,none⟩)),(.pointer (some ⟨b5,0,none⟩)),(.pointer (some ⟨b3,0,none⟩))] h15 fun v17 h16=>
 ∃n18:Int,∃n19:Int,v17=(.tuple #[(.int .i64 n18),(.int .i64 n19)])∧
 stI h16 ⟨b14,2,none⟩ (.int .i64 n18) fun h20=>
 stI h20 ⟨b14,3,none⟩ (.int .i64 n19) fun h21=>
 ldSlice h21 ⟨b1,9,none⟩ fun p22 l22 c22=>
 LoopS (S:=Y9) (fun K1 s h=>bound_weighed_l6 Q K1 s.1 s.2.1 s.2.2.1.2.1 s.2.2.1.2.2.1 s.2.2.1.2.2.2.1 s.2.2.1.2.2.2.2.1 s.2.2.2.1 s.2.2.2.2.1 s.2.2.2.2.2.1 h) (⟨b1,0,none⟩,⟨b7,0,none⟩,((()),(⟨b1,0,none⟩,⟨b11,0,none⟩,⟨b5,0,none⟩,⟨b3,0,none⟩,())),⟨b14,0,none⟩,(l22:Int),(0:Int),()) h21
noncomputable def tab_bound_weighed:Tab:=tb (lookT .done [(11,(ones [1,5] (.early 0 (.early 2 (.early 4 (.early 6 (.alt 3 (ones [8] (.alt 7 (.alt 9 (ones [10] (.alt 11 .done .stop)) .stop) .stop)) .stop)))))))]) (lookT [] [(6,[(3,.sc (.adr)),(6,.sc (.adr)),(8,.fn 180 [] [.adr,.adr,.adr,.adr]),(9,.sc (.adr)),(30,I6),(31,I6)])]) (lookT none [])
theorem call_bound_weighed (y0:TS A1) (y1 y2:Int) {h:Heap} {Q:VH} (H:bound_weighed y0 y1 y2 h Q):callP P n_bound_weighed #[(agS A1 y0),(.int .i64 y1),(.int .i64 y2)] h Q:=
 @callP_of P n_bound_weighed Tryz.f121 tab_bound_weighed [(agS A1 y0),(.int .i64 y1),(.int .i64 y2)] h Q mixed Tryz.func121 Tryz.call121 (by kernel_rfl) (Eq.mpr (by kernel_rfl) H)
def sat_Add_1 (y0:Int) (free0 free1:Addr) (h:Heap) (Q:VH):Prop:=
 ifB (decide (y0>0)) (
 ldInt .i64 h free0 fun n1=>
 ifB (decide (n1>(IntKind.wrap .i64 ((9223372036854775807:Int)-y0)))) (
 stI h free0 (.int .i64 9223372036854775807) fun h2=>
 ldInt .i64 h2 free0 fun n3=>
 ldInt .i64 h2 free1 fun n4=>
 callInt P .i64 n_sat_Sat #[(.int .i64 n3),(.int .i64 n4)] h2 fun n6 h5=>
 stI h5 free0 (.int .i64 n6) fun h7=>
 Q (.tuple #[]) h7) (
 ifB (decide (y0<0)) (
 ldInt .i64 h free0 fun n8=>
 ifB (decide (n8<(IntKind.wrap .i64 ((-9223372036854775808:Int)-y0)))) (
 stI h free0 (.int .i64 (-9223372036854775808:Int)) fun h9=>
 ldInt .i64 h9 free0 fun n10=>
 ldInt .i64 h9 free1 fun n11=>
 callInt P .i64 n_sat_Sat #[(.int .i64 n10),(.int .i64 n11)] h9 fun n13 h12=>
 stI h12 free0 (.int .i64 n13) fun h14=>
 Q (.tuple #[]) h14) (
 ldInt .i64 h free0 fun n15=>
 stI h free0 (.int .i64 (IntKind.wrap .i64 (n15+y0))) fun h16=>
 ldInt .i64 h16 free0 fun n17=>
 ldInt .i64 h16 free1 fun n18=>
 callInt P .i64 n_sat_Sat #[(.int .i64 n17),(.int .i64 n18)] h16 fun n20 h19=>
 stI h19 free0 (.int .i64 n20) fun h21=>
 Q (.tuple #[]) h21)) (
 ldInt .i64 h free0 fun n22=>
 stI h free0 (.int .i64 (IntKind.wrap .i64 (n22+y0))) fun h23=>
 ldInt .i64 h23 free0 fun n24=>
 ldInt .i64 h23 free1 fun n25=>
 callInt P .i64 n_sat_Sat #[(.int .i64 n24),(.int .i64 n25)] h23 fun n27 h26=>
 stI h26 free0 (.int .i64 n27) fun h28=>
 Q (.tuple #[]) h28))) (
 ifB (decide (y0<0)) (
 ldInt .i64 h free0 fun n29=>
 ifB (decide (n29<(IntKind.wrap .i64 ((-9223372036854775808:Int)-y0)))) (
 stI h free0 (.int .i64 (-9223372036854775808:Int)) fun h30=>
 ldInt .i64 h30 free0 fun n31=>
 ldInt .i64 h30 free1 fun n32=>
 callInt P .i64 n_sat_Sat #[(.int .i64 n31),(.int .i64 n32)] h30 fun n34 h33=>
 stI h33 free0 (.int .i64 n34) fun h35=>
 Q (.tuple #[]) h35) (
 ldInt .i64 h free0 fun n36=>
 stI h free0 (.int .i64 (IntKind.wrap .i64 (n36+y0))) fun h37=>
 ldInt .i64 h37 free0 fun n38=>
 ldInt .i64 h37 free1 fun n39=>
 callInt P .i64 n_sat_Sat #[(.int .i64 n38),(.int .i64 n39)] h37 fun n41 h40=>
 stI h40 free0 (.int .i64 n41) fun h42=>
 Q (.tuple #[]) h42)) (
 ldInt .i64 h free0 fun n43=>
 stI h free0 (.int .i64 (IntKind.wrap .i64 (n43+y0))) fun h44=>
 ldInt .i64 h44 free0 fun n45=>
 ldInt .i64 h44 free1 fun n46=>
 callInt P .i64 n_sat_Sat #[(.int .i64 n45),(.int .i64 n46)] h44 fun n48 h47=>
 stI h47 free0 (.int .i64 n48) fun h49=>
 Q (.tuple #[]) h49))
noncomputable def tab_sat_Add_1:Tab:=tb (lookT .done []) (lookT [] []) (lookT none [])
theorem call_sat_Add_1 (y0:Int) (free0 free1:Addr) {h:Heap} {Q:VH} (H:sat_Add_1 y0 free0 free1 h Q):callP P n_sat_Add_1 #[(.int .i64 y0),(.pointer (some free0)),(.pointer (some free1))] h Q:=
 @callP_of P n_sat_Add_1 Tryz.f182 tab_sat_Add_1 [(.int .i64 y0),(.pointer (some free0)),(.pointer (some free1))] h Q mixed Tryz.func182 Tryz.call182 (by kernel_rfl) (Eq.mpr (by kernel_rfl) H)
def sat_Add_l4 (Q:VH) (K1:YH Y10) (y5 next_6_c0 next_6_c1:Addr) (t10_p:OA) (t10_n t10_c:Nat) (t11 t12:Int) (h6:Heap):Prop:=
 ifB (decide (t12<t11)) (
 idxI t10_p t12 t10_n fun a7=>
 ldInt .i64 h6 (a7.add (t12.toNat*1)) fun n8=>
 callUnit P n_sat_Add_1 #[(.int .i64 n8),(.pointer (some next_6_c0)),(.pointer (some next_6_c1))] h6 fun h9=>
 K1 (y5,((()),(next_6_c0,next_6_c1,())),(t10_p,t10_n,t10_c),t11,(IntKind.wrap .i64 (t12+1)),()) h9) (
 ldInt .i64 h6 y5 fun n10=>
 Q (.int .i64 n10) h6)
def sat_Add (y0:Int) (y1p:OA) (y1n y1c:Nat) (h:Heap) (Q:VH):Prop:=
 newI h (.cells #[(.int .i64 y0)] 3 (0,0)) fun b1 h2=>
 newI h2 (.cells #[(.int .i64 0)] 3 (0,0)) fun b3 h4=>
 stI h4 ⟨b3,0,none⟩ (.int .i64 0) fun h5=>
 LoopS (S:=Y10) (fun K1 s h=>sat_Add_l4 Q K1 s.1 s.2.1.2.1 s.2.1.2.2.1 s.2.2.1.1 s.2.2.1.2.1 s.2.2.1.2.2 s.2.2.2.1 s.2.2.2.2.1 h) (⟨b3,0,none⟩,((()),(⟨b3,0,none⟩,⟨b1,0,none⟩,())),(y1p,y1n,y1c),(y1n:Int),(0:Int),()) h5
noncomputable def tab_sat_Add:Tab:=tb (lookT .done []) (lookT [] [(4,[(5,.sc (.adr)),(6,.fn 182 [] [.adr,.adr]),(10,SL),(11,I6),(12,I6)])]) (lookT none [])
theorem call_sat_Add (y0:Int) (y1p:OA) (y1n y1c:Nat) {h:Heap} {Q:VH} (H:sat_Add y0 y1p y1n y1c h Q):callP P n_sat_Add #[(.int .i64 y0),(.slice y1p y1n y1c)] h Q:=
 @callP_of P n_sat_Add Tryz.f122 tab_sat_Add [(.int .i64 y0),(.slice y1p y1n y1c)] h Q mixed Tryz.func122 Tryz.call122 (by kernel_rfl) (Eq.mpr (by kernel_rfl) H)
def bound_node_j14 (Q:VH) (K1:YH Y11) (y1:Int) (y3 t6:Addr) (y7 y8:Int) (y9p:OA) (y9n y9c:Nat) (y10p:OA) (y10n y10c:Nat) (y11:Addr) (h77:Heap):Prop:=
 ldInt .i64 h77 y3 fun n78=>
 ifB (n78==1) (
 ldAg A1 h77 y3 fun x79=>
 callP P n_bound_weighed #[(agS A1 x79),(.int .i64 y7),(.int .i64 y8)] h77 fun v81 h80=>
 ∃n82:Int,∃n83:Int,∃n84:Int,∃n85:Int,v81=(.agg #[(.int .i64 n82),(.int .i64 n83),(.int .i64 n84),(.int .i64 n85)])∧
 stI h80 t6 (.int .i64 n82) fun h86=>
 stI h86 (t6.add 1) (.int .i64 n83) fun h87=>
 stI h87 (t6.add 2) (.int .i64 n84) fun h88=>
 stI h88 (t6.add 3) (.int .i64 n85) fun h89=>
 ldInt .i64 h89 t6 fun n90=>
 ldInt .i64 h89 (t6.add 1) fun n91=>
 ldInt .i64 h89 (t6.add 2) fun n92=>
 ldInt .i64 h89 (t6.add 3) fun n93=>
 Q (.agg #[(.int .i64 n90),(.int .i64 n91),(.int .i64 n92),(.int .i64 n93)]) h89) (
 ifB (n78==2) (
 ldAg A1 h77 y3 fun x94=>
 callP P n_bound_weighed #[(agS A1 x94),(.int .i64 y7),(.int .i64 y8)] h77 fun v96 h95=>
 ∃n97:Int,∃n98:Int,∃n99:Int,∃n100:Int,v96=(.agg #[(.int .i64 n97),(.int .i64 n98),(.int .i64 n99),(.int .i64 n100)])∧
 stI h95 t6 (.int .i64 n97) fun h101=>
 stI h101 (t6.add 1) (.int .i64 n98) fun h102=>
 stI h102 (t6.add 2) (.int .i64 n99) fun h103=>
 stI h103 (t6.add 3) (.int .i64 n100) fun h104=>
 ldInt .i64 h104 t6 fun n105=>
 ldInt .i64 h104 (t6.add 1) fun n106=>
 ldInt .i64 h104 (t6.add 2) fun n107=>
 ldInt .i64 h104 (t6.add 3) fun n108=>
 Q (.agg #[(.int .i64 n105),(.int .i64 n106),(.int .i64 n107),(.int .i64 n108)]) h104) (
 ifB (n78==6) (
 ldAg A1 h77 y3 fun x109=>
 callP P n_bound_weighed #[(agS A1 x109),(.int .i64 y7),(.int .i64 y8)] h77 fun v111 h110=>
 ∃n112:Int,∃n113:Int,∃n114:Int,∃n115:Int,v111=(.agg #[(.int .i64 n112),(.int .i64 n113),(.int .i64 n114),(.int .i64 n115)])∧
 stI h110 t6 (.int .i64 n112) fun h116=>
 stI h116 (t6.add 1) (.int .i64 n113) fun h117=>
 stI h117 (t6.add 2) (.int .i64 n114) fun h118=>
 stI h118 (t6.add 3) (.int .i64 n115) fun h119=>
 ldInt .i64 h119 t6 fun n120=>
 ldInt .i64 h119 (t6.add 1) fun n121=>
 ldInt .i64 h119 (t6.add 2) fun n122=>
 ldInt .i64 h119 (t6.add 3) fun n123=>
 Q (.agg #[(.int .i64 n120),(.int .i64 n121),(.int .i64 n122),(.int .i64 n123)]) h119) (
 ifB (n78==4) (
 ldInt .i64 h77 (y3.add 3) fun n124=>
 ldInt .i64 h77 (y3.add 3) fun n125=>
 stI h77 t6 (.int .i64 y7) fun h126=>
 stI h126 (t6.add 1) (.int .i64 y8) fun h127=>
 stI h127 (t6.add 2) (.int .i64 (IntKind.wrap .i64 (n124*y7))) fun h128=>
 stI h128 (t6.add 3) (.int .i64 (IntKind.wrap .i64 (n125*y8))) fun h129=>
 ldInt .i64 h129 t6 fun n130=>
 ldInt .i64 h129 (t6.add 1) fun n131=>
 ldInt .i64 h129 (t6.add 2) fun n132=>
 ldInt .i64 h129 (t6.add 3) fun n133=>
 Q (.agg #[(.int .i64 n130),(.int .i64 n131),(.int .i64 n132),(.int .i64 n133)]) h129) (
 ifB (n78==12) (
 ldInt .i64 h77 (y3.add 3) fun n134=>
 ldInt .i64 h77 (y3.add 3) fun n135=>
 stI h77 t6 (.int .i64 y7) fun h136=>
 stI h136 (t6.add 1) (.int .i64 y8) fun h137=>
 stI h137 (t6.add 2) (.int .i64 (IntKind.wrap .i64 (n134*y7))) fun h138=>
 stI h138 (t6.add 3) (.int .i64 (IntKind.wrap .i64 (n135*y8))) fun h139=>
 ldInt .i64 h139 t6 fun n140=>
 ldInt .i64 h139 (t6.add 1) fun n141=>
 ldInt .i64 h139 (t6.add 2) fun n142=>
 ldInt .i64 h139 (t6.add 3) fun n143=>
 Q (.agg #[(.int .i64 n140),(.int .i64 n141),(.int .i64 n142),(.int .i64 n143)]) h139) (
 ifB (n78==7) (
 callInt P .i64 n_sat_Add #[(.int .i64 32),(.slice y9p y9n y9c)] h77 fun n145 h144=>
 callInt P .i64 n_sat_Add #[(.int .i64 32),(.slice y10p y10n y10c)] h144 fun n147 h146=>
 stI h146 y11 (.int .i64 n145) fun h148=>
 stI h148 (y11.add 1) (.int .i64 n147) fun h149=>
 ldInt .i64 h149 y11 fun n150=>
 ldInt .i64 h149 (y11.add 1) fun n151=>
 ldInt .i64 h149 (y11.add 2) fun n152=>
 ldInt .i64 h149 (y11.add 3) fun n153=>
 stI h149 t6 (.int .i64 n150) fun h154=>
 stI h154 (t6.add 1) (.int .i64 n151) fun h155=>
 stI h155 (t6.add 2) (.int .i64 n152) fun h156=>
 stI h156 (t6.add 3) (.int .i64 n153) fun h157=>
 ldInt .i64 h157 t6 fun n158=>
 ldInt .i64 h157 (t6.add 1) fun n159=>
 ldInt .i64 h157 (t6.add 2) fun n160=>
 ldInt .i64 h157 (t6.add 3) fun n161=>
 Q (.agg #[(.int .i64 n158),(.int .i64 n159),(.int .i64 n160),(.int .i64 n161)]) h157) (
 ifB (n78==9) (
 ldInt .i64 h77 (y3.add 12) fun n162=>
 ldInt .i64 h77 (y3.add 13) fun n163=>
 ldInt .i64 h77 (y3.add 12) fun n164=>
 ldInt .i64 h77 (y3.add 13) fun n165=>
 callInt P .i64 n_sat_Clamp #[(.int .i64 y7),(.int .i64 n162),(.int .i64 n163)] h77 fun n167 h166=>
 cellH h166 (y3.add 13)=some (.int .i64 n165)∧
 cellH h166 (y3.add 12)=some (.int .i64 n164)∧
 callInt P .i64 n_sat_Clamp #[(.int .i64 y8),(.int .i64 n164),(.int .i64 n165)] h166 fun n169 h168=>
 cellH h168 (y3.add 13)=some (.int .i64 n163)∧
 cellH h168 (y3.add 12)=some (.int .i64 n162)∧
 callP P n_bound_same #[(.int .i64 n167),(.int .i64 n169)] h168 fun v171 h170=>
 ∃n172:Int,∃n173:Int,∃n174:Int,∃n175:Int,v171=(.agg #[(.int .i64 n172),(.int .i64 n173),(.int .i64 n174),(.int .i64 n175)])∧
 cellH h170 (y3.add 13)=some (.int .i64 n165)∧
 cellH h170 (y3.add 12)=some (.int .i64 n164)∧
 cellH h170 (y3.add 13)=some (.int .i64 n163)∧
 cellH h170 (y3.add 12)=some (.int .i64 n162)∧
 stI h170 t6 (.int .i64 n172) fun h176=>
 stI h176 (t6.add 1) (.int .i64 n173) fun h177=>
 stI h177 (t6.add 2) (.int .i64 n174) fun h178=>
 stI h178 (t6.add 3) (.int .i64 n175) fun h179=>
 ldInt .i64 h179 t6 fun n180=>
 ldInt .i64 h179 (t6.add 1) fun n181=>
 ldInt .i64 h179 (t6.add 2) fun n182=>
 ldInt .i64 h179 (t6.add 3) fun n183=>
 Q (.agg #[(.int .i64 n180),(.int .i64 n181),(.int .i64 n182),(.int .i64 n183)]) h179) (
 ifB (n78==10) (
 ldInt .i64 h77 (y3.add 10) fun n184=>
 ldInt .i64 h77 (y3.add 11) fun n185=>
 ldInt .i64 h77 (y3.add 10) fun n186=>
 ldInt .i64 h77 (y3.add 11) fun n187=>
 callInt P .i64 n_round_Scale #[(.int .i64 y7),(.int .i64 n184),(.int .i64 n185)] h77 fun n189 h188=>
 cellH h188 (y3.add 11)=some (.int .i64 n187)∧
 cellH h188 (y3.add 10)=some (.int .i64 n186)∧
 callInt P .i64 n_round_Scale #[(.int .i64 y8),(.int .i64 n186),(.int .i64 n187)] h188 fun n191 h190=>
 cellH h190 (y3.add 11)=some (.int .i64 n185)∧
 cellH h190 (y3.add 10)=some (.int .i64 n184)∧
 callP P n_bound_same #[(.int .i64 n189),(.int .i64 n191)] h190 fun v193 h192=>
 ∃n194:Int,∃n195:Int,∃n196:Int,∃n197:Int,v193=(.agg #[(.int .i64 n194),(.int .i64 n195),(.int .i64 n196),(.int .i64 n197)])∧
 cellH h192 (y3.add 11)=some (.int .i64 n187)∧
 cellH h192 (y3.add 10)=some (.int .i64 n186)∧
 cellH h192 (y3.add 11)=some (.int .i64 n185)∧
 cellH h192 (y3.add 10)=some (.int .i64 n184)∧
 stI h192 t6 (.int .i64 n194) fun h198=>
 stI h198 (t6.add 1) (.int .i64 n195) fun h199=>
 stI h199 (t6.add 2) (.int .i64 n196) fun h200=>
 stI h200 (t6.add 3) (.int .i64 n197) fun h201=>
 ldInt .i64 h201 t6 fun n202=>
 ldInt .i64 h201 (t6.add 1) fun n203=>
 ldInt .i64 h201 (t6.add 2) fun n204=>
 ldInt .i64 h201 (t6.add 3) fun n205=>
 Q (.agg #[(.int .i64 n202),(.int .i64 n203),(.int .i64 n204),(.int .i64 n205)]) h201) (
 ifB (n78==11) (
 callP P n_bound_same #[(.int .i64 0),(.int .i64 (IntKind.wrap .i64 (y1-1)))] h77 fun v207 h206=>
 ∃n208:Int,∃n209:Int,∃n210:Int,∃n211:Int,v207=(.agg #[(.int .i64 n208),(.int .i64 n209),(.int .i64 n210),(.int .i64 n211)])∧
 stI h206 t6 (.int .i64 n208) fun h212=>
 stI h212 (t6.add 1) (.int .i64 n209) fun h213=>
 stI h213 (t6.add 2) (.int .i64 n210) fun h214=>
 stI h214 (t6.add 3) (.int .i64 n211) fun h215=>
 ldInt .i64 h215 t6 fun n216=>
 ldInt .i64 h215 (t6.add 1) fun n217=>
 ldInt .i64 h215 (t6.add 2) fun n218=>
 ldInt .i64 h215 (t6.add 3) fun n219=>
 Q (.agg #[(.int .i64 n216),(.int .i64 n217),(.int .i64 n218),(.int .i64 n219)]) h215) (
 callP P n_bound_same #[(.int .i64 y7),(.int .i64 y8)] h77 fun v221 h220=>
 ∃n222:Int,∃n223:Int,∃n224:Int,∃n225:Int,v221=(.agg #[(.int .i64 n222),(.int .i64 n223),(.int .i64 n224),(.int .i64 n225)])∧
 stI h220 t6 (.int .i64 n222) fun h226=>
 stI h226 (t6.add 1) (.int .i64 n223) fun h227=>
 stI h227 (t6.add 2) (.int .i64 n224) fun h228=>
 stI h228 (t6.add 3) (.int .i64 n225) fun h229=>
 ldInt .i64 h229 t6 fun n230=>
 ldInt .i64 h229 (t6.add 1) fun n231=>
 ldInt .i64 h229 (t6.add 2) fun n232=>
 ldInt .i64 h229 (t6.add 3) fun n233=>
 Q (.agg #[(.int .i64 n230),(.int .i64 n231),(.int .i64 n232),(.int .i64 n233)]) h229)))))))))
def bound_node_l5 (Q:VH) (K1:YH Y11) (y1:Int) (y3 t6:Addr) (y7 y8:Int) (y9p:OA) (y9n y9c:Nat) (y10p:OA) (y10n y10c:Nat) (y11:Addr) (t25_p:OA) (t25_n t25_c:Nat) (t26 t27:Int) (h15:Heap):Prop:=
 ifB (decide (t27<t26)) (
 idxI t25_p t27 t25_n fun a16=>
 ldInt .i64 h15 (a16.add (t27.toNat*4)) fun n17=>
 ldInt .i64 h15 (Addr.add (a16.add (t27.toNat*4)) 1) fun n18=>
 ldInt .i64 h15 (Addr.add (a16.add (t27.toNat*4)) 2) fun n19=>
 ldInt .i64 h15 (Addr.add (a16.add (t27.toNat*4)) 3) fun n20=>
 newI h15 (.cells #[(.int .i64 0),(.int .i64 0),(.int .i64 0),(.int .i64 0)] 122 (0,0)) fun b21 h22=>
 stI h22 ⟨b21,0,none⟩ (.int .i64 n17) fun h23=>
 stI h23 ⟨b21,1,none⟩ (.int .i64 n18) fun h24=>
 stI h24 ⟨b21,2,none⟩ (.int .i64 n19) fun h25=>
 stI h25 ⟨b21,3,none⟩ (.int .i64 n20) fun h26=>
 ldInt .i64 h26 ⟨b21,0,none⟩ fun n27=>
 ldInt .i64 h26 ⟨b21,1,none⟩ fun n28=>
 ldInt .i64 h26 ⟨b21,0,none⟩ fun n29=>
 ldInt .i64 h26 ⟨b21,1,none⟩ fun n30=>
 (
 newI h26 (.cells #[(.int .i64 n29)] 3 (0,0)) fun b31 h32=>
 (
 appI 3 1 8 (.int .i64 0) y9p y9n y9c (some ⟨b31,0,none⟩) 1 h32 fun p33 l33 c33 h34=>
 cellH h34 ⟨b21,1,none⟩=some (.int .i64 n30)∧
 cellH h34 ⟨b21,0,none⟩=some (.int .i64 n29)∧
 newI h34 (.cells #[(.int .i64 n30)] 3 (0,0)) fun b35 h36=>
 appI 3 1 8 (.int .i64 0) y10p y10n y10c (some ⟨b35,0,none⟩) 1 h36 fun p37 l37 c37 h38=>
 cellH h38 ⟨b21,1,none⟩=some (.int .i64 n30)∧
 cellH h38 ⟨b21,0,none⟩=some (.int .i64 n29)∧
 ldInt .i64 h38 (y11.add 2) fun n39=>
 ldInt .i64 h38 ⟨b21,0,none⟩ fun n40=>
 ldInt .i64 h38 (y11.add 3) fun n41=>
 ldInt .i64 h38 ⟨b21,1,none⟩ fun n42=>
 stI h38 (y11.add 2) (.int .i64 (IntKind.wrap .i64 (n39+n40))) fun h43=>
 cellH h43 ⟨b21,1,none⟩=some (.int .i64 n42)∧
 stI h43 (y11.add 3) (.int .i64 (IntKind.wrap .i64 (n41+n42))) fun h44=>
 K1 (y1,y3,t6,(if n27<y7 then n27 else y7),(if n28>y8 then n28 else y8),(p33,l33,c33),(p37,l37,c37),y11,(t25_p,t25_n,t25_c),t26,(IntKind.wrap .i64 (t27+1)),()) h44)∧(
 newI h32 (.cells #[(.int .i64 n30)] 3 (0,0)) fun b45 h46=>
 appI 3 1 8 (.int .i64 0) y9p y9n y9c (some ⟨b31,0,none⟩) 1 h46 fun p47 l47 c47 h48=>
 cellH h48 ⟨b21,1,none⟩=some (.int .i64 n30)∧
 cellH h48 ⟨b21,0,none⟩=some (.int .i64 n29)∧
 appI 3 1 8 (.int .i64 0) y10p y10n y10c (some ⟨b45,0,none⟩) 1 h48 fun p49 l49 c49 h50=>
 cellH h50 ⟨b21,1,none⟩=some (.int .i64 n30)∧
 cellH h50 ⟨b21,0,none⟩=some (.int .i64 n29)∧
 ldInt .i64 h50 (y11.add 2) fun n51=>
 ldInt .i64 h50 ⟨b21,0,none⟩ fun n52=>
 ldInt .i64 h50 (y11.add 3) fun n53=>
 ldInt .i64 h50 ⟨b21,1,none⟩ fun n54=>
 stI h50 (y11.add 2) (.int .i64 (IntKind.wrap .i64 (n51+n52))) fun h55=>
 cellH h55 ⟨b21,1,none⟩=some (.int .i64 n54)∧
 stI h55 (y11.add 3) (.int .i64 (IntKind.wrap .i64 (n53+n54))) fun h56=>
 K1 (y1,y3,t6,(if n27<y7 then n27 else y7),(if n28>y8 then n28 else y8),(p47,l47,c47),(p49,l49,c49),y11,(t25_p,t25_n,t25_c),t26,(IntKind.wrap .i64 (t27+1)),()) h56))∧(
 newI h26 (.cells #[(.int .i64 n30)] 3 (0,0)) fun b57 h58=>
 newI h58 (.cells #[(.int .i64 n29)] 3 (0,0)) fun b59 h60=>
 appI 3 1 8 (.int .i64 0) y9p y9n y9c (some ⟨b59,0,none⟩) 1 h60 fun p61 l61 c61 h62=>
 cellH h62 ⟨b21,1,none⟩=some (.int .i64 n30)∧
 cellH h62 ⟨b21,0,none⟩=some (.int .i64 n29)∧
 appI 3 1 8 (.int .i64 0) y10p y10n y10c (some ⟨b57,0,none⟩) 1 h62 fun p63 l63 c63 h64=>
 cellH h64 ⟨b21,1,none⟩=some (.int .i64 n30)∧
 cellH h64 ⟨b21,0,none⟩=some (.int .i64 n29)∧
 ldInt .i64 h64 (y11.add 2) fun n65=>
 ldInt .i64 h64 ⟨b21,0,none⟩ fun n66=>
 ldInt .i64 h64 (y11.add 3) fun n67=>
 ldInt .i64 h64 ⟨b21,1,none⟩ fun n68=>
 stI h64 (y11.add 2) (.int .i64 (IntKind.wrap .i64 (n65+n66))) fun h69=>
 cellH h69 ⟨b21,1,none⟩=some (.int .i64 n68)∧
 stI h69 (y11.add 3) (.int .i64 (IntKind.wrap .i64 (n67+n68))) fun h70=>
 K1 (y1,y3,t6,(if n27<y7 then n27 else y7),(if n28>y8 then n28 else y8),(p61,l61,c61),(p63,l63,c63),y11,(t25_p,t25_n,t25_c),t26,(IntKind.wrap .i64 (t27+1)),()) h70)) (
 ldAg A1 h15 y3 fun x71=>
 callP P n_kind_Pads #[(agS A1 x71)] h15 fun v73 h72=>
 ∃n74:Int,∃n75:Int,v73=(.tuple #[(.int .i64 n74),(.int .i64 n75)])∧
 ∃J76:YH Y12,(∀s h,J76 s h→bound_node_j14 Q K1 s.1 s.2.1 s.2.2.1 s.2.2.2.1 s.2.2.2.2.1 s.2.2.2.2.2.1.1 s.2.2.2.2.2.1.2.1 s.2.2.2.2.2.1.2.2 s.2.2.2.2.2.2.1.1 s.2.2.2.2.2.2.1.2.1 s.2.2.2.2.2.2.1.2.2 s.2.2.2.2.2.2.2.1 h)∧
 ifB (decide ((IntKind.wrap .i64 (n74+n75))>0)) (
 J76 (y1,y3,t6,(if 0<y7 then 0 else y7),(if 0>y8 then 0 else y8),(y9p,y9n,y9c),(y10p,y10n,y10c),y11,()) h72) (
 J76 (y1,y3,t6,y7,y8,(y9p,y9n,y9c),(y10p,y10n,y10c),y11,()) h72))
def bound_node (y0:TS A1) (y1:Int) (y2p:OA) (y2n y2c:Nat) (h:Heap) (Q:VH):Prop:=
 newI h (.cells (mkS' A1 y0).toArray 62 (0,0)) fun b1 h2=>
 newI h2 (.cells #[(.int .i64 0),(.int .i64 0),(.int .i64 0),(.int .i64 0)] 122 (0,0)) fun b3 h4=>
 idxI y2p 0 y2n fun a5=>
 idxI y2p 0 y2n fun a6=>
 ldInt .i64 h4 (a5.add ((0:Int).toNat*4)) fun n7=>
 ldInt .i64 h4 (Addr.add (a6.add ((0:Int).toNat*4)) 1) fun n8=>
 newI h4 (.cells #[(.int .i64 0),(.int .i64 0),(.int .i64 0),(.int .i64 0)] 122 (0,0)) fun b9 h10=>
 stI h10 ⟨b9,0,none⟩ (.int .i64 0) fun h11=>
 stI h11 ⟨b9,1,none⟩ (.int .i64 0) fun h12=>
 stI h12 ⟨b9,2,none⟩ (.int .i64 0) fun h13=>
 stI h13 ⟨b9,3,none⟩ (.int .i64 0) fun h14=>
 LoopS (S:=Y11) (fun K1 s h=>bound_node_l5 Q K1 s.1 s.2.1 s.2.2.1 s.2.2.2.1 s.2.2.2.2.1 s.2.2.2.2.2.1.1 s.2.2.2.2.2.1.2.1 s.2.2.2.2.2.1.2.2 s.2.2.2.2.2.2.1.1 s.2.2.2.2.2.2.1.2.1 s.2.2.2.2.2.2.1.2.2 s.2.2.2.2.2.2.2.1 s.2.2.2.2.2.2.2.2.1.1 s.2.2.2.2.2.2.2.2.1.2.1 s.2.2.2.2.2.2.2.2.1.2.2 s.2.2.2.2.2.2.2.2.2.1 s.2.2.2.2.2.2.2.2.2.2.1 h) (y1,⟨b1,0,none⟩,⟨b3,0,none⟩,n7,n8,(none,0,0),(none,0,0),⟨b9,0,none⟩,(y2p,y2n,y2c),(y2n:Int),(0:Int),()) h14
noncomputable def tab_bound_node:Tab:=tb (lookT .done [(1,(ones [0,1,2,4,5,6,3,8,7,9] .done)),(7,(ones [0,1,4,5,2,3,8,6,7,9] .done)),(8,(ones [0,1,5,6] (.early 2 (.early 7 (.alt 3 (.alt 4 (.alt 8 (.alt 9 (ones [10,11] .done) .stop) .stop) (.alt 8 (.alt 4 (.alt 9 (ones [10,11] .done) .stop) .stop) .stop)) (.alt 8 (.alt 3 (.alt 4 (.alt 9 (ones [10,11] .done) .stop) .stop) .stop) .stop)))))),(9,(ones [0,2,5,7,1,3,4,6,10] (.early 8 (ones [9] (.alt 11 (ones [12] (.alt 13 .done .stop)) .stop))))),(28,(ones [0,1,3,6,7,9] (.early 2 (.early 4 (.early 8 (.early 10 (.alt 5 (.alt 11 (.alt 12 (.alt 13 .done .stop) .stop) .stop) .stop))))))),(29,(ones [0,1,3,6,7,9] (.early 2 (.early 4 (.early 8 (.early 10 (.alt 5 (.alt 11 (.alt 12 (.alt 13 .done .stop) .stop) .stop) .stop)))))))]) (lookT [] [(5,[(1,I6),(3,.sc (.adr)),(6,.sc (.adr)),(7,I6),(8,I6),(9,SL),(10,SL),(11,.sc (.adr)),(25,SL),(26,I6),(27,I6)])]) (lookT none [(14,some [(1,I6),(3,.sc (.adr)),(6,.sc (.adr)),(7,I6),(8,I6),(9,SL),(10,SL),(11,.sc (.adr))])])
theorem call_bound_node (y0:TS A1) (y1:Int) (y2p:OA) (y2n y2c:Nat) {h:Heap} {Q:VH} (H:bound_node y0 y1 y2p y2n y2c h Q):callP P n_bound_node #[(agS A1 y0),(.int .i64 y1),(.slice y2p y2n y2c)] h Q:=
 @callP_of P n_bound_node Tryz.f76 tab_bound_node [(agS A1 y0),(.int .i64 y1),(.slice y2p y2n y2c)] h Q mixed Tryz.func76 Tryz.call76 (by kernel_rfl) (Eq.mpr (by kernel_rfl) H)
def bound_Ranges_l13 (Q:VH) (K1:YH Y13) (K2:YH Y14) (y1:Addr) (y5p:OA) (y5n y5c:Nat) (y6p:OA) (y6n y6c:Nat) (y8:Int) (y9:Addr) (y10p:OA) (y10n y10c:Nat) (t31_p:OA) (t31_n t31_c:Nat) (t32 t33:Int) (t48_p:OA) (t48_n t48_c:Nat) (t49 t50:Int) (h40:Heap):Prop:=
 ifB (decide (t50<t49)) (
 idxI t48_p t50 t48_n fun a41=>
 ldInt .i64 h40 (a41.add (t50.toNat*1)) fun n42=>
 idxI y6p n42 y6n fun a43=>
 ldInt .i64 h40 (a43.add (n42.toNat*4)) fun n44=>
 ldInt .i64 h40 (Addr.add (a43.add (n42.toNat*4)) 1) fun n45=>
 ldInt .i64 h40 (Addr.add (a43.add (n42.toNat*4)) 2) fun n46=>
 ldInt .i64 h40 (Addr.add (a43.add (n42.toNat*4)) 3) fun n47=>
 idxI y10p t50 y10n fun a48=>
 stI h40 (a48.add (t50.toNat*4)) (.int .i64 n44) fun h49=>
 stI h49 (Addr.add (a48.add (t50.toNat*4)) 1) (.int .i64 n45) fun h50=>
 stI h50 (Addr.add (a48.add (t50.toNat*4)) 2) (.int .i64 n46) fun h51=>
 stI h51 (Addr.add (a48.add (t50.toNat*4)) 3) (.int .i64 n47) fun h52=>
 K2 (y1,(y5p,y5n,y5c),(y6p,y6n,y6c),y8,y9,(y10p,y10n,y10c),(t31_p,t31_n,t31_c),t32,t33,(t48_p,t48_n,t48_c),t49,(IntKind.wrap .i64 (t50+1)),()) h52) (
 ldAg A1 h40 y9 fun x53=>
 ldSlice h40 (y9.add 1) fun p54 l54 c54=>
 idxI p54 0 l54 fun a55=>
 ldInt .i64 h40 (a55.add ((0:Int).toNat*1)) fun n56=>
 idxI y5p n56 y5n fun a57=>
 ldInt .i64 h40 (a57.add (n56.toNat*1)) fun n58=>
 callP P n_bound_node #[(agS A1 x53),(.int .i64 n58),(.slice y10p y10n y10c)] h40 fun v60 h59=>
 ∃n61:Int,∃n62:Int,∃n63:Int,∃n64:Int,v60=(.agg #[(.int .i64 n61),(.int .i64 n62),(.int .i64 n63),(.int .i64 n64)])∧
 idxI y6p y8 y6n fun a65=>
 stI h59 (a65.add (y8.toNat*4)) (.int .i64 n61) fun h66=>
 stI h66 (Addr.add (a65.add (y8.toNat*4)) 1) (.int .i64 n62) fun h67=>
 stI h67 (Addr.add (a65.add (y8.toNat*4)) 2) (.int .i64 n63) fun h68=>
 stI h68 (Addr.add (a65.add (y8.toNat*4)) 3) (.int .i64 n64) fun h69=>
 idxI y6p y8 y6n fun a70=>
 ldInt .i64 h69 (Addr.add (a70.add (y8.toNat*4)) 2) fun n71=>
 ifB (decide (n71<(-68719476736:Int))) (
 Q (.tuple #[(.slice none 0 0),(.int .i64 16)]) h69) (
 idxI y6p y8 y6n fun a72=>
 ldInt .i64 h69 (Addr.add (a72.add (y8.toNat*4)) 3) fun n73=>
 ifB (decide (n73>68719476736)) (
 Q (.tuple #[(.slice none 0 0),(.int .i64 16)]) h69) (
 K1 (y1,(y5p,y5n,y5c),(y6p,y6n,y6c),(t31_p,t31_n,t31_c),t32,(IntKind.wrap .i64 (t33+1)),()) h69)))
def bound_Ranges_l8 (Q:VH) (K1:YH Y13) (y1:Addr) (y5p:OA) (y5n y5c:Nat) (y6p:OA) (y6n y6c:Nat) (t31_p:OA) (t31_n t31_c:Nat) (t32 t33:Int) (h27:Heap):Prop:=
 ifB (decide (t33<t32)) (
 idxI t31_p t33 t31_n fun a28=>
 ldInt .i64 h27 (a28.add (t33.toNat*1)) fun n29=>
 ldSlice h27 (y1.add 3) fun p30 l30 c30=>
 idxI p30 (IntKind.wrap .i64 (n29-1)) l30 fun a31=>
 ldAg A1 h27 (a31.add ((IntKind.wrap .i64 (n29-1)).toNat*15)) fun x32=>
 newI h27 (.cells (mkS' A1 (zT A1)).toArray 62 (0,0)) fun b33 h34=>
 storeL (mkS' A1 x32) h34 ⟨b33,0,none⟩ 0 fun h35=>
 ldSlice h35 ⟨b33,1,none⟩ fun p36 l36 c36=>
 mkI 122 4 32 (.agg #[(.int .i64 0),(.int .i64 0),(.int .i64 0),(.int .i64 0)]) (l36:Int) (l36:Int) h35 fun b37 h38=>
 ldSlice h38 ⟨b33,1,none⟩ fun p39 l39 c39=>
 LoopS (S:=Y14) (fun K2 s h=>bound_Ranges_l13 Q K1 K2 s.1 s.2.1.1 s.2.1.2.1 s.2.1.2.2 s.2.2.1.1 s.2.2.1.2.1 s.2.2.1.2.2 s.2.2.2.1 s.2.2.2.2.1 s.2.2.2.2.2.1.1 s.2.2.2.2.2.1.2.1 s.2.2.2.2.2.1.2.2 s.2.2.2.2.2.2.1.1 s.2.2.2.2.2.2.1.2.1 s.2.2.2.2.2.2.1.2.2 s.2.2.2.2.2.2.2.1 s.2.2.2.2.2.2.2.2.1 s.2.2.2.2.2.2.2.2.2.1.1 s.2.2.2.2.2.2.2.2.2.1.2.1 s.2.2.2.2.2.2.2.2.2.1.2.2 s.2.2.2.2.2.2.2.2.2.2.1 s.2.2.2.2.2.2.2.2.2.2.2.1 h) (y1,(y5p,y5n,y5c),(y6p,y6n,y6c),n29,⟨b33,0,none⟩,(some ⟨b37,0,none⟩,(l36:Int).toNat,(l36:Int).toNat),(t31_p,t31_n,t31_c),t32,t33,(p39,l39,c39),(l39:Int),(0:Int),()) h38) (
 Q (.tuple #[(.slice y6p y6n y6c),(.int .i64 0)]) h27)
def bound_Ranges (y0:TS A2) (h:Heap) (Q:VH):Prop:=
 newI h (.cells (mkS' A2 y0).toArray 32 (0,0)) fun b1 h2=>
 ldAg A2 h2 ⟨b1,0,none⟩ fun x3=>
 callInt P .i64 n_graph_Check #[(agS A2 x3)] h2 fun n5 h4=>
 ifB (n5 !=0) (
 Q (.tuple #[(.slice none 0 0),(.int .i64 n5)]) h4) (
 ldAg A2 h4 ⟨b1,0,none⟩ fun x6=>
 callSlice P n_graph_Widths #[(agS A2 x6)] h4 fun p8 l8 c8 h7=>
 mkI 122 4 32 (.agg #[(.int .i64 0),(.int .i64 0),(.int .i64 0),(.int .i64 0)]) (l8:Int) (l8:Int) h7 fun b9 h10=>
 ldInt .i64 h10 ⟨b1,1,none⟩ fun n11=>
 ldInt .i64 h10 ⟨b1,2,none⟩ fun n12=>
 callP P n_bound_same #[(.int .i64 n11),(.int .i64 n12)] h10 fun v14 h13=>
 ∃n15:Int,∃n16:Int,∃n17:Int,∃n18:Int,v14=(.agg #[(.int .i64 n15),(.int .i64 n16),(.int .i64 n17),(.int .i64 n18)])∧
 idxI (some ⟨b9,0,none⟩) 0 ((l8:Int).toNat) fun a19=>
 stI h13 (a19.add ((0:Int).toNat*4)) (.int .i64 n15) fun h20=>
 stI h20 (Addr.add (a19.add ((0:Int).toNat*4)) 1) (.int .i64 n16) fun h21=>
 stI h21 (Addr.add (a19.add ((0:Int).toNat*4)) 2) (.int .i64 n17) fun h22=>
 stI h22 (Addr.add (a19.add ((0:Int).toNat*4)) 3) (.int .i64 n18) fun h23=>
 ldAg A2 h23 ⟨b1,0,none⟩ fun x24=>
 callSlice P n_graph_Order #[(agS A2 x24)] h23 fun p26 l26 c26 h25=>
 LoopS (S:=Y13) (fun K1 s h=>bound_Ranges_l8 Q K1 s.1 s.2.1.1 s.2.1.2.1 s.2.1.2.2 s.2.2.1.1 s.2.2.1.2.1 s.2.2.1.2.2 s.2.2.2.1.1 s.2.2.2.1.2.1 s.2.2.2.1.2.2 s.2.2.2.2.1 s.2.2.2.2.2.1 h) (⟨b1,0,none⟩,(p8,l8,c8),(some ⟨b9,0,none⟩,(l8:Int).toNat,(l8:Int).toNat),(p26,l26,c26),(l26:Int),(0:Int),()) h25)
noncomputable def tab_bound_Ranges:Tab:=tb (lookT .done [(17,(ones [0,1,3,4,10,2] (.alt 5 (ones [6] (.alt 7 (ones [8,9] (.alt 11 (ones [12] (.alt 13 .done .stop)) .stop)) .stop)) .stop)))]) (lookT [] [(8,[(1,.sc (.adr)),(5,SL),(6,SL),(31,SL),(32,I6),(33,I6)]),(13,[(1,.sc (.adr)),(5,SL),(6,SL),(8,I6),(9,.sc (.adr)),(10,SL),(31,SL),(32,I6),(33,I6),(48,SL),(49,I6),(50,I6)])]) (lookT none [])
theorem call_bound_Ranges (y0:TS A2) {h:Heap} {Q:VH} (H:bound_Ranges y0 h Q):callP P n_bound_Ranges #[(agS A2 y0)] h Q:=
 @callP_of P n_bound_Ranges Tryz.f32 tab_bound_Ranges [(agS A2 y0)] h Q mixed Tryz.func32 Tryz.call32 (by kernel_rfl) (Eq.mpr (by kernel_rfl) H)
def slices_Clone_api_Node_api_Node (y0p:OA) (y0n y0c:Nat) (h:Heap) (Q:VH):Prop:=
 ifB ((y0p).isNone) (
 Q (.slice none 0 0) h) (
 newI h (.cells #[] 62 (0,0)) fun b1 h2=>
 appI 62 15 168 (agS A1 (zT A1)) (some ⟨b1,0,none⟩) 0 0 y0p y0n h2 fun p3 l3 c3 h4=>
 Q (.slice p3 l3 c3) h4)
noncomputable def tab_slices_Clone_api_Node_api_Node:Tab:=tb (lookT .done []) (lookT [] []) (lookT none [])
theorem call_slices_Clone_api_Node_api_Node (y0p:OA) (y0n y0c:Nat) {h:Heap} {Q:VH} (H:slices_Clone_api_Node_api_Node y0p y0n y0c h Q):callP P n_slices_Clone_api_Node_api_Node #[(.slice y0p y0n y0c)] h Q:=
 @callP_of P n_slices_Clone_api_Node_api_Node Tryz.f125 tab_slices_Clone_api_Node_api_Node [(.slice y0p y0n y0c)] h Q mixed Tryz.func125 Tryz.call125 (by kernel_rfl) (Eq.mpr (by kernel_rfl) H)
def slices_Clone_int_int (y0p:OA) (y0n y0c:Nat) (h:Heap) (Q:VH):Prop:=
 ifB ((y0p).isNone) (
 Q (.slice none 0 0) h) (
 newI h (.cells #[] 3 (0,0)) fun b1 h2=>
 appI 3 1 8 (.int .i64 0) (some ⟨b1,0,none⟩) 0 0 y0p y0n h2 fun p3 l3 c3 h4=>
 Q (.slice p3 l3 c3) h4)
noncomputable def tab_slices_Clone_int_int:Tab:=tb (lookT .done []) (lookT [] []) (lookT none [])
theorem call_slices_Clone_int_int (y0p:OA) (y0n y0c:Nat) {h:Heap} {Q:VH} (H:slices_Clone_int_int y0p y0n y0c h Q):callP P n_slices_Clone_int_int #[(.slice y0p y0n y0c)] h Q:=
 @callP_of P n_slices_Clone_int_int Tryz.f126 tab_slices_Clone_int_int [(.slice y0p y0n y0c)] h Q mixed Tryz.func126 Tryz.call126 (by kernel_rfl) (Eq.mpr (by kernel_rfl) H)
def fuse_own_l3 (Q:VH) (K1:(Addr×Addr×Int×Int×Unit)→Heap→Prop) (y1 t2:Addr) (t11 t12:Int) (h10:Heap):Prop:=
 ifB (decide (t12<t11)) (
 ldSlice h10 (y1.add 3) fun p11 l11 c11=>
 idxI p11 t12 l11 fun a12=>
 nilI (some (a12.add (t12.toNat*15))) fun a13=>
 nilI (some (a12.add (t12.toNat*15))) fun a14=>
 nilI (some (a12.add (t12.toNat*15))) fun a15=>
 ldSlice h10 (a13.add 1) fun p16 l16 c16=>
 ldSlice h10 (a14.add 8) fun p17 l17 c17=>
 ldSlice h10 (a15.add 9) fun p18 l18 c18=>
 callSlice P n_slices_Clone_int_int #[(.slice p16 l16 c16)] h10 fun p20 l20 c20 h19=>
 cellH h19 (a15.add 9)=some (.slice p18 l18 c18)∧
 cellH h19 (a14.add 8)=some (.slice p17 l17 c17)∧
 callSlice P n_slices_Clone_int_int #[(.slice p17 l17 c17)] h19 fun p22 l22 c22 h21=>
 cellH h21 (a15.add 9)=some (.slice p18 l18 c18)∧
 cellH h21 (a13.add 1)=some (.slice p16 l16 c16)∧
 callSlice P n_slices_Clone_int_int #[(.slice p18 l18 c18)] h21 fun p24 l24 c24 h23=>
 cellH h23 (a14.add 8)=some (.slice p17 l17 c17)∧
 cellH h23 (a13.add 1)=some (.slice p16 l16 c16)∧
 nilI (some (a12.add (t12.toNat*15))) fun a25=>
 stI h23 (a25.add 1) (.slice p20 l20 c20) fun h26=>
 nilI (some (a12.add (t12.toNat*15))) fun a27=>
 stI h26 (a27.add 8) (.slice p22 l22 c22) fun h28=>
 nilI (some (a12.add (t12.toNat*15))) fun a29=>
 stI h28 (a29.add 9) (.slice p24 l24 c24) fun h30=>
 K1 (y1,t2,t11,(IntKind.wrap .i64 (t12+1)),()) h30) (
 ldAg A2 h10 y1 fun x31=>
 storeL (mkS' A2 x31) h10 t2 0 fun h32=>
 ldAg A2 h32 t2 fun x33=>
 Q (agS A2 x33) h32)
def fuse_own (y0:TS A2) (h:Heap) (Q:VH):Prop:=
 newI h (.cells (mkS' A2 y0).toArray 32 (0,0)) fun b1 h2=>
 newI h2 (.cells (mkS' A2 (zT A2)).toArray 32 (0,0)) fun b3 h4=>
 ldSlice h4 ⟨b1,3,none⟩ fun p5 l5 c5=>
 callSlice P n_slices_Clone_api_Node_api_Node #[(.slice p5 l5 c5)] h4 fun p7 l7 c7 h6=>
 stI h6 ⟨b1,3,none⟩ (.slice p7 l7 c7) fun h8=>
 ldSlice h8 ⟨b1,3,none⟩ fun p9 l9 c9=>
 LoopS (S:=(Addr×Addr×Int×Int×Unit)) (fun K1 s h=>fuse_own_l3 Q K1 s.1 s.2.1 s.2.2.1 s.2.2.2.1 h) (⟨b1,0,none⟩,⟨b3,0,none⟩,(l9:Int),(0:Int),()) h8
noncomputable def tab_fuse_own:Tab:=tb (lookT .done [(6,(ones [0,1,2,3,4,5,8,9,10,13,14,15] (.early 6 (.early 11 (.early 16 (.alt 7 (.alt 12 (.alt 17 (ones [18,19] (.alt 20 (ones [21,22] (.alt 23 (ones [24,25] (.alt 26 .done .stop)) .stop)) .stop)) .stop) .stop) .stop))))))]) (lookT [] [(3,[(1,.sc (.adr)),(2,.sc (.adr)),(11,I6),(12,I6)])]) (lookT none [])
theorem call_fuse_own (y0:TS A2) {h:Heap} {Q:VH} (H:fuse_own y0 h Q):callP P n_fuse_own #[(agS A2 y0)] h Q:=
 @callP_of P n_fuse_own Tryz.f77 tab_fuse_own [(agS A2 y0)] h Q mixed Tryz.func77 Tryz.call77 (by kernel_rfl) (Eq.mpr (by kernel_rfl) H)
def slices_Values_int_int_1_l1 (Q:VH) (K1:(Value×S3×Int×Int×Unit)→Heap→Prop) (y0:Value) (t5_p:OA) (t5_n t5_c:Nat) (t6 t7:Int) (h2:Heap):Prop:=
 ifB (decide (t7<t6)) (
 idxI t5_p t7 t5_n fun a3=>
 ldInt .i64 h2 (a3.add (t7.toNat*1)) fun n4=>
 callAny P y0 [(.int .i64 n4)] h2 fun v5 h6=>
 ∃b7:Bool,v5=(.bool b7)∧
 ifB (!b7) (
 Q (.tuple #[]) h6) (
 K1 (y0,(t5_p,t5_n,t5_c),t6,(IntKind.wrap .i64 (t7+1)),()) h6)) (
 Q (.tuple #[]) h2)
def slices_Values_int_int_1 (y0:Value) (free0:Addr) (h:Heap) (Q:VH):Prop:=
 ldSlice h free0 fun p1 l1 c1=>
 LoopS (S:=(Value×S3×Int×Int×Unit)) (fun K1 s h=>slices_Values_int_int_1_l1 Q K1 s.1 s.2.1.1 s.2.1.2.1 s.2.1.2.2 s.2.2.1 s.2.2.2.1 h) (y0,(p1,l1,c1),(l1:Int),(0:Int),()) h
noncomputable def tab_slices_Values_int_int_1:Tab:=tb (lookT .done []) (lookT [] [(1,[(0,.sc (.any)),(5,SL),(6,I6),(7,I6)])]) (lookT none [])
theorem call_slices_Values_int_int_1 (y0:Value) (free0:Addr) {h:Heap} {Q:VH} (H:slices_Values_int_int_1 y0 free0 h Q):callP P n_slices_Values_int_int_1 #[y0,(.pointer (some free0))] h Q:=
 @callP_of P n_slices_Values_int_int_1 Tryz.f188 tab_slices_Values_int_int_1 [y0,(.pointer (some free0))] h Q mixed Tryz.func188 Tryz.call188 (by kernel_rfl) (Eq.mpr (by kernel_rfl) H)
def slices_Values_int_int (y0p:OA) (y0n y0c:Nat) (h:Heap) (Q:VH):Prop:=
 newI h (.cells #[(.slice y0p y0n y0c)] 22 (0,0)) fun b1 h2=>
 Q (.func (.func n_slices_Values_int_int_1) #[] #[(.pointer (some ⟨b1,0,none⟩))]) h2
noncomputable def tab_slices_Values_int_int:Tab:=tb (lookT .done []) (lookT [] []) (lookT none [])
theorem call_slices_Values_int_int (y0p:OA) (y0n y0c:Nat) {h:Heap} {Q:VH} (H:slices_Values_int_int y0p y0n y0c h Q):callP P n_slices_Values_int_int #[(.slice y0p y0n y0c)] h Q:=
 @callP_of P n_slices_Values_int_int Tryz.f130 tab_slices_Values_int_int [(.slice y0p y0n y0c)] h Q mixed Tryz.func130 Tryz.call130 (by kernel_rfl) (Eq.mpr (by kernel_rfl) H)
def slices_AppendSeq_int_int (s_0_p:OA) (s_0_n s_0_c:Nat) (seq_1:Value) (h:Heap) (Q:VH):Prop:=
 newI h (.cells #[(.slice s_0_p s_0_n s_0_c)] 22 (0,0)) fun b1 h2=>
 rangeP P seq_1 [.sc (.int .i64)] (fun rdy3 busy3 l3 y3 R3 h4=>
 h4[l3]? =some rdy3∧
 ldSlice (Array.setIfInBounds h4 l3 busy3) ⟨b1,0,none⟩ fun p5 l5 c5=>
 newI (Array.setIfInBounds h4 l3 busy3) (.cells #[(.int .i64 y3.1)] 3 (0,0)) fun b6 h7=>
 appI 3 1 8 (.int .i64 0) p5 l5 c5 (some ⟨b6,0,none⟩) 1 h7 fun p8 l8 c8 h9=>
 stI h9 ⟨b1,0,none⟩ (.slice p8 l8 c8) fun h10=>
 R3 h10) h2 fun D11 h12=>
 ldSlice h12 ⟨b1,0,none⟩ fun p13 l13 c13=>
 h12[D11]? =some (Obj.deferred (some []))∧
 Q (.slice p13 l13 c13) (Array.setIfInBounds h12 D11 (Obj.deferred none))
noncomputable def tab_slices_AppendSeq_int_int:Tab:={sch:=lookT .done [],lp:=lookT [] [],jn:=lookT none [],rf:=lookT [] [(3,[I6])]}
theorem call_slices_AppendSeq_int_int (s_0_p:OA) (s_0_n s_0_c:Nat) (seq_1:Value) {h:Heap} {Q:VH} (H:slices_AppendSeq_int_int s_0_p s_0_n s_0_c seq_1 h Q):callP P n_slices_AppendSeq_int_int #[(.slice s_0_p s_0_n s_0_c),seq_1] h Q:=
 @callP_of P n_slices_AppendSeq_int_int Tryz.f225 tab_slices_AppendSeq_int_int [(.slice s_0_p s_0_n s_0_c),seq_1] h Q mixed Tryz.func225 Tryz.call225 (by kernel_rfl) (Eq.mpr (by kernel_rfl) H)
def slices_Collect_int (y0:Value) (h:Heap) (Q:VH):Prop:=
 callSlice P n_slices_AppendSeq_int_int #[(.slice none 0 0),y0] h fun p2 l2 c2 h1=>
 Q (.slice p2 l2 c2) h1
noncomputable def tab_slices_Collect_int:Tab:=tb (lookT .done []) (lookT [] []) (lookT none [])
theorem call_slices_Collect_int (y0:Value) {h:Heap} {Q:VH} (H:slices_Collect_int y0 h Q):callP P n_slices_Collect_int #[y0] h Q:=
 @callP_of P n_slices_Collect_int Tryz.f186 tab_slices_Collect_int [y0] h Q mixed Tryz.func186 Tryz.call186 (by kernel_rfl) (Eq.mpr (by kernel_rfl) H)
def math_bits_Len32 (y0:Int) (h:Heap) (Q:VH):Prop:=
 ifB (decide (y0≥65536)) (
 ifB (decide ((shrI y0 16)≥256)) (
 strI (ByteArray.mk #[0,1,2,2,3,3,3,3,4,4,4,4,4,4,4,4,5,5,5,5,5,5,5,5,5,5,5,5,5,5,5,5,6,6,6,6,6,6,6,6,6,6,6,6,6,6,6,6,6,6,6,6,6,6,6,6,6,6,6,6,6,6,6,6,7,7,7,7,7,7,7,7,7,7,7,7,7,7,7,7,7,7,7,7,7,7,7,7,7,7,7,7,7,7,7,7,7,7,7,7,7,7,7,7,7,7,7,7,7,7,7,7,7,7,7,7,7,7,7,7,7,7,7,7,7,7,7,7,8,8,8,8,8,8,8,8,8,8,8,8,8,8,8,8,8,8,8,8,8,8,8,8,8,8,8,8,8,8,8,8,8,8,8,8,8,8,8,8,8,8,8,8,8,8,8,8,8,8,8,8,8,8,8,8,8,8,8,8,8,8,8,8,8,8,8,8,8,8,8,8,8,8,8,8,8,8,8,8,8,8,8,8,8,8,8,8,8,8,8,8,8,8,8,8,8,8,8,8,8,8,8,8,8,8,8,8,8,8,8,8,8,8,8,8,8,8,8,8,8,8,8,8,8,8,8,8]) (IntKind.wrap .u8 (shrI (shrI y0 16) 8)) fun b1=>
 Q (.int .i64 (IntKind.wrap .i64 ((IntKind.wrap .i64 ((16:Int)+8))+(IntKind.wrap .i64 (b1.toNat:Int))))) h) (
 strI (ByteArray.mk #[0,1,2,2,3,3,3,3,4,4,4,4,4,4,4,4,5,5,5,5,5,5,5,5,5,5,5,5,5,5,5,5,6,6,6,6,6,6,6,6,6,6,6,6,6,6,6,6,6,6,6,6,6,6,6,6,6,6,6,6,6,6,6,6,7,7,7,7,7,7,7,7,7,7,7,7,7,7,7,7,7,7,7,7,7,7,7,7,7,7,7,7,7,7,7,7,7,7,7,7,7,7,7,7,7,7,7,7,7,7,7,7,7,7,7,7,7,7,7,7,7,7,7,7,7,7,7,7,8,8,8,8,8,8,8,8,8,8,8,8,8,8,8,8,8,8,8,8,8,8,8,8,8,8,8,8,8,8,8,8,8,8,8,8,8,8,8,8,8,8,8,8,8,8,8,8,8,8,8,8,8,8,8,8,8,8,8,8,8,8,8,8,8,8,8,8,8,8,8,8,8,8,8,8,8,8,8,8,8,8,8,8,8,8,8,8,8,8,8,8,8,8,8,8,8,8,8,8,8,8,8,8,8,8,8,8,8,8,8,8,8,8,8,8,8,8,8,8,8,8,8,8,8,8,8,8]) (IntKind.wrap .u8 (shrI y0 16)) fun b2=>
 Q (.int .i64 (IntKind.wrap .i64 ((16:Int)+(IntKind.wrap .i64 (b2.toNat:Int))))) h)) (
 ifB (decide (y0≥256)) (
 strI (ByteArray.mk #[0,1,2,2,3,3,3,3,4,4,4,4,4,4,4,4,5,5,5,5,5,5,5,5,5,5,5,5,5,5,5,5,6,6,6,6,6,6,6,6,6,6,6,6,6,6,6,6,6,6,6,6,6,6,6,6,6,6,6,6,6,6,6,6,7,7,7,7,7,7,7,7,7,7,7,7,7,7,7,7,7,7,7,7,7,7,7,7,7,7,7,7,7,7,7,7,7,7,7,7,7,7,7,7,7,7,7,7,7,7,7,7,7,7,7,7,7,7,7,7,7,7,7,7,7,7,7,7,8,8,8,8,8,8,8,8,8,8,8,8,8,8,8,8,8,8,8,8,8,8,8,8,8,8,8,8,8,8,8,8,8,8,8,8,8,8,8,8,8,8,8,8,8,8,8,8,8,8,8,8,8,8,8,8,8,8,8,8,8,8,8,8,8,8,8,8,8,8,8,8,8,8,8,8,8,8,8,8,8,8,8,8,8,8,8,8,8,8,8,8,8,8,8,8,8,8,8,8,8,8,8,8,8,8,8,8,8,8,8,8,8,8,8,8,8,8,8,8,8,8,8,8,8,8,8,8]) (IntKind.wrap .u8 (shrI y0 8)) fun b3=>
 Q (.int .i64 (IntKind.wrap .i64 ((IntKind.wrap .i64 ((0:Int)+8))+(IntKind.wrap .i64 (b3.toNat:Int))))) h) (
 strI (ByteArray.mk #[0,1,2,2,3,3,3,3,4,4,4,4,4,4,4,4,5,5,5,5,5,5,5,5,5,5,5,5,5,5,5,5,6,6,6,6,6,6,6,6,6,6,6,6,6,6,6,6,6,6,6,6,6,6,6,6,6,6,6,6,6,6,6,6,7,7,7,7,7,7,7,7,7,7,7,7,7,7,7,7,7,7,7,7,7,7,7,7,7,7,7,7,7,7,7,7,7,7,7,7,7,7,7,7,7,7,7,7,7,7,7,7,7,7,7,7,7,7,7,7,7,7,7,7,7,7,7,7,8,8,8,8,8,8,8,8,8,8,8,8,8,8,8,8,8,8,8,8,8,8,8,8,8,8,8,8,8,8,8,8,8,8,8,8,8,8,8,8,8,8,8,8,8,8,8,8,8,8,8,8,8,8,8,8,8,8,8,8,8,8,8,8,8,8,8,8,8,8,8,8,8,8,8,8,8,8,8,8,8,8,8,8,8,8,8,8,8,8,8,8,8,8,8,8,8,8,8,8,8,8,8,8,8,8,8,8,8,8,8,8,8,8,8,8,8,8,8,8,8,8,8,8,8,8,8,8]) (IntKind.wrap .u8 y0) fun b4=>
 Q (.int .i64 (IntKind.wrap .i64 ((0:Int)+(IntKind.wrap .i64 (b4.toNat:Int))))) h))
noncomputable def tab_math_bits_Len32:Tab:=tb (lookT .done []) (lookT [] []) (lookT none [])
def math_bits_Len64 (y0:Int) (h:Heap) (Q:VH):Prop:=
 ifB (decide (y0≥4294967296)) (
 ifB (decide ((shrI y0 32)≥65536)) (
 ifB (decide ((shrI (shrI y0 32) 16)≥256)) (
 strI (ByteArray.mk #[0,1,2,2,3,3,3,3,4,4,4,4,4,4,4,4,5,5,5,5,5,5,5,5,5,5,5,5,5,5,5,5,6,6,6,6,6,6,6,6,6,6,6,6,6,6,6,6,6,6,6,6,6,6,6,6,6,6,6,6,6,6,6,6,7,7,7,7,7,7,7,7,7,7,7,7,7,7,7,7,7,7,7,7,7,7,7,7,7,7,7,7,7,7,7,7,7,7,7,7,7,7,7,7,7,7,7,7,7,7,7,7,7,7,7,7,7,7,7,7,7,7,7,7,7,7,7,7,8,8,8,8,8,8,8,8,8,8,8,8,8,8,8,8,8,8,8,8,8,8,8,8,8,8,8,8,8,8,8,8,8,8,8,8,8,8,8,8,8,8,8,8,8,8,8,8,8,8,8,8,8,8,8,8,8,8,8,8,8,8,8,8,8,8,8,8,8,8,8,8,8,8,8,8,8,8,8,8,8,8,8,8,8,8,8,8,8,8,8,8,8,8,8,8,8,8,8,8,8,8,8,8,8,8,8,8,8,8,8,8,8,8,8,8,8,8,8,8,8,8,8,8,8,8,8,8]) (IntKind.wrap .u8 (shrI (shrI (shrI y0 32) 16) 8)) fun b1=>
 Q (.int .i64 (IntKind.wrap .i64 ((IntKind.wrap .i64 ((IntKind.wrap .i64 ((32:Int)+16))+8))+(IntKind.wrap .i64 (b1.toNat:Int))))) h) (
 strI (ByteArray.mk #[0,1,2,2,3,3,3,3,4,4,4,4,4,4,4,4,5,5,5,5,5,5,5,5,5,5,5,5,5,5,5,5,6,6,6,6,6,6,6,6,6,6,6,6,6,6,6,6,6,6,6,6,6,6,6,6,6,6,6,6,6,6,6,6,7,7,7,7,7,7,7,7,7,7,7,7,7,7,7,7,7,7,7,7,7,7,7,7,7,7,7,7,7,7,7,7,7,7,7,7,7,7,7,7,7,7,7,7,7,7,7,7,7,7,7,7,7,7,7,7,7,7,7,7,7,7,7,7,8,8,8,8,8,8,8,8,8,8,8,8,8,8,8,8,8,8,8,8,8,8,8,8,8,8,8,8,8,8,8,8,8,8,8,8,8,8,8,8,8,8,8,8,8,8,8,8,8,8,8,8,8,8,8,8,8,8,8,8,8,8,8,8,8,8,8,8,8,8,8,8,8,8,8,8,8,8,8,8,8,8,8,8,8,8,8,8,8,8,8,8,8,8,8,8,8,8,8,8,8,8,8,8,8,8,8,8,8,8,8,8,8,8,8,8,8,8,8,8,8,8,8,8,8,8,8,8]) (IntKind.wrap .u8 (shrI (shrI y0 32) 16)) fun b2=>
 Q (.int .i64 (IntKind.wrap .i64 ((IntKind.wrap .i64 ((32:Int)+16))+(IntKind.wrap .i64 (b2.toNat:Int))))) h)) (
 ifB (decide ((shrI y0 32)≥256)) (
 strI (ByteArray.mk #[0,1,2,2,3,3,3,3,4,4,4,4,4,4,4,4,5,5,5,5,5,5,5,5,5,5,5,5,5,5,5,5,6,6,6,6,6,6,6,6,6,6,6,6,6,6,6,6,6,6,6,6,6,6,6,6,6,6,6,6,6,6,6,6,7,7,7,7,7,7,7,7,7,7,7,7,7,7,7,7,7,7,7,7,7,7,7,7,7,7,7,7,7,7,7,7,7,7,7,7,7,7,7,7,7,7,7,7,7,7,7,7,7,7,7,7,7,7,7,7,7,7,7,7,7,7,7,7,8,8,8,8,8,8,8,8,8,8,8,8,8,8,8,8,8,8,8,8,8,8,8,8,8,8,8,8,8,8,8,8,8,8,8,8,8,8,8,8,8,8,8,8,8,8,8,8,8,8,8,8,8,8,8,8,8,8,8,8,8,8,8,8,8,8,8,8,8,8,8,8,8,8,8,8,8,8,8,8,8,8,8,8,8,8,8,8,8,8,8,8,8,8,8,8,8,8,8,8,8,8,8,8,8,8,8,8,8,8,8,8,8,8,8,8,8,8,8,8,8,8,8,8,8,8,8,8]) (IntKind.wrap .u8 (shrI (shrI y0 32) 8)) fun b3=>
 Q (.int .i64 (IntKind.wrap .i64 ((IntKind.wrap .i64 ((32:Int)+8))+(IntKind.wrap .i64 (b3.toNat:Int))))) h) (
 strI (ByteArray.mk #[0,1,2,2,3,3,3,3,4,4,4,4,4,4,4,4,5,5,5,5,5,5,5,5,5,5,5,5,5,5,5,5,6,6,6,6,6,6,6,6,6,6,6,6,6,6,6,6,6,6,6,6,6,6,6,6,6,6,6,6,6,6,6,6,7,7,7,7,7,7,7,7,7,7,7,7,7,7,7,7,7,7,7,7,7,7,7,7,7,7,7,7,7,7,7,7,7,7,7,7,7,7,7,7,7,7,7,7,7,7,7,7,7,7,7,7,7,7,7,7,7,7,7,7,7,7,7,7,8,8,8,8,8,8,8,8,8,8,8,8,8,8,8,8,8,8,8,8,8,8,8,8,8,8,8,8,8,8,8,8,8,8,8,8,8,8,8,8,8,8,8,8,8,8,8,8,8,8,8,8,8,8,8,8,8,8,8,8,8,8,8,8,8,8,8,8,8,8,8,8,8,8,8,8,8,8,8,8,8,8,8,8,8,8,8,8,8,8,8,8,8,8,8,8,8,8,8,8,8,8,8,8,8,8,8,8,8,8,8,8,8,8,8,8,8,8,8,8,8,8,8,8,8,8,8,8]) (IntKind.wrap .u8 (shrI y0 32)) fun b4=>
 Q (.int .i64 (IntKind.wrap .i64 ((32:Int)+(IntKind.wrap .i64 (b4.toNat:Int))))) h))) (
 ifB (decide (y0≥65536)) (
 ifB (decide ((shrI y0 16)≥256)) (
 strI (ByteArray.mk #[0,1,2,2,3,3,3,3,4,4,4,4,4,4,4,4,5,5,5,5,5,5,5,5,5,5,5,5,5,5,5,5,6,6,6,6,6,6,6,6,6,6,6,6,6,6,6,6,6,6,6,6,6,6,6,6,6,6,6,6,6,6,6,6,7,7,7,7,7,7,7,7,7,7,7,7,7,7,7,7,7,7,7,7,7,7,7,7,7,7,7,7,7,7,7,7,7,7,7,7,7,7,7,7,7,7,7,7,7,7,7,7,7,7,7,7,7,7,7,7,7,7,7,7,7,7,7,7,8,8,8,8,8,8,8,8,8,8,8,8,8,8,8,8,8,8,8,8,8,8,8,8,8,8,8,8,8,8,8,8,8,8,8,8,8,8,8,8,8,8,8,8,8,8,8,8,8,8,8,8,8,8,8,8,8,8,8,8,8,8,8,8,8,8,8,8,8,8,8,8,8,8,8,8,8,8,8,8,8,8,8,8,8,8,8,8,8,8,8,8,8,8,8,8,8,8,8,8,8,8,8,8,8,8,8,8,8,8,8,8,8,8,8,8,8,8,8,8,8,8,8,8,8,8,8,8]) (IntKind.wrap .u8 (shrI (shrI y0 16) 8)) fun b5=>
 Q (.int .i64 (IntKind.wrap .i64 ((IntKind.wrap .i64 ((IntKind.wrap .i64 ((0:Int)+16))+8))+(IntKind.wrap .i64 (b5.toNat:Int))))) h) (
 strI (ByteArray.mk #[0,1,2,2,3,3,3,3,4,4,4,4,4,4,4,4,5,5,5,5,5,5,5,5,5,5,5,5,5,5,5,5,6,6,6,6,6,6,6,6,6,6,6,6,6,6,6,6,6,6,6,6,6,6,6,6,6,6,6,6,6,6,6,6,7,7,7,7,7,7,7,7,7,7,7,7,7,7,7,7,7,7,7,7,7,7,7,7,7,7,7,7,7,7,7,7,7,7,7,7,7,7,7,7,7,7,7,7,7,7,7,7,7,7,7,7,7,7,7,7,7,7,7,7,7,7,7,7,8,8,8,8,8,8,8,8,8,8,8,8,8,8,8,8,8,8,8,8,8,8,8,8,8,8,8,8,8,8,8,8,8,8,8,8,8,8,8,8,8,8,8,8,8,8,8,8,8,8,8,8,8,8,8,8,8,8,8,8,8,8,8,8,8,8,8,8,8,8,8,8,8,8,8,8,8,8,8,8,8,8,8,8,8,8,8,8,8,8,8,8,8,8,8,8,8,8,8,8,8,8,8,8,8,8,8,8,8,8,8,8,8,8,8,8,8,8,8,8,8,8,8,8,8,8,8,8]) (IntKind.wrap .u8 (shrI y0 16)) fun b6=>
 Q (.int .i64 (IntKind.wrap .i64 ((IntKind.wrap .i64 ((0:Int)+16))+(IntKind.wrap .i64 (b6.toNat:Int))))) h)) (
 ifB (decide (y0≥256)) (
 strI (ByteArray.mk #[0,1,2,2,3,3,3,3,4,4,4,4,4,4,4,4,5,5,5,5,5,5,5,5,5,5,5,5,5,5,5,5,6,6,6,6,6,6,6,6,6,6,6,6,6,6,6,6,6,6,6,6,6,6,6,6,6,6,6,6,6,6,6,6,7,7,7,7,7,7,7,7,7,7,7,7,7,7,7,7,7,7,7,7,7,7,7,7,7,7,7,7,7,7,7,7,7,7,7,7,7,7,7,7,7,7,7,7,7,7,7,7,7,7,7,7,7,7,7,7,7,7,7,7,7,7,7,7,8,8,8,8,8,8,8,8,8,8,8,8,8,8,8,8,8,8,8,8,8,8,8,8,8,8,8,8,8,8,8,8,8,8,8,8,8,8,8,8,8,8,8,8,8,8,8,8,8,8,8,8,8,8,8,8,8,8,8,8,8,8,8,8,8,8,8,8,8,8,8,8,8,8,8,8,8,8,8,8,8,8,8,8,8,8,8,8,8,8,8,8,8,8,8,8,8,8,8,8,8,8,8,8,8,8,8,8,8,8,8,8,8,8,8,8,8,8,8,8,8,8,8,8,8,8,8,8]) (IntKind.wrap .u8 (shrI y0 8)) fun b7=>
 Q (.int .i64 (IntKind.wrap .i64 ((IntKind.wrap .i64 ((0:Int)+8))+(IntKind.wrap .i64 (b7.toNat:Int))))) h) (
 strI (ByteArray.mk #[0,1,2,2,3,3,3,3,4,4,4,4,4,4,4,4,5,5,5,5,5,5,5,5,5,5,5,5,5,5,5,5,6,6,6,6,6,6,6,6,6,6,6,6,6,6,6,6,6,6,6,6,6,6,6,6,6,6,6,6,6,6,6,6,7,7,7,7,7,7,7,7,7,7,7,7,7,7,7,7,7,7,7,7,7,7,7,7,7,7,7,7,7,7,7,7,7,7,7,7,7,7,7,7,7,7,7,7,7,7,7,7,7,7,7,7,7,7,7,7,7,7,7,7,7,7,7,7,8,8,8,8,8,8,8,8,8,8,8,8,8,8,8,8,8,8,8,8,8,8,8,8,8,8,8,8,8,8,8,8,8,8,8,8,8,8,8,8,8,8,8,8,8,8,8,8,8,8,8,8,8,8,8,8,8,8,8,8,8,8,8,8,8,8,8,8,8,8,8,8,8,8,8,8,8,8,8,8,8,8,8,8,8,8,8,8,8,8,8,8,8,8,8,8,8,8,8,8,8,8,8,8,8,8,8,8,8,8,8,8,8,8,8,8,8,8,8,8,8,8,8,8,8,8,8,8]) (IntKind.wrap .u8 y0) fun b8=>
 Q (.int .i64 (IntKind.wrap .i64 ((0:Int)+(IntKind.wrap .i64 (b8.toNat:Int))))) h)))
noncomputable def tab_math_bits_Len64:Tab:=tb (lookT .done []) (lookT [] []) (lookT none [])
theorem call_math_bits_Len64 (y0:Int) {h:Heap} {Q:VH} (H:math_bits_Len64 y0 h Q):callP P n_math_bits_Len64 #[(.int .u64 y0)] h Q:=
 @callP_of P n_math_bits_Len64 Tryz.f249 tab_math_bits_Len64 [(.int .u64 y0)] h Q mixed Tryz.func249 Tryz.call249 (by kernel_rfl) (Eq.mpr (by kernel_rfl) H)
end Go.Proofs.YtdhpmegbmjoekaaGreatDoor.G
