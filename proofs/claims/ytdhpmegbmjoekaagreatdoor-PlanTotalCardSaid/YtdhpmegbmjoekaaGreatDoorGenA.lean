/- Printed by shp.py out of the program's own print: for each Go function a typed formula over heaps, and the proof that a call does just that. -/
import Derived.Test.YtdhpmegbmjoekaaGreatDoorProg
import Derived.Test.YtdhpmegbmjoekaaGreatDoorShW
set_option linter.unusedVariables false
set_option maxRecDepth 100000
namespace Go.Proofs.YtdhpmegbmjoekaaGreatDoor.G
open Go Go.Sh
noncomputable abbrev P:Program:=Tryz.prog
abbrev OA:=Option Addr
abbrev S3:=OA×Nat×Nat
abbrev VH:=Value→ae→Prop
abbrev YH (α:Type):=α→ae→Prop
abbrev tb (a:Nat→Mv) (b:Nat→CT) (c:Nat→Option CT):cz:={sch:=a,lp:=b,jn:=c}
abbrev I6:Ls:= .sc (.int .i64)
abbrev SL:Ls:= .sc .slice
abbrev BO:Ls:= .sc .bool
theorem aR:P.follows .mixedOrders=true:=by kernel_rfl
abbrev A1:List Sc:=[.int .i64,.slice,.int .i64,.int .i64,.int .i64,.int .i64,.int .i64,.int .i64,.slice,.slice,.int .i64,.int .i64,.int .i64,.int .i64,.int .i64]
abbrev A2:List Sc:=[.int .i64,.int .i64,.int .i64,.slice,.int .i64]
abbrev A3:List Sc:=[.int .i64,.bool,.int .i64,.bool,.int .i64,.bool,.int .i64,.bool,.int .i64,.bool,.int .i64,.bool]
abbrev A4:List Sc:=[.int .i64,.int .i64,.int .i64,.slice,.int .i64,.slice,.slice,.int .i64,.int .i64,.int .u32]
abbrev A5:List Sc:=[.any,.any,.any,.any,.any,.any]
abbrev A6:List Sc:=[.int .i64,.int .i64,.int .i64,.int .i64,.int .i64]
abbrev Y1:=(OA×S3×Int×Int×Unit)
abbrev Y2:=(Int×S3×Int×Int×S3×Int×Int×Unit)
abbrev Y3:=(S3×Addr×S3×Int×Int×Unit)
abbrev Y4:=(S3×Addr×S3×Int×Int×S3×Int×Int×Unit)
abbrev Y5:=(S3×S3×S3×Int×Int×Unit)
abbrev Y6:=(S3×Addr×Int×S3×Int×Int×Unit)
abbrev Y7:=(Addr×Addr×Addr×S3×Int×Int×Unit)
abbrev Y8:=(Addr×Addr×Int×Int×S3×Int×Int×Unit)
abbrev Y9:=(Addr×Addr×((Unit)×(Addr×Addr×Addr×Addr×Unit))×Addr×Int×Int×Unit)
abbrev RI:=(Addr×((Unit)×(Addr×Addr×Unit))×S3×Int×Int×Unit)
abbrev Rj:=(Int×Addr×Addr×Int×Int×S3×S3×Addr×S3×Int×Int×Unit)
abbrev Sb:=(Int×Addr×Addr×Int×Int×S3×S3×Addr×Unit)
abbrev Rk:=(Addr×S3×S3×S3×Int×Int×Unit)
abbrev RJ:=(Addr×S3×S3×Int×Addr×S3×S3×Int×Int×S3×Int×Int×Unit)
abbrev Sw:=(S3×Int×Int×Addr×Int×Int×Unit)
abbrev Sd:=(S3×Int×Int×Int×Int×Int×Unit)
abbrev Qs:=(S3×Int×Int×Int×Bool×Bool×Unit)
abbrev Se:=(S3×Int×Int×Int×Bool×Bool×Int×Unit)
abbrev Sf:=(S3×Int×Int×Int×Bool×Bool×Int×Int×Int×Unit)
abbrev Sg:=(S3×Int×Int×Int×Bool×Bool×Int×Int×Unit)
abbrev RK:=(S3×Int×S3×Int×Unit)
abbrev Q4:=(Addr×Addr×S3×Int×Int×Unit)
abbrev Q5:=(OA×Option Nat×Int×Addr×Int×Int×Int×S3×Int×Int×Unit)
abbrev RL:=(OA×Option Nat×Int×Int×Int×Int×Int×S3×Int×Int×Unit)
abbrev Q6:=(Addr×Addr×Option Nat×Option Nat×S3×S3×Int×Int×Unit)
abbrev Rl:=(Addr×Addr×Option Nat×S3×S3×Int×Int×Unit)
abbrev RM:=(Addr×Addr×Option Nat×S3×Addr×S3×Int×Int×S3×Int×Int×Unit)
abbrev RN:=(Value×Addr×S3×Int×Int×Unit)
abbrev RO:=(Addr×Addr×Addr×Int×Addr×Int×S3×Int×Int×Unit)
abbrev Rm:=(S3×S3×Int×Int×Unit)
abbrev RP:=(S3×Int×S3×Int×Int×Unit)
abbrev RQ:=(OA×Int×Int×S3×Int×Int×Unit)
abbrev Ro:=(Addr×((Unit)×(Addr×Unit))×S3×Int×Int×Unit)
abbrev RR:=(Addr×((Unit)×(Addr×Unit))×ByteArray×S3×Int×Int×Int×Int×Unit)
abbrev Rp:=(Addr×Addr×S3×S3×S3×S3×Int×Int×Unit)
abbrev RS:=(Addr×Addr×S3×S3×Int×Int×Int×Unit)
abbrev RT:=(OA×Int×Int×Int×S3×Int×Unit)
abbrev RU:=(OA×S3×S3×Bool×Addr×Addr×Int×Int×Bool×Int×Unit)
abbrev RV:=(Addr×Addr×Int×Addr×Int×Addr×S3×Int×Unit)
abbrev Q7:=(Addr×Addr×Addr×Bool×Int×S3×S3×Int×Unit)
abbrev Si:=(Addr×Addr×Addr×Bool×Int×S3×S3×Int×Int×Unit)
abbrev Sj:=(Addr×Addr×Addr×Bool×Int×S3×S3×Int×Int×S3×S3×Unit)
abbrev RW:=(S3×S3×Addr×S3×Int×Int×Unit)
abbrev Q8:=(Int×S3×S3×Int×Int×Unit)
abbrev Sk:=(Int×S3×Addr×S3×Int×Int×Unit)
abbrev RX:=(Int×S3×S3×S3×Int×Int×Int×Int×Unit)
abbrev RY:=(Addr×Addr×Addr×Int×S3×S3×Int×Unit)
abbrev RZ:=(S3×S3×Int×Unit)
abbrev Sm:=(ByteArray×S3×Addr×Bool×Unit)
abbrev Qt:=(S3×((Unit)×(Addr×Unit))×Int×Int×Unit)
abbrev cP:FuncId:=177
abbrev dx:FuncId:=115
abbrev gc:FuncId:=66
abbrev nV:FuncId:=67
abbrev fF:FuncId:=119
abbrev fj:FuncId:=73
abbrev fk:FuncId:=178
abbrev dW:FuncId:=116
abbrev dF:FuncId:=70
abbrev cp:FuncId:=68
abbrev cT:FuncId:=69
abbrev eO:FuncId:=118
abbrev fG:FuncId:=72
abbrev fH:FuncId:=117
abbrev gd:FuncId:=71
abbrev j0:FuncId:=31
abbrev nW:FuncId:=136
abbrev ce:FuncId:=190
abbrev bv:FuncId:=169
abbrev bh:FuncId:=103
abbrev jt:FuncId:=137
abbrev j3:FuncId:=138
abbrev cV:FuncId:=192
abbrev dL:FuncId:=191
abbrev cf:FuncId:=179
abbrev dQ:FuncId:=193
abbrev gA:FuncId:=134
abbrev dR:FuncId:=194
abbrev eQ:FuncId:=139
abbrev cK:FuncId:=195
abbrev nX:FuncId:=196
abbrev lW:FuncId:=140
abbrev lX:FuncId:=141
abbrev fI:FuncId:=86
abbrev jd:FuncId:=74
abbrev dS:FuncId:=35
abbrev eS:FuncId:=75
abbrev hC:FuncId:=37
abbrev ln:FuncId:=120
abbrev fJ:FuncId:=180
abbrev qn:FuncId:=223
abbrev gB:FuncId:=123
abbrev cW:FuncId:=183
abbrev tU:FuncId:=184
abbrev kN:FuncId:=237
abbrev oN:FuncId:=238
abbrev nY:FuncId:=224
abbrev iN:FuncId:=185
abbrev hD:FuncId:=124
abbrev j4:FuncId:=181
abbrev eD:FuncId:=121
abbrev nZ:FuncId:=182
abbrev pp:FuncId:=122
abbrev lY:FuncId:=76
abbrev gm:FuncId:=32
abbrev cQ:FuncId:=125
abbrev cX:FuncId:=126
abbrev qo:FuncId:=77
abbrev bX:FuncId:=188
abbrev dX:FuncId:=130
abbrev dy:FuncId:=225
abbrev fK:FuncId:=186
abbrev Ka:FuncId:=248
abbrev ik:FuncId:=249
abbrev ju:FuncId:=227
abbrev gP:FuncId:=257
abbrev iv:FuncId:=245
abbrev cM:FuncId:=239
abbrev lN:FuncId:=240
abbrev jU:FuncId:=241
abbrev kp:FuncId:=242
abbrev j5:FuncId:=243
abbrev ib:FuncId:=244
abbrev jB:FuncId:=246
abbrev lq:FuncId:=247
abbrev cv:FuncId:=226
abbrev fu:FuncId:=187
abbrev gi:FuncId:=129
abbrev dM:FuncId:=128
abbrev dN:FuncId:=127
abbrev oa:FuncId:=78
abbrev eT:FuncId:=189
abbrev dC:FuncId:=131
abbrev ob:FuncId:=132
abbrev oc:FuncId:=79
abbrev od:FuncId:=33
abbrev je:FuncId:=80
abbrev hG:FuncId:=135
abbrev jM:FuncId:=82
abbrev iO:FuncId:=84
abbrev fL:FuncId:=133
abbrev dT:FuncId:=83
abbrev kO:FuncId:=81
abbrev lZ:FuncId:=85
abbrev hO:FuncId:=34
abbrev j6:FuncId:=36
abbrev kP:FuncId:=87
abbrev j7:FuncId:=38
abbrev cN:FuncId:=197
abbrev dz:FuncId:=228
abbrev fm:FuncId:=198
abbrev bU:FuncId:=142
abbrev dH:FuncId:=199
abbrev dU:FuncId:=143
abbrev dB:FuncId:=201
abbrev fN:FuncId:=229
abbrev gj:FuncId:=200
abbrev gk:FuncId:=144
abbrev gH:FuncId:=145
abbrev j8:FuncId:=88
abbrev oe:FuncId:=146
abbrev tV:FuncId:=89
abbrev lr:FuncId:=39
abbrev fO:FuncId:=13
abbrev qp:FuncId:=159
abbrev jf:FuncId:=160
abbrev eG:FuncId:=93
abbrev cC:FuncId:=42
abbrev dm:FuncId:=43
abbrev gQ:FuncId:=94
abbrev iP:FuncId:=44
abbrev iy:FuncId:=18
abbrev kQ:FuncId:=8
abbrev aV:FuncId:=173
abbrev gR:FuncId:=152
abbrev gI:FuncId:=110
abbrev dk:FuncId:=221
abbrev dh:FuncId:=222
abbrev mc:FuncId:=174
abbrev jN:FuncId:=203
abbrev eI:FuncId:=204
abbrev md:FuncId:=172
abbrev gn:FuncId:=205
abbrev iQ:FuncId:=171
abbrev kR:FuncId:=206
abbrev jv:FuncId:=230
abbrev kS:FuncId:=207
abbrev kU:FuncId:=149
abbrev kV:FuncId:=150
abbrev iR:FuncId:=208
abbrev me:FuncId:=175
abbrev go:FuncId:=176
abbrev mf:FuncId:=114
abbrev mh:FuncId:=64
abbrev mi:FuncId:=25
abbrev mj:FuncId:=9
abbrev iz:FuncId:=10
abbrev ml:FuncId:=51
abbrev fo:FuncId:=50
abbrev iA:FuncId:=52
abbrev cg:FuncId:=104
abbrev j9:FuncId:=54
abbrev iB:FuncId:=53
abbrev og:FuncId:=56
abbrev iC:FuncId:=55
abbrev dO:FuncId:=170
abbrev dq:FuncId:=105
abbrev mn:FuncId:=58
abbrev iD:FuncId:=57
abbrev iE:FuncId:=59
abbrev iS:FuncId:=22
abbrev mo:FuncId:=95
abbrev mq:FuncId:=45
abbrev mr:FuncId:=46
abbrev mt:FuncId:=19
abbrev fU:FuncId:=20
abbrev kc:FuncId:=6
def gp (y0 y1:ByteArray) (h:ae) (Q:VH):Prop:=
 aL (decide (((y0.size:Nat):Int)≥((y1.size:Nat):Int))) (
 qy ((y1.size:Nat):Int) y0.size fun l1=>
 Q (.bool ((y0.extract 0 l1).toList==y1.toList)) h) (
 Q (.bool false) h)
noncomputable def jC:cz:=tb (ak .done []) (ak [] []) (ak none [])
theorem jg (y0 y1:ByteArray) {h:ae} {Q:VH} (H:gp y0 y1 h Q):aq P cP #[(.string y0),(.string y1)] h Q:=
 @aA P cP Tryz.f177 jC [(.string y0),(.string y1)] h Q aR Tryz.func177 Tryz.call177 (by kernel_rfl) (Eq.mpr (by kernel_rfl) H)
def gq (y0 y1:ByteArray) (h:ae) (Q:VH):Prop:=
 aE P cP #[(.string y0),(.string y1)] h fun b2 h1=>
 aL (!b2) (
 Q (.tuple #[(.string y0),(.bool false)]) h1) (
 qy ((y1.size:Nat):Int) y0.size fun l3=>
 Q (.tuple #[(.string (y0.extract l3 y0.size)),(.bool true)]) h1)
noncomputable def jD:cz:=tb (ak .done []) (ak [] []) (ak none [])
theorem jh (y0 y1:ByteArray) {h:ae} {Q:VH} (H:gq y0 y1 h Q):aq P dx #[(.string y0),(.string y1)] h Q:=
 @aA P dx Tryz.f115 jD [(.string y0),(.string y1)] h Q aR Tryz.func115 Tryz.call115 (by kernel_rfl) (Eq.mpr (by kernel_rfl) H)
def oh (y0 y1:ByteArray) (h:ae) (Q:VH):Prop:=
 aq P dx #[(.string y0),(.string y1)] h fun v2 h1=>
 ∃s3:ByteArray,∃b4:Bool,v2=(.tuple #[(.string s3),(.bool b4)])∧
 Q (.tuple #[(.string s3),(.bool b4)]) h1
noncomputable def r5:cz:=tb (ak .done []) (ak [] []) (ak none [])
theorem qq (y0 y1:ByteArray) {h:ae} {Q:VH} (H:oh y0 y1 h Q):aq P gc #[(.string y0),(.string y1)] h Q:=
 @aA P gc Tryz.f66 r5 [(.string y0),(.string y1)] h Q aR Tryz.func66 Tryz.call66 (by kernel_rfl) (Eq.mpr (by kernel_rfl) H)
def ET (y0:ByteArray) (h:ae) (Q:VH):Prop:=
 aW h (.cells #[(.int .i64 0),(.string y0),(.int .i64 0)] 169 (0,0)) fun b1 h2=>
 Q (.pointer (some ⟨b1,0,none⟩)) h2
noncomputable def Ec:cz:=tb (ak .done []) (ak [] []) (ak none [])
theorem Cn (y0:ByteArray) {h:ae} {Q:VH} (H:ET y0 h Q):aq P nV #[(.string y0)] h Q:=
 @aA P nV Tryz.f67 Ec [(.string y0)] h Q aR Tryz.func67 Tryz.call67 (by kernel_rfl) (Eq.mpr (by kernel_rfl) H)
def rE (y0:Option Addr) (h:ae) (Q:VH):Prop:=
 cH y0 fun a1=>
 ah .i64 h a1 fun n2=>
 Q (.int .i64 n2) h
noncomputable def uI:cz:=tb (ak .done []) (ak [] []) (ak none [])
theorem sW (y0:Option Addr) {h:ae} {Q:VH} (H:rE y0 h Q):aq P fF #[(.pointer y0)] h Q:=
 @aA P fF Tryz.f119 uI [(.pointer y0)] h Q aR Tryz.func119 Tryz.call119 (by kernel_rfl) (Eq.mpr (by kernel_rfl) H)
def pq (y0:Option Addr) (h:ae) (Q:VH):Prop:=
 aL ((y0).isNone) (
 Q (.int .i64 0) h) (
 cH y0 fun a1=>
 cH y0 fun a2=>
 vw h (a1.add 1) fun s3=>
 aI P .i64 fF #[(.pointer (some a2))] h fun n5 h4=>
 aD h4 (a1.add 1)=some (.string s3)∧
 Q (.int .i64 (IntKind.wrap .i64 (((s3.size:Nat):Int)-n5))) h4)
noncomputable def sX:cz:=tb (ak .done [(3,(bD [0,1,2,5,6,7] (.early 3 (bD [4] (.alt 8 (bD [9,10] .done) .stop)))))]) (ak [] []) (ak none [])
theorem r7 (y0:Option Addr) {h:ae} {Q:VH} (H:pq y0 h Q):aq P fj #[(.pointer y0)] h Q:=
 @aA P fj Tryz.f73 sX [(.pointer y0)] h Q aR Tryz.func73 Tryz.call73 (by kernel_rfl) (Eq.mpr (by kernel_rfl) H)
def pr (y0:Option Addr) (y1:Int) (h:ae) (Q:VH):Prop:=
 cH y0 fun a1=>
 ah .i64 h a1 fun n2=>
 cH y0 fun a3=>
 bu h a3 (.int .i64 (IntKind.wrap .i64 (n2+y1))) fun h4=>
 Q (.tuple #[]) h4
noncomputable def sY:cz:=tb (ak .done []) (ak [] []) (ak none [])
theorem r8 (y0:Option Addr) (y1:Int) {h:ae} {Q:VH} (H:pr y0 y1 h Q):aq P fk #[(.pointer y0),(.int .i64 y1)] h Q:=
 @aA P fk Tryz.f178 sY [(.pointer y0),(.int .i64 y1)] h Q aR Tryz.func178 Tryz.call178 (by kernel_rfl) (Eq.mpr (by kernel_rfl) H)
def m5 (Q:VH) (K1:(Option Addr×Int×Int×Int×Int×Unit)→ae→Prop) (y0:Option Addr) (y1 y5 t23 t24:Int) (h7:ae):Prop:=
 aL (decide (t24<t23)) (
 cH y0 fun a8=>
 cH y0 fun a9=>
 vw h7 (a8.add 1) fun s10=>
 aI P .i64 fF #[(.pointer (some a9))] h7 fun n12 h11=>
 aD h11 (a8.add 1)=some (.string s10)∧
 vT s10 (IntKind.wrap .i64 (n12+t24)) fun b13=>
 Be (IntKind.wrap .i64 ((8:Int)*t24)) fun _=>
 K1 (y0,y1,(DW .u64 y5 (Hd .u64 (IntKind.wrap .u64 (b13.toNat:Int)) (min (IntKind.wrap .i64 ((8:Int)*t24)).toNat 64))),t23,(IntKind.wrap .i64 (t24+1)),()) h11) (
 cH y0 fun a14=>
 bc P fk #[(.pointer (some a14)),(.int .i64 y1)] h7 fun h15=>
 Q (.int .u64 y5) h15)
def m6 (Q:VH) (y0:Option Addr) (y1:Int) (h2:ae):Prop:=
 aI P .i64 fj #[(.pointer y0)] h2 fun n4 h3=>
 aL (decide (n4<y1)) (
 cH y0 fun a5=>
 bu h3 (a5.add 2) (.int .i64 11) fun h6=>
 Q (.int .u64 0) h6) (
 bB (S:=(Option Addr×Int×Int×Int×Int×Unit)) (fun K1 s h=>m5 Q K1 s.1 s.2.1 s.2.2.1 s.2.2.2.1 s.2.2.2.2.1 h) (y0,y1,(0:Int),y1,(0:Int),()) h3)
def rF (y0:Option Addr) (y1:Int) (h:ae) (Q:VH):Prop:=
 ∃J1:(Option Addr×Int×Unit)→ae→Prop,(∀s h,J1 s h→m6 Q s.1 s.2.1 h)∧
 aL ((y0).isNone) (
 Q (.int .u64 0) h) (
 cH y0 fun a16=>
 ah .i64 h (a16.add 2) fun n17=>
 aL (n17 !=0) (
 Q (.int .u64 0) h) (
 J1 (y0,y1,()) h))
noncomputable def uJ:cz:=tb (ak .done [(10,(bD [0,1,2,3,5,6,7,9,13,14] (.early 4 (.alt 8 (bD [10,11,12,15,16,17] .done) .stop))))]) (ak [] [(8,[(0,.sc (.ptr)),(1,I6),(5,.sc (.int .u64)),(23,I6),(24,I6)])]) (ak none [(3,some [(0,.sc (.ptr)),(1,I6)])])
theorem sZ (y0:Option Addr) (y1:Int) {h:ae} {Q:VH} (H:rF y0 y1 h Q):aq P dW #[(.pointer y0),(.int .i64 y1)] h Q:=
 @aA P dW Tryz.f116 uJ [(.pointer y0),(.int .i64 y1)] h Q aR Tryz.func116 Tryz.call116 (by kernel_rfl) (Eq.mpr (by kernel_rfl) H)
def pt (y0:Option Addr) (h:ae) (Q:VH):Prop:=
 aI P .u64 dW #[(.pointer y0),(.int .i64 1)] h fun n2 h1=>
 Q (.int .i64 (IntKind.wrap .i64 n2)) h1
noncomputable def s0:cz:=tb (ak .done []) (ak [] []) (ak none [])
theorem r9 (y0:Option Addr) {h:ae} {Q:VH} (H:pt y0 h Q):aq P dF #[(.pointer y0)] h Q:=
 @aA P dF Tryz.f70 s0 [(.pointer y0)] h Q aR Tryz.func70 Tryz.call70 (by kernel_rfl) (Eq.mpr (by kernel_rfl) H)
def kz (Q:VH) (K1:(Addr×S3×Int×Int×Unit)→ae→Prop) (y2:Addr) (t6_p:OA) (t6_n t6_c:Nat) (t7 t8:Int) (h3:ae):Prop:=
 aL (decide (t8<t7)) (
 bl t6_p t8 t6_n fun a4=>
 i8 h3 (a4.add (t8.toNat*1)) fun p5=>
 i8 h3 y2 fun p6=>
 aI P .i64 dF #[(.pointer p6)] h3 fun n8 h7=>
 cH p5 fun a9=>
 bu h7 a9 (.int .i64 n8) fun h10=>
 K1 (y2,(t6_p,t6_n,t6_c),t7,(IntKind.wrap .i64 (t8+1)),()) h10) (
 Q (.tuple #[]) h3)
def m7 (y0:Option Addr) (y1p:OA) (y1n y1c:Nat) (h:ae) (Q:VH):Prop:=
 aW h (.cells #[(.pointer y0)] 115 (0,0)) fun b1 h2=>
 bB (S:=(Addr×S3×Int×Int×Unit)) (fun K1 s h=>kz Q K1 s.1 s.2.1.1 s.2.1.2.1 s.2.1.2.2 s.2.2.1 s.2.2.2.1 h) (⟨b1,0,none⟩,(y1p,y1n,y1c),(y1n:Int),(0:Int),()) h2
noncomputable def qr:cz:=tb (ak .done []) (ak [] [(2,[(2,.sc (.adr)),(6,SL),(7,I6),(8,I6)])]) (ak none [])
theorem pu (y0:Option Addr) (y1p:OA) (y1n y1c:Nat) {h:ae} {Q:VH} (H:m7 y0 y1p y1n y1c h Q):aq P cp #[(.agg #[(.pointer y0)]),(.slice y1p y1n y1c)] h Q:=
 @aA P cp Tryz.f68 qr [(.agg #[(.pointer y0)]),(.slice y1p y1n y1c)] h Q aR Tryz.func68 Tryz.call68 (by kernel_rfl) (Eq.mpr (by kernel_rfl) H)
def px (y0:Option Addr) (h:ae) (Q:VH):Prop:=
 aI P .u64 dW #[(.pointer y0),(.int .i64 4)] h fun n2 h1=>
 Q (.int .i64 (IntKind.wrap .i64 (IntKind.wrap .i32 n2))) h1
noncomputable def ta:cz:=tb (ak .done []) (ak [] []) (ak none [])
theorem sb (y0:Option Addr) {h:ae} {Q:VH} (H:px y0 h Q):aq P cT #[(.pointer y0)] h Q:=
 @aA P cT Tryz.f69 ta [(.pointer y0)] h Q aR Tryz.func69 Tryz.call69 (by kernel_rfl) (Eq.mpr (by kernel_rfl) H)
def om (y0:Option Addr) (h:ae) (Q:VH):Prop:=
 aI P .u64 dW #[(.pointer y0),(.int .i64 2)] h fun n2 h1=>
 Q (.int .i64 (IntKind.wrap .i64 n2)) h1
noncomputable def se:cz:=tb (ak .done []) (ak [] []) (ak none [])
theorem qs (y0:Option Addr) {h:ae} {Q:VH} (H:om y0 h Q):aq P eO #[(.pointer y0)] h Q:=
 @aA P eO Tryz.f118 se [(.pointer y0)] h Q aR Tryz.func118 Tryz.call118 (by kernel_rfl) (Eq.mpr (by kernel_rfl) H)
def rG (y0:Option Addr) (h:ae) (Q:VH):Prop:=
 aL ((y0).isNone) (
 Q (.int .i64 1) h) (
 cH y0 fun a1=>
 ah .i64 h (a1.add 2) fun n2=>
 Q (.int .i64 n2) h)
noncomputable def uK:cz:=tb (ak .done []) (ak [] []) (ak none [])
theorem tc (y0:Option Addr) {h:ae} {Q:VH} (H:rG y0 h Q):aq P fG #[(.pointer y0)] h Q:=
 @aA P fG Tryz.f72 uK [(.pointer y0)] h Q aR Tryz.func72 Tryz.call72 (by kernel_rfl) (Eq.mpr (by kernel_rfl) H)
def m8 (Q:VH) (K1:YH Y1) (y0:Option Addr) (y3p:OA) (y3n y3c:Nat) (t6 t7:Int) (h3:ae):Prop:=
 aL (decide (t7<t6)) (
 aI P .i64 cT #[(.pointer y0)] h3 fun n5 h4=>
 aI P .i64 fG #[(.pointer y0)] h4 fun n7 h6=>
 aL (n7 !=0) (
 Q (.slice none 0 0) h6) (
 aW h6 (.cells #[(.int .i64 n5)] 3 (0,0)) fun b8 h9=>
 jm 3 1 8 (.int .i64 0) y3p y3n y3c (some ⟨b8,0,none⟩) 1 h9 fun p10 l10 c10 h11=>
 K1 (y0,(p10,l10,c10),t6,(IntKind.wrap .i64 (t7+1)),()) h11)) (
 Q (.slice y3p y3n y3c) h3)
def rH (y0:Option Addr) (h:ae) (Q:VH):Prop:=
 aI P .i64 eO #[(.pointer y0)] h fun n2 h1=>
 bB (S:=Y1) (fun K1 s h=>m8 Q K1 s.1 s.2.1.1 s.2.1.2.1 s.2.1.2.2 s.2.2.1 s.2.2.2.1 h) (y0,(none,0,0),n2,(0:Int),()) h1
noncomputable def uL:cz:=tb (ak .done []) (ak [] [(3,[(0,.sc (.ptr)),(3,SL),(6,I6),(7,I6)])]) (ak none [])
theorem td (y0:Option Addr) {h:ae} {Q:VH} (H:rH y0 h Q):aq P fH #[(.pointer y0)] h Q:=
 @aA P fH Tryz.f117 uL [(.pointer y0)] h Q aR Tryz.func117 Tryz.call117 (by kernel_rfl) (Eq.mpr (by kernel_rfl) H)
def ls (Q:VH) (K1:(Addr×Addr×Addr×Int×Int×Unit)→ae→Prop) (y1 t2 y3:Addr) (t9 t10:Int) (h15:ae):Prop:=
 aL (decide (t10<t9)) (
 av h15 (y3.add 1) fun p16 l16 c16=>
 i8 h15 y1 fun p17=>
 aI P .i64 dF #[(.pointer p17)] h15 fun n19 h18=>
 aD h18 (y3.add 1)=some (.slice p16 l16 c16)∧
 aW h18 (.cells #[(.int .i64 n19)] 3 (0,0)) fun b20 h21=>
 jm 3 1 8 (.int .i64 0) p16 l16 c16 (some ⟨b20,0,none⟩) 1 h21 fun p22 l22 c22 h23=>
 bu h23 (y3.add 1) (.slice p22 l22 c22) fun h24=>
 K1 (y1,t2,y3,t9,(IntKind.wrap .i64 (t10+1)),()) h24) (
 i8 h15 y1 fun p25=>
 aW h15 (.cells #[(.pointer (some (y3.add 2))),(.pointer (some (y3.add 3))),(.pointer (some (y3.add 4))),(.pointer (some (y3.add 5))),(.pointer (some (y3.add 6))),(.pointer (some (y3.add 7)))] 117 (0,0)) fun b26 h27=>
 bc P cp #[(.agg #[(.pointer p25)]),(.slice (some ⟨b26,0,none⟩) 6 6)] h27 fun h28=>
 i8 h28 y1 fun p29=>
 i8 h28 y1 fun p30=>
 bM P fH #[(.pointer p29)] h28 fun p32 l32 c32 h31=>
 aD h31 y1=some (.pointer p30)∧
 bM P fH #[(.pointer p30)] h31 fun p34 l34 c34 h33=>
 aD h33 y1=some (.pointer p29)∧
 bu h33 (y3.add 8) (.slice p32 l32 c32) fun h35=>
 aD h35 y1=some (.pointer p30)∧
 bu h35 (y3.add 9) (.slice p34 l34 c34) fun h36=>
 i8 h36 y1 fun p37=>
 aI P .i64 eO #[(.pointer p37)] h36 fun n39 h38=>
 bu h38 (y3.add 10) (.int .i64 n39) fun h40=>
 i8 h40 y1 fun p41=>
 aW h40 (.cells #[(.pointer (some (y3.add 11)))] 117 (0,0)) fun b42 h43=>
 bc P cp #[(.agg #[(.pointer p41)]),(.slice (some ⟨b42,0,none⟩) 1 1)] h43 fun h44=>
 i8 h44 y1 fun p45=>
 i8 h44 y1 fun p46=>
 aI P .i64 cT #[(.pointer p45)] h44 fun n48 h47=>
 aD h47 y1=some (.pointer p46)∧
 aI P .i64 cT #[(.pointer p46)] h47 fun n50 h49=>
 aD h49 y1=some (.pointer p45)∧
 bu h49 (y3.add 12) (.int .i64 n48) fun h51=>
 aD h51 y1=some (.pointer p46)∧
 bu h51 (y3.add 13) (.int .i64 n50) fun h52=>
 i8 h52 y1 fun p53=>
 aW h52 (.cells #[(.pointer (some (y3.add 14)))] 117 (0,0)) fun b54 h55=>
 bc P cp #[(.agg #[(.pointer p53)]),(.slice (some ⟨b54,0,none⟩) 1 1)] h55 fun h56=>
 aX A1 h56 y3 fun x57=>
 bt (aP A1 x57) h56 t2 0 fun h58=>
 aX A1 h58 t2 fun x59=>
 Q (bz A1 x59) h58)
def oo (y0:Option Addr) (h:ae) (Q:VH):Prop:=
 aW h (.cells #[(.pointer y0)] 115 (0,0)) fun b1 h2=>
 aW h2 (.cells (aP A1 (zT A1)).toArray 62 (0,0)) fun b3 h4=>
 aW h4 (.cells (aP A1 (zT A1)).toArray 62 (0,0)) fun b5 h6=>
 aW h6 (.cells #[(.int .i64 0)] 3 (0,0)) fun b7 h8=>
 bu h8 ⟨b7,0,none⟩ (.int .i64 0) fun h9=>
 i8 h9 ⟨b1,0,none⟩ fun p10=>
 aW h9 (.cells #[(.pointer (some ⟨b5,0,none⟩)),(.pointer (some ⟨b7,0,none⟩))] 117 (0,0)) fun b11 h12=>
 bc P cp #[(.agg #[(.pointer p10)]),(.slice (some ⟨b11,0,none⟩) 2 2)] h12 fun h13=>
 ah .i64 h13 ⟨b7,0,none⟩ fun n14=>
 bB (S:=(Addr×Addr×Addr×Int×Int×Unit)) (fun K1 s h=>ls Q K1 s.1 s.2.1 s.2.2.1 s.2.2.2.1 s.2.2.2.2.1 h) (⟨b1,0,none⟩,⟨b3,0,none⟩,⟨b5,0,none⟩,n14,(0:Int),()) h13
noncomputable def sf:cz:=tb (ak .done [(6,(bD [0,2] (.early 1 (.alt 3 (.alt 4 (.alt 5 (.alt 6 (bD [7] (.alt 8 .done .stop)) .stop) .stop) .stop) .stop)))),(9,(bD [0,3] (.early 1 (.early 4 (.alt 2 (.alt 5 (bD [6] (.alt 7 (bD [8] (.alt 9 .done .stop)) .stop)) .stop) .stop))))),(12,(bD [0,3] (.early 1 (.early 4 (.alt 2 (.alt 5 (bD [6] (.alt 7 (bD [8] (.alt 9 .done .stop)) .stop)) .stop) .stop)))))]) (ak [] [(5,[(1,.sc (.adr)),(2,.sc (.adr)),(3,.sc (.adr)),(9,I6),(10,I6)])]) (ak none [])
theorem qt (y0:Option Addr) {h:ae} {Q:VH} (H:oo y0 h Q):aq P gd #[(.agg #[(.pointer y0)])] h Q:=
 @aA P gd Tryz.f71 sf [(.agg #[(.pointer y0)])] h Q aR Tryz.func71 Tryz.call71 (by kernel_rfl) (Eq.mpr (by kernel_rfl) H)
def rI (Q:VH) (K1:(Addr×Addr×Addr×Int×Int×Unit)→ae→Prop) (t2 y6 y7:Addr) (t33 t34:Int) (h31:ae):Prop:=
 aL (decide (t34<t33)) (
 av h31 (y7.add 3) fun p32 l32 c32=>
 i8 h31 y6 fun p33=>
 aq P gd #[(.agg #[(.pointer p33)])] h31 fun v35 h34=>
 E3 A1 fun x36=>v35=(bz A1 x36)∧
 aD h34 (y7.add 3)=some (.slice p32 l32 c32)∧
 aW h34 (.cells (aP A1 x36).toArray 62 (0,0)) fun b37 h38=>
 jm 62 15 168 (bz A1 (zT A1)) p32 l32 c32 (some ⟨b37,0,none⟩) 1 h38 fun p39 l39 c39 h40=>
 bu h40 (y7.add 3) (.slice p39 l39 c39) fun h41=>
 K1 (t2,y6,y7,t33,(IntKind.wrap .i64 (t34+1)),()) h41) (
 i8 h31 y6 fun p42=>
 aW h31 (.cells #[(.pointer (some (y7.add 4)))] 117 (0,0)) fun b43 h44=>
 bc P cp #[(.agg #[(.pointer p42)]),(.slice (some ⟨b43,0,none⟩) 1 1)] h44 fun h45=>
 i8 h45 y6 fun p46=>
 aI P .i64 fG #[(.pointer p46)] h45 fun n48 h47=>
 aL (n48 !=0) (
 bt [(.int .i64 0),(.int .i64 0),(.int .i64 0),(.slice none 0 0),(.int .i64 0)] h47 t2 0 fun h49=>
 aX A2 h49 t2 fun x50=>
 Q (.tuple #[(bz A2 x50),(.int .i64 11)]) h49) (
 i8 h47 y6 fun p51=>
 aI P .i64 fj #[(.pointer p51)] h47 fun n53 h52=>
 aL (decide (n53>0)) (
 bt [(.int .i64 0),(.int .i64 0),(.int .i64 0),(.slice none 0 0),(.int .i64 0)] h52 t2 0 fun h54=>
 aX A2 h54 t2 fun x55=>
 Q (.tuple #[(bz A2 x55),(.int .i64 10)]) h54) (
 aX A2 h52 y7 fun x56=>
 bt (aP A2 x56) h52 t2 0 fun h57=>
 aX A2 h57 t2 fun x58=>
 Q (.tuple #[(bz A2 x58),(.int .i64 0)]) h57)))
def xn (y0:ByteArray) (h:ae) (Q:VH):Prop:=
 aW h (.cells (aP A2 (zT A2)).toArray 32 (0,0)) fun b1 h2=>
 aq P gc #[(.string y0),(.string (ByteArray.mk #[69,65,82,49]))] h2 fun v4 h3=>
 ∃s5:ByteArray,∃b6:Bool,v4=(.tuple #[(.string s5),(.bool b6)])∧
 aL (!b6) (
 bt [(.int .i64 0),(.int .i64 0),(.int .i64 0),(.slice none 0 0),(.int .i64 0)] h3 ⟨b1,0,none⟩ 0 fun h7=>
 aX A2 h7 ⟨b1,0,none⟩ fun x8=>
 Q (.tuple #[(bz A2 x8),(.int .i64 10)]) h7) (
 On P nV #[(.string s5)] h3 fun p10 h9=>
 aW h9 (.cells #[(.pointer none)] 115 (0,0)) fun b11 h12=>
 bu h12 ⟨b11,0,none⟩ (.pointer p10) fun h13=>
 aW h13 (.cells (aP A2 (zT A2)).toArray 32 (0,0)) fun b14 h15=>
 i8 h15 ⟨b11,0,none⟩ fun p16=>
 aW h15 (.cells #[(.pointer (some ⟨b14,0,none⟩))] 117 (0,0)) fun b17 h18=>
 bc P cp #[(.agg #[(.pointer p16)]),(.slice (some ⟨b17,0,none⟩) 1 1)] h18 fun h19=>
 i8 h19 ⟨b11,0,none⟩ fun p20=>
 i8 h19 ⟨b11,0,none⟩ fun p21=>
 aI P .i64 cT #[(.pointer p20)] h19 fun n23 h22=>
 aD h22 ⟨b11,0,none⟩=some (.pointer p21)∧
 aI P .i64 cT #[(.pointer p21)] h22 fun n25 h24=>
 aD h24 ⟨b11,0,none⟩=some (.pointer p20)∧
 bu h24 ⟨b14,1,none⟩ (.int .i64 n23) fun h26=>
 aD h26 ⟨b11,0,none⟩=some (.pointer p21)∧
 bu h26 ⟨b14,2,none⟩ (.int .i64 n25) fun h27=>
 i8 h27 ⟨b11,0,none⟩ fun p28=>
 aI P .i64 dF #[(.pointer p28)] h27 fun n30 h29=>
 bB (S:=(Addr×Addr×Addr×Int×Int×Unit)) (fun K1 s h=>rI Q K1 s.1 s.2.1 s.2.2.1 s.2.2.2.1 s.2.2.2.2.1 h) (⟨b1,0,none⟩,⟨b11,0,none⟩,⟨b14,0,none⟩,n30,(0:Int),()) h29)
noncomputable def yU:cz:=tb (ak .done [(7,(bD [0,3] (.early 1 (.early 4 (.alt 2 (.alt 5 (bD [6] (.alt 7 (bD [8] (.alt 9 .done .stop)) .stop)) .stop) .stop))))),(10,(bD [0] (.early 1 (.alt 2 (.alt 3 (.alt 4 (.alt 5 (bD [6] (.alt 7 .done .stop)) .stop) .stop) .stop) .stop))))]) (ak [] [(9,[(2,.sc (.adr)),(6,.sc (.adr)),(7,.sc (.adr)),(33,I6),(34,I6)])]) (ak none [])
theorem xp (y0:ByteArray) {h:ae} {Q:VH} (H:xn y0 h Q):aq P j0 #[(.string y0)] h Q:=
 @aA P j0 Tryz.f31 yU [(.string y0)] h Q aR Tryz.func31 Tryz.call31 (by kernel_rfl) (Eq.mpr (by kernel_rfl) H)
def vk (Q:VH) (K1:(Int×S3×Int×Int×Unit)→ae→Prop) (K2:YH Y2) (y3:Int) (t54_p:OA) (t54_n t54_c:Nat) (t55 t56:Int) (t61_p:OA) (t61_n t61_c:Nat) (t62 t63:Int) (h16:ae):Prop:=
 aL (decide (t63<t62)) (
 bl t61_p t63 t61_n fun a17=>
 ah .i64 h16 (a17.add (t63.toNat*1)) fun n18=>
 aL (decide (n18<0)) (
 Q (.int .i64 1) h16) (
 aL (decide (n18>y3)) (
 Q (.int .i64 1) h16) (
 K2 (y3,(t54_p,t54_n,t54_c),t55,t56,(t61_p,t61_n,t61_c),t62,(IntKind.wrap .i64 (t63+1)),()) h16))) (
 K1 (y3,(t54_p,t54_n,t54_c),t55,(IntKind.wrap .i64 (t56+1)),()) h16)
def xq (Q:VH) (K1:(Int×S3×Int×Int×Unit)→ae→Prop) (y3:Int) (t54_p:OA) (t54_n t54_c:Nat) (t55 t56:Int) (h9:ae):Prop:=
 aL (decide (t56<t55)) (
 bl t54_p t56 t54_n fun a10=>
 aX A1 h9 (a10.add (t56.toNat*15)) fun x11=>
 aW h9 (.cells (aP A1 (zT A1)).toArray 62 (0,0)) fun b12 h13=>
 bt (aP A1 x11) h13 ⟨b12,0,none⟩ 0 fun h14=>
 av h14 ⟨b12,1,none⟩ fun p15 l15 c15=>
 bB (S:=Y2) (fun K2 s h=>vk Q K1 K2 s.1 s.2.1.1 s.2.1.2.1 s.2.1.2.2 s.2.2.1 s.2.2.2.1 s.2.2.2.2.1.1 s.2.2.2.2.1.2.1 s.2.2.2.2.1.2.2 s.2.2.2.2.2.1 s.2.2.2.2.2.2.1 h) (y3,(t54_p,t54_n,t54_c),t55,t56,(p15,l15,c15),(l15:Int),(0:Int),()) h14) (
 Q (.int .i64 0) h9)
def xr (Q:VH) (y1:Addr) (y3:Int) (h7:ae):Prop:=
 av h7 (y1.add 3) fun p8 l8 c8=>
 bB (S:=(Int×S3×Int×Int×Unit)) (fun K1 s h=>xq Q K1 s.1 s.2.1.1 s.2.1.2.1 s.2.1.2.2 s.2.2.1 s.2.2.2.1 h) (y3,(p8,l8,c8),(l8:Int),(0:Int),()) h7
def xt (Q:VH) (y1:Addr) (y3:Int) (h5:ae):Prop:=
 ∃J6:(Addr×Int×Unit)→ae→Prop,(∀s h,J6 s h→xr Q s.1 s.2.1 h)∧
 ah .i64 h5 y1 fun n19=>
 aL (decide (n19<1)) (
 Q (.int .i64 1) h5) (
 ah .i64 h5 y1 fun n20=>
 aL (decide (n20>16)) (
 Q (.int .i64 1) h5) (
 ah .i64 h5 (y1.add 1) fun n21=>
 ah .i64 h5 (y1.add 2) fun n22=>
 aL (decide (n21>n22)) (
 Q (.int .i64 1) h5) (
 ah .i64 h5 (y1.add 1) fun n23=>
 aL (decide (n23<(-32768:Int))) (
 Q (.int .i64 1) h5) (
 ah .i64 h5 (y1.add 2) fun n24=>
 aL (decide (n24>32767)) (
 Q (.int .i64 1) h5) (
 ah .i64 h5 (y1.add 4) fun n25=>
 aL (decide (n25<1)) (
 Q (.int .i64 1) h5) (
 ah .i64 h5 (y1.add 4) fun n26=>
 aL (decide (n26>y3)) (
 Q (.int .i64 1) h5) (
 J6 (y1,y3,()) h5)))))))
def EU (y0:TS A2) (h:ae) (Q:VH):Prop:=
 aW h (.cells (aP A2 y0).toArray 32 (0,0)) fun b1 h2=>
 av h2 ⟨b1,3,none⟩ fun p3 l3 c3=>
 ∃J4:(Addr×Int×Unit)→ae→Prop,(∀s h,J4 s h→xt Q s.1 s.2.1 h)∧
 aL (decide ((l3:Int)<1)) (
 Q (.int .i64 22) h2) (
 aL (decide ((l3:Int)>12)) (
 Q (.int .i64 22) h2) (
 J4 (⟨b1,0,none⟩,(l3:Int),()) h2))
noncomputable def Ed:cz:=tb (ak .done []) (ak [] [(7,[(3,I6),(54,SL),(55,I6),(56,I6)]),(10,[(3,I6),(54,SL),(55,I6),(56,I6),(61,SL),(62,I6),(63,I6)])]) (ak none [(4,some [(1,.sc (.adr)),(3,I6)]),(6,some [(1,.sc (.adr)),(3,I6)])])
theorem Co (y0:TS A2) {h:ae} {Q:VH} (H:EU y0 h Q):aq P nW #[(bz A2 y0)] h Q:=
 @aA P nW Tryz.f136 Ed [(bz A2 y0)] h Q aR Tryz.func136 Tryz.call136 (by kernel_rfl) (Eq.mpr (by kernel_rfl) H)
def rJ (y0:Int) (free0:Addr) (h:ae) (Q:VH):Prop:=
 tn h free0 fun m1=>
 lG .i64 (.int .i64 0) m1 y0 h fun v3 b4=>
 ∃n5:Int,∃b6:Bool,(Value.tuple #[v3,.bool b4])=(.tuple #[(.int .i64 n5),(.bool b6)])∧
 Q (.bool (!b6)) h
noncomputable def uM:cz:=tb (ak .done []) (ak [] []) (ak none [])
theorem te (y0:Int) (free0:Addr) {h:ae} {Q:VH} (H:rJ y0 free0 h Q):aq P ce #[(.int .i64 y0),(.pointer (some free0))] h Q:=
 @aA P ce Tryz.f190 uM [(.int .i64 y0),(.pointer (some free0))] h Q aR Tryz.func190 Tryz.call190 (by kernel_rfl) (Eq.mpr (by kernel_rfl) H)
def dc (Q:VH) (K1:YH Qt) (y0p:OA) (y0n y0c:Nat) (f_1_c0:Addr) (t7 t8:Int) (h1:ae):Prop:=
 aL (decide (t8<t7)) (
 bl y0p t8 y0n fun a2=>
 ah .i64 h1 (a2.add (t8.toNat*1)) fun n3=>
 aE P ce #[(.int .i64 n3),(.pointer (some f_1_c0))] h1 fun b5 h4=>
 aL b5 (
 Q (.int .i64 t8) h4) (
 K1 ((y0p,y0n,y0c),((()),(f_1_c0,())),t7,(IntKind.wrap .i64 (t8+1)),()) h4)) (
 Q (.int .i64 (-1:Int)) h1)
def dr (y0p:OA) (y0n y0c:Nat) (f_1_c0:Addr) (h:ae) (Q:VH):Prop:=
 bB (S:=Qt) (fun K1 s h=>dc Q K1 s.1.1 s.1.2.1 s.1.2.2 s.2.1.2.1 s.2.2.1 s.2.2.2.1 h) ((y0p,y0n,y0c),((()),(f_1_c0,())),(y0n:Int),(0:Int),()) h
noncomputable def fP:cz:=tb (ak .done []) (ak [] [(2,[(0,SL),(1,.fn 190 [] [.adr]),(7,I6),(8,I6)])]) (ak none [])
theorem fA (y0p:OA) (y0n y0c:Nat) (f_1_c0:Addr) {h:ae} {Q:VH} (H:dr y0p y0n y0c f_1_c0 h Q):aq P bv #[(.slice y0p y0n y0c),(.func (.func ce) #[] #[(.pointer (some f_1_c0))])] h Q:=
 @aA P bv Tryz.f169 fP [(.slice y0p y0n y0c),(.func (.func ce) #[] #[(.pointer (some f_1_c0))])] h Q aR Tryz.func169 Tryz.call169 (by kernel_rfl) (Eq.mpr (by kernel_rfl) H)
def dt (Q:VH) (K1:YH Qt) (y0p:OA) (y0n y0c:Nat) (f_1_c0:Addr) (t7 t8:Int) (h1:ae):Prop:=
 aL (decide (t8<t7)) (
 bl y0p t8 y0n fun a2=>
 ah .i64 h1 (a2.add (t8.toNat*1)) fun n3=>
 aE P cK #[(.int .i64 n3),(.pointer (some f_1_c0))] h1 fun b5 h4=>
 aL b5 (
 Q (.int .i64 t8) h4) (
 K1 ((y0p,y0n,y0c),((()),(f_1_c0,())),t7,(IntKind.wrap .i64 (t8+1)),()) h4)) (
 Q (.int .i64 (-1:Int)) h1)
def dE (y0p:OA) (y0n y0c:Nat) (f_1_c0:Addr) (h:ae) (Q:VH):Prop:=
 bB (S:=Qt) (fun K1 s h=>dt Q K1 s.1.1 s.1.2.1 s.1.2.2 s.2.1.2.1 s.2.2.1 s.2.2.2.1 h) ((y0p,y0n,y0c),((()),(f_1_c0,())),(y0n:Int),(0:Int),()) h
noncomputable def gu:cz:=tb (ak .done []) (ak [] [(2,[(0,SL),(1,.fn 195 [] [.adr]),(7,I6),(8,I6)])]) (ak none [])
theorem fY (y0p:OA) (y0n y0c:Nat) (f_1_c0:Addr) {h:ae} {Q:VH} (H:dE y0p y0n y0c f_1_c0 h Q):aq P bv #[(.slice y0p y0n y0c),(.func (.func cK) #[] #[(.pointer (some f_1_c0))])] h Q:=
 @aA P bv Tryz.f169 gu [(.slice y0p y0n y0c),(.func (.func cK) #[] #[(.pointer (some f_1_c0))])] h Q aR Tryz.func169 Tryz.call169 (by kernel_rfl) (Eq.mpr (by kernel_rfl) H)
def di (Q:VH) (K1:YH Qt) (y0p:OA) (y0n y0c:Nat) (f_1_c0:Addr) (t7 t8:Int) (h1:ae):Prop:=
 aL (decide (t8<t7)) (
 bl y0p t8 y0n fun a2=>
 ah .i64 h1 (a2.add (t8.toNat*1)) fun n3=>
 aE P cg #[(.int .i64 n3),(.pointer (some f_1_c0))] h1 fun b5 h4=>
 aL b5 (
 Q (.int .i64 t8) h4) (
 K1 ((y0p,y0n,y0c),((()),(f_1_c0,())),t7,(IntKind.wrap .i64 (t8+1)),()) h4)) (
 Q (.int .i64 (-1:Int)) h1)
def dA (y0p:OA) (y0n y0c:Nat) (f_1_c0:Addr) (h:ae) (Q:VH):Prop:=
 bB (S:=Qt) (fun K1 s h=>di Q K1 s.1.1 s.1.2.1 s.1.2.2 s.2.1.2.1 s.2.2.1 s.2.2.2.1 h) ((y0p,y0n,y0c),((()),(f_1_c0,())),(y0n:Int),(0:Int),()) h
noncomputable def fV:cz:=tb (ak .done []) (ak [] [(2,[(0,SL),(1,.fn 104 [] [.adr]),(7,I6),(8,I6)])]) (ak none [])
theorem fQ (y0p:OA) (y0n y0c:Nat) (f_1_c0:Addr) {h:ae} {Q:VH} (H:dA y0p y0n y0c f_1_c0 h Q):aq P bv #[(.slice y0p y0n y0c),(.func (.func cg) #[] #[(.pointer (some f_1_c0))])] h Q:=
 @aA P bv Tryz.f169 fV [(.slice y0p y0n y0c),(.func (.func cg) #[] #[(.pointer (some f_1_c0))])] h Q aR Tryz.func169 Tryz.call169 (by kernel_rfl) (Eq.mpr (by kernel_rfl) H)
def de (y0p:OA) (y0n y0c:Nat) (f_1_c0:Addr) (h:ae) (Q:VH):Prop:=
 aI P .i64 bv #[(.slice y0p y0n y0c),(.func (.func ce) #[] #[(.pointer (some f_1_c0))])] h fun n2 h1=>
 Q (.bool (decide (n2≥0))) h1
noncomputable def fp:cz:=tb (ak .done []) (ak [] []) (ak none [])
theorem fd (y0p:OA) (y0n y0c:Nat) (f_1_c0:Addr) {h:ae} {Q:VH} (H:de y0p y0n y0c f_1_c0 h Q):aq P bh #[(.slice y0p y0n y0c),(.func (.func ce) #[] #[(.pointer (some f_1_c0))])] h Q:=
 @aA P bh Tryz.f103 fp [(.slice y0p y0n y0c),(.func (.func ce) #[] #[(.pointer (some f_1_c0))])] h Q aR Tryz.func103 Tryz.call103 (by kernel_rfl) (Eq.mpr (by kernel_rfl) H)
def du (y0p:OA) (y0n y0c:Nat) (f_1_c0:Addr) (h:ae) (Q:VH):Prop:=
 aI P .i64 bv #[(.slice y0p y0n y0c),(.func (.func cK) #[] #[(.pointer (some f_1_c0))])] h fun n2 h1=>
 Q (.bool (decide (n2≥0))) h1
noncomputable def fR:cz:=tb (ak .done []) (ak [] []) (ak none [])
theorem fB (y0p:OA) (y0n y0c:Nat) (f_1_c0:Addr) {h:ae} {Q:VH} (H:du y0p y0n y0c f_1_c0 h Q):aq P bh #[(.slice y0p y0n y0c),(.func (.func cK) #[] #[(.pointer (some f_1_c0))])] h Q:=
 @aA P bh Tryz.f103 fR [(.slice y0p y0n y0c),(.func (.func cK) #[] #[(.pointer (some f_1_c0))])] h Q aR Tryz.func103 Tryz.call103 (by kernel_rfl) (Eq.mpr (by kernel_rfl) H)
def dj (y0p:OA) (y0n y0c:Nat) (f_1_c0:Addr) (h:ae) (Q:VH):Prop:=
 aI P .i64 bv #[(.slice y0p y0n y0c),(.func (.func cg) #[] #[(.pointer (some f_1_c0))])] h fun n2 h1=>
 Q (.bool (decide (n2≥0))) h1
noncomputable def fx:cz:=tb (ak .done []) (ak [] []) (ak none [])
theorem fq (y0p:OA) (y0n y0c:Nat) (f_1_c0:Addr) {h:ae} {Q:VH} (H:dj y0p y0n y0c f_1_c0 h Q):aq P bh #[(.slice y0p y0n y0c),(.func (.func cg) #[] #[(.pointer (some f_1_c0))])] h Q:=
 @aA P bh Tryz.f103 fx [(.slice y0p y0n y0c),(.func (.func cg) #[] #[(.pointer (some f_1_c0))])] h Q aR Tryz.func103 Tryz.call103 (by kernel_rfl) (Eq.mpr (by kernel_rfl) H)
def pz (Q:VH) (K1:YH Y3) (K2:YH Y4) (y0p:OA) (y0n y0c:Nat) (y4:Addr) (y5p:OA) (y5n y5c:Nat) (t13 t14:Int) (t16_p:OA) (t16_n t16_c:Nat) (t17 t18:Int) (h8:ae):Prop:=
 aL (decide (t18<t17)) (
 bl t16_p t18 t16_n fun a9=>
 aX A1 h8 (a9.add (t18.toNat*15)) fun x10=>
 aW h8 (.cells (aP A1 (zT A1)).toArray 62 (0,0)) fun b11 h12=>
 bt (aP A1 x10) h12 ⟨b11,0,none⟩ 0 fun h13=>
 tn h13 y4 fun m14=>
 lG .i64 (.int .i64 0) m14 (IntKind.wrap .i64 (t18+1)) h13 fun v16 b17=>
 ∃n18:Int,∃b19:Bool,(Value.tuple #[v16,.bool b17])=(.tuple #[(.int .i64 n18),(.bool b19)])∧
 aL b19 (
 K2 ((y0p,y0n,y0c),y4,(y5p,y5n,y5c),t13,t14,(t16_p,t16_n,t16_c),t17,(IntKind.wrap .i64 (t18+1)),()) h13) (
 av h13 ⟨b11,1,none⟩ fun p20 l20 c20=>
 aE P bh #[(.slice p20 l20 c20),(.func (.func ce) #[] #[(.pointer (some y4))])] h13 fun b22 h21=>
 aL b22 (
 K2 ((y0p,y0n,y0c),y4,(y5p,y5n,y5c),t13,t14,(t16_p,t16_n,t16_c),t17,(IntKind.wrap .i64 (t18+1)),()) h21) (
 tn h21 y4 fun m23=>
 updB .i64 m23 (IntKind.wrap .i64 (t18+1)) (.int .i64 (y5n:Int)) h21 fun h24=>
 aW h24 (.cells #[(.int .i64 (IntKind.wrap .i64 (t18+1)))] 3 (0,0)) fun b25 h26=>
 jm 3 1 8 (.int .i64 0) y5p y5n y5c (some ⟨b25,0,none⟩) 1 h26 fun p27 l27 c27 h28=>
 K1 ((y0p,y0n,y0c),y4,(p27,l27,c27),t13,(IntKind.wrap .i64 (t14+1)),()) h28))) (
 K1 ((y0p,y0n,y0c),y4,(y5p,y5n,y5c),t13,(IntKind.wrap .i64 (t14+1)),()) h8)
def pA (Q:VH) (K1:YH Y3) (y0p:OA) (y0n y0c:Nat) (y4:Addr) (y5p:OA) (y5n y5c:Nat) (t13 t14:Int) (h7:ae):Prop:=
 aL (decide (t14<t13)) (
 bB (S:=Y4) (fun K2 s h=>pz Q K1 K2 s.1.1 s.1.2.1 s.1.2.2 s.2.1 s.2.2.1.1 s.2.2.1.2.1 s.2.2.1.2.2 s.2.2.2.1 s.2.2.2.2.1 s.2.2.2.2.2.1.1 s.2.2.2.2.2.1.2.1 s.2.2.2.2.2.1.2.2 s.2.2.2.2.2.2.1 s.2.2.2.2.2.2.2.1 h) ((y0p,y0n,y0c),y4,(y5p,y5n,y5c),t13,t14,(y0p,y0n,y0c),(y0n:Int),(0:Int),()) h7) (
 Q (.tuple #[(.slice y5p y5n y5c),(.bool ((y5n:Int)==(y0n:Int)))]) h7)
def vl (y0p:OA) (y0n y0c:Nat) (h:ae) (Q:VH):Prop:=
 aW h (.map #[] 0) fun r2 h1=>
 updB .i64 (some r2) 0 (.int .i64 0) h1 fun h3=>
 aW h3 (.cells #[(.map none)] 125 (0,0)) fun b4 h5=>
 bu h5 ⟨b4,0,none⟩ (.map (some r2)) fun h6=>
 bB (S:=Y3) (fun K1 s h=>pA Q K1 s.1.1 s.1.2.1 s.1.2.2 s.2.1 s.2.2.1.1 s.2.2.1.2.1 s.2.2.1.2.2 s.2.2.2.1 s.2.2.2.2.1 h) ((y0p,y0n,y0c),⟨b4,0,none⟩,(none,0,0),(y0n:Int),(0:Int),()) h6
noncomputable def xu:cz:=tb (ak .done []) (ak [] [(4,[(0,SL),(4,.sc (.adr)),(5,SL),(13,I6),(14,I6)]),(6,[(0,SL),(4,.sc (.adr)),(5,SL),(13,I6),(14,I6),(16,SL),(17,I6),(18,I6)])]) (ak none [])
theorem vP (y0p:OA) (y0n y0c:Nat) {h:ae} {Q:VH} (H:vl y0p y0n y0c h Q):aq P jt #[(.slice y0p y0n y0c)] h Q:=
 @aA P jt Tryz.f137 xu [(.slice y0p y0n y0c)] h Q aR Tryz.func137 Tryz.call137 (by kernel_rfl) (Eq.mpr (by kernel_rfl) H)
def vm (Q:VH) (K1:YH Y5) (y0p:OA) (y0n y0c:Nat) (y5p:OA) (y5n y5c:Nat) (t11_p:OA) (t11_n t11_c:Nat) (t12 t13:Int) (h3:ae):Prop:=
 aL (decide (t13<t12)) (
 bl t11_p t13 t11_n fun a4=>
 ah .i64 h3 (a4.add (t13.toNat*1)) fun n5=>
 bl y0p n5 y0n fun a6=>
 ah .i64 h3 (a6.add (n5.toNat*1)) fun n7=>
 bl y5p t13 y5n fun a8=>
 bu h3 (a8.add (t13.toNat*1)) (.int .i64 n7) fun h9=>
 K1 ((y0p,y0n,y0c),(y5p,y5n,y5c),(t11_p,t11_n,t11_c),t12,(IntKind.wrap .i64 (t13+1)),()) h9) (
 Q (.slice y5p y5n y5c) h3)
def Cp (y0p:OA) (y0n y0c:Nat) (y1p:OA) (y1n y1c:Nat) (h:ae) (Q:VH):Prop:=
 zW 3 1 8 (.int .i64 0) (y1n:Int) (y1n:Int) h fun b1 h2=>
 bB (S:=Y5) (fun K1 s h=>vm Q K1 s.1.1 s.1.2.1 s.1.2.2 s.2.1.1 s.2.1.2.1 s.2.1.2.2 s.2.2.1.1 s.2.2.1.2.1 s.2.2.1.2.2 s.2.2.2.1 s.2.2.2.2.1 h) ((y0p,y0n,y0c),(some ⟨b1,0,none⟩,(y1n:Int).toNat,(y1n:Int).toNat),(y1p,y1n,y1c),(y1n:Int),(0:Int),()) h2
noncomputable def Cq:cz:=tb (ak .done []) (ak [] [(3,[(0,SL),(5,SL),(11,SL),(12,I6),(13,I6)])]) (ak none [])
theorem AN (y0p:OA) (y0n y0c:Nat) (y1p:OA) (y1n y1c:Nat) {h:ae} {Q:VH} (H:Cp y0p y0n y0c y1p y1n y1c h Q):aq P j3 #[(.slice y0p y0n y0c),(.slice y1p y1n y1c)] h Q:=
 @aA P j3 Tryz.f138 Cq [(.slice y0p y0n y0c),(.slice y1p y1n y1c)] h Q aR Tryz.func138 Tryz.call138 (by kernel_rfl) (Eq.mpr (by kernel_rfl) H)
def Kb (y0 y1 y2:Int) (h:ae) (Q:VH):Prop:=
 aL (decide (y0≥y1)) (
 Q (.bool (decide (y0≤y2))) h) (
 Q (.bool false) h)
noncomputable def G6:cz:=tb (ak .done []) (ak [] []) (ak none [])
theorem FX (y0 y1 y2:Int) {h:ae} {Q:VH} (H:Kb y0 y1 y2 h Q):aq P cV #[(.int .i64 y0),(.int .i64 y1),(.int .i64 y2)] h Q:=
 @aA P cV Tryz.f192 G6 [(.int .i64 y0),(.int .i64 y1),(.int .i64 y2)] h Q aR Tryz.func192 Tryz.call192 (by kernel_rfl) (Eq.mpr (by kernel_rfl) H)
def vn (Q:VH) (K1:(Int×Int×S3×Int×Int×Unit)→ae→Prop) (y1 y2:Int) (t9_p:OA) (t9_n t9_c:Nat) (t10 t11:Int) (h1:ae):Prop:=
 aL (decide (t11<t10)) (
 bl t9_p t11 t9_n fun a2=>
 ah .i64 h1 (a2.add (t11.toNat*1)) fun n3=>
 aE P cV #[(.int .i64 n3),(.int .i64 y1),(.int .i64 y2)] h1 fun b5 h4=>
 aL (!b5) (
 Q (.bool false) h4) (
 K1 (y1,y2,(t9_p,t9_n,t9_c),t10,(IntKind.wrap .i64 (t11+1)),()) h4)) (
 Q (.bool true) h1)
def Cr (y0p:OA) (y0n y0c:Nat) (y1 y2:Int) (h:ae) (Q:VH):Prop:=
 bB (S:=(Int×Int×S3×Int×Int×Unit)) (fun K1 s h=>vn Q K1 s.1 s.2.1 s.2.2.1.1 s.2.2.1.2.1 s.2.2.1.2.2 s.2.2.2.1 s.2.2.2.2.1 h) (y1,y2,(y0p,y0n,y0c),(y0n:Int),(0:Int),()) h
noncomputable def Cs:cz:=tb (ak .done []) (ak [] [(2,[(1,I6),(2,I6),(9,SL),(10,I6),(11,I6)])]) (ak none [])
theorem AO (y0p:OA) (y0n y0c:Nat) (y1 y2:Int) {h:ae} {Q:VH} (H:Cr y0p y0n y0c y1 y2 h Q):aq P dL #[(.slice y0p y0n y0c),(.int .i64 y1),(.int .i64 y2)] h Q:=
 @aA P dL Tryz.f191 Cs [(.slice y0p y0n y0c),(.int .i64 y1),(.int .i64 y2)] h Q aR Tryz.func191 Tryz.call191 (by kernel_rfl) (Eq.mpr (by kernel_rfl) H)
def G7 (y0:TS A1) (y1:Int) (h:ae) (Q:VH):Prop:=
 aW h (.cells (aP A1 y0).toArray 62 (0,0)) fun b1 h2=>
 ah .i64 h2 ⟨b1,0,none⟩ fun n3=>
 aL (decide (n3<1)) (
 Q (.bool false) h2) (
 ah .i64 h2 ⟨b1,0,none⟩ fun n4=>
 aL (decide (n4≥13)) (
 Q (.bool false) h2) (
 ah .i64 h2 ⟨b1,0,none⟩ fun n5=>
 si n5 13 fun _=>
 ah .i64 h2 (Addr.add ⟨0,0,none⟩ (n5.toNat*1)) fun n6=>
 ah .i64 h2 ⟨b1,14,none⟩ fun n7=>
 aL ((cS .i64 n7 1) !=0) (
 ah .i64 h2 ⟨b1,14,none⟩ fun n8=>
 aL ((cS .i64 n8 2) !=0) (
 Q (.bool ((cS .i64 (DW .i64 (DW .i64 n6 64) 32) y1) !=0)) h2) (
 Q (.bool ((cS .i64 (DW .i64 n6 64) y1) !=0)) h2)) (
 ah .i64 h2 ⟨b1,14,none⟩ fun n9=>
 aL ((cS .i64 n9 2) !=0) (
 Q (.bool ((cS .i64 (DW .i64 n6 32) y1) !=0)) h2) (
 Q (.bool ((cS .i64 n6 y1) !=0)) h2))))
noncomputable def FY:cz:=tb (ak .done []) (ak [] []) (ak none [])
theorem Ee (y0:TS A1) (y1:Int) {h:ae} {Q:VH} (H:G7 y0 y1 h Q):aq P cf #[(bz A1 y0),(.int .i64 y1)] h Q:=
 @aA P cf Tryz.f179 FY [(bz A1 y0),(.int .i64 y1)] h Q aR Tryz.func179 Tryz.call179 (by kernel_rfl) (Eq.mpr (by kernel_rfl) H)
def xv (Q:VH) (K1:(Addr×TS A3×Int×Unit)→ae→Prop) (y1:Addr) (t61:TS A3) (t62:Int) (h5:ae):Prop:=
 aL (decide (t62<6)) (
 si t62 6 fun _=> ∃n6:Int,∃b7:Bool,Array.extract (#[(.int .i64 t61.1),(.bool t61.2.1),(.int .i64 t61.2.2.1),(.bool t61.2.2.2.1),(.int .i64 t61.2.2.2.2.1),(.bool t61.2.2.2.2.2.1),(.int .i64 t61.2.2.2.2.2.2.1),(.bool t61.2.2.2.2.2.2.2.1),(.int .i64 t61.2.2.2.2.2.2.2.2.1),(.bool t61.2.2.2.2.2.2.2.2.2.1),(.int .i64 t61.2.2.2.2.2.2.2.2.2.2.1),(.bool t61.2.2.2.2.2.2.2.2.2.2.2.1)]:Array Value) (t62.toNat*2) (t62.toNat*2+2)=(#[(.int .i64 n6),(.bool b7)]:Array Value)∧
 aW h5 (.cells #[(.int .i64 0),(.bool false)] 243 (0,0)) fun b8 h9=>
 bu h9 ⟨b8,0,none⟩ (.int .i64 n6) fun h10=>
 bu h10 ⟨b8,1,none⟩ (.bool b7) fun h11=>
 qx h11 ⟨b8,1,none⟩ fun b12=>
 aL b12 (
 aX A1 h11 y1 fun x13=>
 ah .i64 h11 ⟨b8,0,none⟩ fun n14=>
 aE P cf #[(bz A1 x13),(.int .i64 n14)] h11 fun b16 h15=>
 aL (!b16) (
 Q (.bool false) h15) (
 K1 (y1,t61,(IntKind.wrap .i64 (t62+1)),()) h15)) (
 K1 (y1,t61,(IntKind.wrap .i64 (t62+1)),()) h11)) (
 Q (.bool true) h5)
def xw (Q:VH) (y1:Addr) (t61:TS A3) (t62:Int) (h4:ae):Prop:=
 bB (S:=(Addr×TS A3×Int×Unit)) (fun K1 s h=>xv Q K1 s.1 s.2.1 s.2.2.1 h) (y1,t61,t62,()) h4
def EV (y0:TS A1) (h:ae) (Q:VH):Prop:=
 aW h (.cells (aP A1 y0).toArray 62 (0,0)) fun b1 h2=>
 ∃J3:(Addr×TS A3×Int×Unit)→ae→Prop,(∀s h,J3 s h→xw Q s.1 s.2.1 s.2.2.1 h)∧
 ah .i64 h2 ⟨b1,4,none⟩ fun n17=>
 aL (n17 !=0) (
 ah .i64 h2 ⟨b1,3,none⟩ fun n18=>
 ah .i64 h2 ⟨b1,2,none⟩ fun n19=>
 av h2 ⟨b1,8,none⟩ fun p20 l20 c20=>
 aL (decide ((l20:Int)>0)) (
 ah .i64 h2 ⟨b1,12,none⟩ fun n21=>
 aL (n21 !=0) (
 ah .i64 h2 ⟨b1,10,none⟩ fun n22=>
 aL (n22 !=0) (
 J3 (⟨b1,0,none⟩,((1:Int),true,(17:Int),(n18 !=0),(2:Int),(n19 !=0),(4:Int),true,(32:Int),true,(64:Int),true,()),(0:Int),()) h2) (
 ah .i64 h2 ⟨b1,11,none⟩ fun n23=>
 J3 (⟨b1,0,none⟩,((1:Int),true,(17:Int),(n18 !=0),(2:Int),(n19 !=0),(4:Int),true,(32:Int),true,(64:Int),(n23 !=0),()),(0:Int),()) h2)) (
 ah .i64 h2 ⟨b1,13,none⟩ fun n24=>
 ah .i64 h2 ⟨b1,10,none⟩ fun n25=>
 aL (n25 !=0) (
 J3 (⟨b1,0,none⟩,((1:Int),true,(17:Int),(n18 !=0),(2:Int),(n19 !=0),(4:Int),true,(32:Int),(n24 !=0),(64:Int),true,()),(0:Int),()) h2) (
 ah .i64 h2 ⟨b1,11,none⟩ fun n26=>
 J3 (⟨b1,0,none⟩,((1:Int),true,(17:Int),(n18 !=0),(2:Int),(n19 !=0),(4:Int),true,(32:Int),(n24 !=0),(64:Int),(n26 !=0),()),(0:Int),()) h2))) (
 av h2 ⟨b1,9,none⟩ fun p27 l27 c27=>
 ah .i64 h2 ⟨b1,12,none⟩ fun n28=>
 aL (n28 !=0) (
 ah .i64 h2 ⟨b1,10,none⟩ fun n29=>
 aL (n29 !=0) (
 J3 (⟨b1,0,none⟩,((1:Int),true,(17:Int),(n18 !=0),(2:Int),(n19 !=0),(4:Int),(decide ((l27:Int)>0)),(32:Int),true,(64:Int),true,()),(0:Int),()) h2) (
 ah .i64 h2 ⟨b1,11,none⟩ fun n30=>
 J3 (⟨b1,0,none⟩,((1:Int),true,(17:Int),(n18 !=0),(2:Int),(n19 !=0),(4:Int),(decide ((l27:Int)>0)),(32:Int),true,(64:Int),(n30 !=0),()),(0:Int),()) h2)) (
 ah .i64 h2 ⟨b1,13,none⟩ fun n31=>
 ah .i64 h2 ⟨b1,10,none⟩ fun n32=>
 aL (n32 !=0) (
 J3 (⟨b1,0,none⟩,((1:Int),true,(17:Int),(n18 !=0),(2:Int),(n19 !=0),(4:Int),(decide ((l27:Int)>0)),(32:Int),(n31 !=0),(64:Int),true,()),(0:Int),()) h2) (
 ah .i64 h2 ⟨b1,11,none⟩ fun n33=>
 J3 (⟨b1,0,none⟩,((1:Int),true,(17:Int),(n18 !=0),(2:Int),(n19 !=0),(4:Int),(decide ((l27:Int)>0)),(32:Int),(n31 !=0),(64:Int),(n33 !=0),()),(0:Int),()) h2)))) (
 ah .i64 h2 ⟨b1,5,none⟩ fun n34=>
 aL (n34 !=0) (
 ah .i64 h2 ⟨b1,3,none⟩ fun n35=>
 ah .i64 h2 ⟨b1,2,none⟩ fun n36=>
 av h2 ⟨b1,8,none⟩ fun p37 l37 c37=>
 aL (decide ((l37:Int)>0)) (
 ah .i64 h2 ⟨b1,12,none⟩ fun n38=>
 aL (n38 !=0) (
 ah .i64 h2 ⟨b1,10,none⟩ fun n39=>
 aL (n39 !=0) (
 J3 (⟨b1,0,none⟩,((1:Int),true,(17:Int),(n35 !=0),(2:Int),(n36 !=0),(4:Int),true,(32:Int),true,(64:Int),true,()),(0:Int),()) h2) (
 ah .i64 h2 ⟨b1,11,none⟩ fun n40=>
 J3 (⟨b1,0,none⟩,((1:Int),true,(17:Int),(n35 !=0),(2:Int),(n36 !=0),(4:Int),true,(32:Int),true,(64:Int),(n40 !=0),()),(0:Int),()) h2)) (
 ah .i64 h2 ⟨b1,13,none⟩ fun n41=>
 ah .i64 h2 ⟨b1,10,none⟩ fun n42=>
 aL (n42 !=0) (
 J3 (⟨b1,0,none⟩,((1:Int),true,(17:Int),(n35 !=0),(2:Int),(n36 !=0),(4:Int),true,(32:Int),(n41 !=0),(64:Int),true,()),(0:Int),()) h2) (
 ah .i64 h2 ⟨b1,11,none⟩ fun n43=>
 J3 (⟨b1,0,none⟩,((1:Int),true,(17:Int),(n35 !=0),(2:Int),(n36 !=0),(4:Int),true,(32:Int),(n41 !=0),(64:Int),(n43 !=0),()),(0:Int),()) h2))) (
 av h2 ⟨b1,9,none⟩ fun p44 l44 c44=>
 ah .i64 h2 ⟨b1,12,none⟩ fun n45=>
 aL (n45 !=0) (
 ah .i64 h2 ⟨b1,10,none⟩ fun n46=>
 aL (n46 !=0) (
 J3 (⟨b1,0,none⟩,((1:Int),true,(17:Int),(n35 !=0),(2:Int),(n36 !=0),(4:Int),(decide ((l44:Int)>0)),(32:Int),true,(64:Int),true,()),(0:Int),()) h2) (
 ah .i64 h2 ⟨b1,11,none⟩ fun n47=>
 J3 (⟨b1,0,none⟩,((1:Int),true,(17:Int),(n35 !=0),(2:Int),(n36 !=0),(4:Int),(decide ((l44:Int)>0)),(32:Int),true,(64:Int),(n47 !=0),()),(0:Int),()) h2)) (
 ah .i64 h2 ⟨b1,13,none⟩ fun n48=>
 ah .i64 h2 ⟨b1,10,none⟩ fun n49=>
 aL (n49 !=0) (
 J3 (⟨b1,0,none⟩,((1:Int),true,(17:Int),(n35 !=0),(2:Int),(n36 !=0),(4:Int),(decide ((l44:Int)>0)),(32:Int),(n48 !=0),(64:Int),true,()),(0:Int),()) h2) (
 ah .i64 h2 ⟨b1,11,none⟩ fun n50=>
 J3 (⟨b1,0,none⟩,((1:Int),true,(17:Int),(n35 !=0),(2:Int),(n36 !=0),(4:Int),(decide ((l44:Int)>0)),(32:Int),(n48 !=0),(64:Int),(n50 !=0),()),(0:Int),()) h2)))) (
 ah .i64 h2 ⟨b1,6,none⟩ fun n51=>
 aL (n51 !=0) (
 ah .i64 h2 ⟨b1,3,none⟩ fun n52=>
 ah .i64 h2 ⟨b1,2,none⟩ fun n53=>
 av h2 ⟨b1,8,none⟩ fun p54 l54 c54=>
 aL (decide ((l54:Int)>0)) (
 ah .i64 h2 ⟨b1,12,none⟩ fun n55=>
 aL (n55 !=0) (
 ah .i64 h2 ⟨b1,10,none⟩ fun n56=>
 aL (n56 !=0) (
 J3 (⟨b1,0,none⟩,((1:Int),true,(17:Int),(n52 !=0),(2:Int),(n53 !=0),(4:Int),true,(32:Int),true,(64:Int),true,()),(0:Int),()) h2) (
 ah .i64 h2 ⟨b1,11,none⟩ fun n57=>
 J3 (⟨b1,0,none⟩,((1:Int),true,(17:Int),(n52 !=0),(2:Int),(n53 !=0),(4:Int),true,(32:Int),true,(64:Int),(n57 !=0),()),(0:Int),()) h2)) (
 ah .i64 h2 ⟨b1,13,none⟩ fun n58=>
 ah .i64 h2 ⟨b1,10,none⟩ fun n59=>
 aL (n59 !=0) (
 J3 (⟨b1,0,none⟩,((1:Int),true,(17:Int),(n52 !=0),(2:Int),(n53 !=0),(4:Int),true,(32:Int),(n58 !=0),(64:Int),true,()),(0:Int),()) h2) (
 ah .i64 h2 ⟨b1,11,none⟩ fun n60=>
 J3 (⟨b1,0,none⟩,((1:Int),true,(17:Int),(n52 !=0),(2:Int),(n53 !=0),(4:Int),true,(32:Int),(n58 !=0),(64:Int),(n60 !=0),()),(0:Int),()) h2))) (
 av h2 ⟨b1,9,none⟩ fun p61 l61 c61=>
 ah .i64 h2 ⟨b1,12,none⟩ fun n62=>
 aL (n62 !=0) (
 ah .i64 h2 ⟨b1,10,none⟩ fun n63=>
 aL (n63 !=0) (
 J3 (⟨b1,0,none⟩,((1:Int),true,(17:Int),(n52 !=0),(2:Int),(n53 !=0),(4:Int),(decide ((l61:Int)>0)),(32:Int),true,(64:Int),true,()),(0:Int),()) h2) (
 ah .i64 h2 ⟨b1,11,none⟩ fun n64=>
 J3 (⟨b1,0,none⟩,((1:Int),true,(17:Int),(n52 !=0),(2:Int),(n53 !=0),(4:Int),(decide ((l61:Int)>0)),(32:Int),true,(64:Int),(n64 !=0),()),(0:Int),()) h2)) (
 ah .i64 h2 ⟨b1,13,none⟩ fun n65=>
 ah .i64 h2 ⟨b1,10,none⟩ fun n66=>
 aL (n66 !=0) (
 J3 (⟨b1,0,none⟩,((1:Int),true,(17:Int),(n52 !=0),(2:Int),(n53 !=0),(4:Int),(decide ((l61:Int)>0)),(32:Int),(n65 !=0),(64:Int),true,()),(0:Int),()) h2) (
 ah .i64 h2 ⟨b1,11,none⟩ fun n67=>
 J3 (⟨b1,0,none⟩,((1:Int),true,(17:Int),(n52 !=0),(2:Int),(n53 !=0),(4:Int),(decide ((l61:Int)>0)),(32:Int),(n65 !=0),(64:Int),(n67 !=0),()),(0:Int),()) h2)))) (
 ah .i64 h2 ⟨b1,7,none⟩ fun n68=>
 ah .i64 h2 ⟨b1,3,none⟩ fun n69=>
 ah .i64 h2 ⟨b1,2,none⟩ fun n70=>
 av h2 ⟨b1,8,none⟩ fun p71 l71 c71=>
 aL (decide ((l71:Int)>0)) (
 ah .i64 h2 ⟨b1,12,none⟩ fun n72=>
 aL (n72 !=0) (
 ah .i64 h2 ⟨b1,10,none⟩ fun n73=>
 aL (n73 !=0) (
 J3 (⟨b1,0,none⟩,((1:Int),(n68 !=0),(17:Int),(n69 !=0),(2:Int),(n70 !=0),(4:Int),true,(32:Int),true,(64:Int),true,()),(0:Int),()) h2) (
 ah .i64 h2 ⟨b1,11,none⟩ fun n74=>
 J3 (⟨b1,0,none⟩,((1:Int),(n68 !=0),(17:Int),(n69 !=0),(2:Int),(n70 !=0),(4:Int),true,(32:Int),true,(64:Int),(n74 !=0),()),(0:Int),()) h2)) (
 ah .i64 h2 ⟨b1,13,none⟩ fun n75=>
 ah .i64 h2 ⟨b1,10,none⟩ fun n76=>
 aL (n76 !=0) (
 J3 (⟨b1,0,none⟩,((1:Int),(n68 !=0),(17:Int),(n69 !=0),(2:Int),(n70 !=0),(4:Int),true,(32:Int),(n75 !=0),(64:Int),true,()),(0:Int),()) h2) (
 ah .i64 h2 ⟨b1,11,none⟩ fun n77=>
 J3 (⟨b1,0,none⟩,((1:Int),(n68 !=0),(17:Int),(n69 !=0),(2:Int),(n70 !=0),(4:Int),true,(32:Int),(n75 !=0),(64:Int),(n77 !=0),()),(0:Int),()) h2))) (
 av h2 ⟨b1,9,none⟩ fun p78 l78 c78=>
 ah .i64 h2 ⟨b1,12,none⟩ fun n79=>
 aL (n79 !=0) (
 ah .i64 h2 ⟨b1,10,none⟩ fun n80=>
 aL (n80 !=0) (
 J3 (⟨b1,0,none⟩,((1:Int),(n68 !=0),(17:Int),(n69 !=0),(2:Int),(n70 !=0),(4:Int),(decide ((l78:Int)>0)),(32:Int),true,(64:Int),true,()),(0:Int),()) h2) (
 ah .i64 h2 ⟨b1,11,none⟩ fun n81=>
 J3 (⟨b1,0,none⟩,((1:Int),(n68 !=0),(17:Int),(n69 !=0),(2:Int),(n70 !=0),(4:Int),(decide ((l78:Int)>0)),(32:Int),true,(64:Int),(n81 !=0),()),(0:Int),()) h2)) (
 ah .i64 h2 ⟨b1,13,none⟩ fun n82=>
 ah .i64 h2 ⟨b1,10,none⟩ fun n83=>
 aL (n83 !=0) (
 J3 (⟨b1,0,none⟩,((1:Int),(n68 !=0),(17:Int),(n69 !=0),(2:Int),(n70 !=0),(4:Int),(decide ((l78:Int)>0)),(32:Int),(n82 !=0),(64:Int),true,()),(0:Int),()) h2) (
 ah .i64 h2 ⟨b1,11,none⟩ fun n84=>
 J3 (⟨b1,0,none⟩,((1:Int),(n68 !=0),(17:Int),(n69 !=0),(2:Int),(n70 !=0),(4:Int),(decide ((l78:Int)>0)),(32:Int),(n82 !=0),(64:Int),(n84 !=0),()),(0:Int),()) h2))))))
noncomputable def Ef:cz:=tb (ak .done []) (ak [] [(2,[(1,.sc (.adr)),(61,.ag A3),(62,I6)])]) (ak none [(2,some [(1,.sc (.adr)),(61,.ag A3),(62,I6)])])
theorem Ct (y0:TS A1) {h:ae} {Q:VH} (H:EV y0 h Q):aq P dQ #[(bz A1 y0)] h Q:=
 @aA P dQ Tryz.f193 Ef [(bz A1 y0)] h Q aR Tryz.func193 Tryz.call193 (by kernel_rfl) (Eq.mpr (by kernel_rfl) H)
def EW (y0:TS A1) (h:ae) (Q:VH):Prop:=
 aW h (.cells (aP A1 y0).toArray 62 (0,0)) fun b1 h2=>
 aX A1 h2 ⟨b1,0,none⟩ fun x3=>
 aE P cf #[(bz A1 x3),(.int .i64 1)] h2 fun b5 h4=>
 aL b5 (
 ah .i64 h4 ⟨b1,3,none⟩ fun n6=>
 ah .i64 h4 ⟨b1,5,none⟩ fun n7=>
 Q (.int .i64 (IntKind.wrap .i64 ((IntKind.wrap .i64 ((IntKind.wrap .i64 (n6-1))*n7))+1))) h4) (
 aX A1 h4 ⟨b1,0,none⟩ fun x8=>
 aE P cf #[(bz A1 x8),(.int .i64 16)] h4 fun b10 h9=>
 aL b10 (
 ah .i64 h9 ⟨b1,3,none⟩ fun n11=>
 Q (.int .i64 n11) h9) (
 Q (.int .i64 1) h9))
noncomputable def Eg:cz:=tb (ak .done []) (ak [] []) (ak none [])
theorem Cu (y0:TS A1) {h:ae} {Q:VH} (H:EW y0 h Q):aq P gA #[(bz A1 y0)] h Q:=
 @aA P gA Tryz.f134 Eg [(bz A1 y0)] h Q aR Tryz.func134 Tryz.call134 (by kernel_rfl) (Eq.mpr (by kernel_rfl) H)
def vo (Q:VH) (y2:Addr) (h8:ae):Prop:=
 ah .i64 h8 (y2.add 10) fun n9=>
 aE P cV #[(.int .i64 n9),(.int .i64 0),(.int .i64 32767)] h8 fun b11 h10=>
 aL b11 (
 ah .i64 h10 (y2.add 11) fun n12=>
 aE P cV #[(.int .i64 n12),(.int .i64 0),(.int .i64 30)] h10 fun b14 h13=>
 aL b14 (
 ah .i64 h13 (y2.add 12) fun n15=>
 ah .i64 h13 (y2.add 13) fun n16=>
 aE P cV #[(.int .i64 n15),(.int .i64 (-2147483648:Int)),(.int .i64 n16)] h13 fun b18 h17=>
 aL b18 (
 ah .i64 h17 (y2.add 13) fun n19=>
 ah .i64 h17 (y2.add 12) fun n20=>
 aE P cV #[(.int .i64 n19),(.int .i64 n20),(.int .i64 2147483647)] h17 fun b22 h21=>
 Q (.bool b22) h21) (
 Q (.bool false) h17)) (
 Q (.bool false) h13)) (
 Q (.bool false) h10)
def xx (Q:VH) (y1:Int) (y2:Addr) (h6:ae):Prop:=
 ∃J7:(Addr×Unit)→ae→Prop,(∀s h,J7 s h→vo Q s.1 h)∧
 aX A1 h6 y2 fun x23=>
 aE P cf #[(bz A1 x23),(.int .i64 4)] h6 fun b25 h24=>
 aL b25 (
 ah .i64 h24 (y2.add 2) fun n26=>
 ah .i64 h24 y2 fun n27=>
 aL (n27==2) (
 ah .i64 h24 (y2.add 3) fun n28=>
 av h24 (y2.add 8) fun p29 l29 c29=>
 aL ((l29:Int) !=(IntKind.wrap .i64 (y1*(IntKind.wrap .i64 ((1:Int)*n28))))) (
 Q (.bool false) h24) (
 av h24 (y2.add 9) fun p30 l30 c30=>
 aL ((l30:Int) !=y1) (
 Q (.bool false) h24) (
 av h24 (y2.add 8) fun p31 l31 c31=>
 aE P dL #[(.slice p31 l31 c31),(.int .i64 (-128:Int)),(.int .i64 127)] h24 fun b33 h32=>
 aL (!b33) (
 Q (.bool false) h32) (
 av h32 (y2.add 9) fun p34 l34 c34=>
 aE P dL #[(.slice p34 l34 c34),(.int .i64 (-16777216:Int)),(.int .i64 16777216)] h32 fun b36 h35=>
 aL (!b36) (
 Q (.bool false) h35) (
 J7 (y2,()) h35))))) (
 aL (n27==1) (
 ah .i64 h24 (y2.add 3) fun n37=>
 av h24 (y2.add 8) fun p38 l38 c38=>
 aL ((l38:Int) !=(IntKind.wrap .i64 (n26*(IntKind.wrap .i64 (y1*n37))))) (
 Q (.bool false) h24) (
 av h24 (y2.add 9) fun p39 l39 c39=>
 aL ((l39:Int) !=n26) (
 Q (.bool false) h24) (
 av h24 (y2.add 8) fun p40 l40 c40=>
 aE P dL #[(.slice p40 l40 c40),(.int .i64 (-128:Int)),(.int .i64 127)] h24 fun b42 h41=>
 aL (!b42) (
 Q (.bool false) h41) (
 av h41 (y2.add 9) fun p43 l43 c43=>
 aE P dL #[(.slice p43 l43 c43),(.int .i64 (-16777216:Int)),(.int .i64 16777216)] h41 fun b45 h44=>
 aL (!b45) (
 Q (.bool false) h44) (
 J7 (y2,()) h44))))) (
 av h24 (y2.add 8) fun p46 l46 c46=>
 aL ((l46:Int) !=(IntKind.wrap .i64 (n26*y1))) (
 Q (.bool false) h24) (
 av h24 (y2.add 9) fun p47 l47 c47=>
 aL ((l47:Int) !=n26) (
 Q (.bool false) h24) (
 av h24 (y2.add 8) fun p48 l48 c48=>
 aE P dL #[(.slice p48 l48 c48),(.int .i64 (-128:Int)),(.int .i64 127)] h24 fun b50 h49=>
 aL (!b50) (
 Q (.bool false) h49) (
 av h49 (y2.add 9) fun p51 l51 c51=>
 aE P dL #[(.slice p51 l51 c51),(.int .i64 (-16777216:Int)),(.int .i64 16777216)] h49 fun b53 h52=>
 aL (!b53) (
 Q (.bool false) h52) (
 J7 (y2,()) h52))))))) (
 J7 (y2,()) h24)
def xy (Q:VH) (y1:Int) (y2:Addr) (h4:ae):Prop:=
 ∃J5:(Int×Addr×Unit)→ae→Prop,(∀s h,J5 s h→xx Q s.1 s.2.1 h)∧
 aX A1 h4 y2 fun x54=>
 aE P cf #[(bz A1 x54),(.int .i64 1)] h4 fun b56 h55=>
 aL b56 (
 ah .i64 h55 (y2.add 4) fun n57=>
 aE P cV #[(.int .i64 n57),(.int .i64 1),(.int .i64 4)] h55 fun b59 h58=>
 aL b59 (
 ah .i64 h58 (y2.add 5) fun n60=>
 aE P cV #[(.int .i64 n60),(.int .i64 1),(.int .i64 4)] h58 fun b62 h61=>
 aL b62 (
 ah .i64 h61 (y2.add 6) fun n63=>
 aX A1 h61 y2 fun x64=>
 aI P .i64 gA #[(bz A1 x64)] h61 fun n66 h65=>
 aD h65 (y2.add 6)=some (.int .i64 n63)∧
 aE P cV #[(.int .i64 n63),(.int .i64 0),(.int .i64 (IntKind.wrap .i64 (n66-1)))] h65 fun b68 h67=>
 aL b68 (
 ah .i64 h67 (y2.add 7) fun n69=>
 aX A1 h67 y2 fun x70=>
 aI P .i64 gA #[(bz A1 x70)] h67 fun n72 h71=>
 aD h71 (y2.add 7)=some (.int .i64 n69)∧
 aD h71 (y2.add 6)=some (.int .i64 n63)∧
 aE P cV #[(.int .i64 n69),(.int .i64 0),(.int .i64 (IntKind.wrap .i64 (n72-1)))] h71 fun b74 h73=>
 aD h73 (y2.add 6)=some (.int .i64 n63)∧
 aL (!b74) (
 Q (.bool false) h73) (
 J5 (y1,y2,()) h73)) (
 aD h67 (y2.add 6)=some (.int .i64 n63)∧
 aD h67 (y2.add 6)=some (.int .i64 n63)∧
 aL (!false) (
 Q (.bool false) h67) (
 J5 (y1,y2,()) h67))) (
 aL (!false) (
 Q (.bool false) h61) (
 J5 (y1,y2,()) h61))) (
 aL (!false) (
 Q (.bool false) h58) (
 J5 (y1,y2,()) h58))) (
 J5 (y1,y2,()) h55)
def EX (y0:TS A1) (y1:Int) (h:ae) (Q:VH):Prop:=
 aW h (.cells (aP A1 y0).toArray 62 (0,0)) fun b1 h2=>
 ∃J3:(Int×Addr×Unit)→ae→Prop,(∀s h,J3 s h→xy Q s.1 s.2.1 h)∧
 aX A1 h2 ⟨b1,0,none⟩ fun x75=>
 aE P cf #[(bz A1 x75),(.int .i64 17)] h2 fun b77 h76=>
 aL b77 (
 ah .i64 h76 ⟨b1,3,none⟩ fun n78=>
 aE P cV #[(.int .i64 n78),(.int .i64 1),(.int .i64 8)] h76 fun b80 h79=>
 aL (!b80) (
 Q (.bool false) h79) (
 aX A1 h79 ⟨b1,0,none⟩ fun x81=>
 aE P cf #[(bz A1 x81),(.int .i64 2)] h79 fun b83 h82=>
 aL b83 (
 ah .i64 h82 ⟨b1,2,none⟩ fun n84=>
 aE P cV #[(.int .i64 n84),(.int .i64 1),(.int .i64 16)] h82 fun b86 h85=>
 aL (!b86) (
 Q (.bool false) h85) (
 J3 (y1,⟨b1,0,none⟩,()) h85)) (
 J3 (y1,⟨b1,0,none⟩,()) h82))) (
 aX A1 h76 ⟨b1,0,none⟩ fun x87=>
 aE P cf #[(bz A1 x87),(.int .i64 2)] h76 fun b89 h88=>
 aL b89 (
 ah .i64 h88 ⟨b1,2,none⟩ fun n90=>
 aE P cV #[(.int .i64 n90),(.int .i64 1),(.int .i64 16)] h88 fun b92 h91=>
 aL (!b92) (
 Q (.bool false) h91) (
 J3 (y1,⟨b1,0,none⟩,()) h91)) (
 J3 (y1,⟨b1,0,none⟩,()) h88))
noncomputable def Eh:cz:=tb (ak .done [(3,(.alt 0 (.alt 1 (bD [2,3] (.alt 4 (.alt 5 (bD [6,7] (.alt 8 (.alt 9 (bD [10,11,12] (.early 13 (.alt 14 (.alt 15 (bD [16] (.alt 17 (bD [18,19,20] (.early 21 (.alt 22 (.alt 23 (bD [24] (.alt 25 (bD [26,27,28] .done) .stop)) .stop) .stop))) .stop)) .stop) .stop))) .stop) .stop)) .stop) .stop)) .stop) .stop))]) (ak [] []) (ak none [(3,some [(1,I6),(2,.sc (.adr))]),(5,some [(1,I6),(2,.sc (.adr))]),(14,some [(2,.sc (.adr))])])
theorem Cv (y0:TS A1) (y1:Int) {h:ae} {Q:VH} (H:EX y0 y1 h Q):aq P dR #[(bz A1 y0),(.int .i64 y1)] h Q:=
 @aA P dR Tryz.f194 Eh [(bz A1 y0),(.int .i64 y1)] h Q aR Tryz.func194 Tryz.call194 (by kernel_rfl) (Eq.mpr (by kernel_rfl) H)
def tf (Q:VH) (K1:YH Y6) (y1p:OA) (y1n y1c:Nat) (y2:Addr) (y5:Int) (t72_p:OA) (t72_n t72_c:Nat) (t73 t74:Int) (h5:ae):Prop:=
 aL (decide (t74<t73)) (
 bl t72_p t74 t72_n fun a6=>
 ah .i64 h5 (a6.add (t74.toNat*1)) fun n7=>
 ah .i64 h5 y2 fun n8=>
 aL (n8==7) (
 bl y1p 0 y1n fun a9=>
 ah .i64 h5 (a9.add ((0:Int).toNat*1)) fun n10=>
 aL (n7 !=n10) (
 Q (.int .i64 14) h5) (
 K1 ((y1p,y1n,y1c),y2,(IntKind.wrap .i64 (y5+n7)),(t72_p,t72_n,t72_c),t73,(IntKind.wrap .i64 (t74+1)),()) h5)) (
 K1 ((y1p,y1n,y1c),y2,(IntKind.wrap .i64 (y5+n7)),(t72_p,t72_n,t72_c),t73,(IntKind.wrap .i64 (t74+1)),()) h5)) (
 ah .i64 h5 y2 fun n11=>
 aL (n11==8) (
 aL (decide (y5>16)) (
 Q (.int .i64 14) h5) (
 Q (.int .i64 0) h5)) (
 Q (.int .i64 0) h5))
def vp (Q:VH) (y1p:OA) (y1n y1c:Nat) (y2:Addr) (h4:ae):Prop:=
 bB (S:=Y6) (fun K1 s h=>tf Q K1 s.1.1 s.1.2.1 s.1.2.2 s.2.1 s.2.2.1 s.2.2.2.1.1 s.2.2.2.1.2.1 s.2.2.2.1.2.2 s.2.2.2.2.1 s.2.2.2.2.2.1 h) ((y1p,y1n,y1c),y2,(0:Int),(y1p,y1n,y1c),(y1n:Int),(0:Int),()) h4
def Cw (y0:TS A1) (y1p:OA) (y1n y1c:Nat) (h:ae) (Q:VH):Prop:=
 aW h (.cells (aP A1 y0).toArray 62 (0,0)) fun b1 h2=>
 ∃J3:(S3×Addr×Unit)→ae→Prop,(∀s h,J3 s h→vp Q s.1.1 s.1.2.1 s.1.2.2 s.2.1 h)∧
 av h2 ⟨b1,1,none⟩ fun p12 l12 c12=>
 aL ((y1n:Int) !=(l12:Int)) (
 Q (.int .i64 1) h2) (
 aE P dL #[(.slice y1p y1n y1c),(.int .i64 1),(.int .i64 16)] h2 fun b14 h13=>
 aL (!b14) (
 Q (.int .i64 1) h13) (
 ah .i64 h13 ⟨b1,0,none⟩ fun n15=>
 aE P cV #[(.int .i64 n15),(.int .i64 1),(.int .i64 12)] h13 fun b17 h16=>
 aL (!b17) (
 Q (.int .i64 12) h16) (
 ah .i64 h16 ⟨b1,14,none⟩ fun n18=>
 aE P cV #[(.int .i64 n18),(.int .i64 0),(.int .i64 3)] h16 fun b20 h19=>
 aL (!b20) (
 Q (.int .i64 12) h19) (
 ah .i64 h19 ⟨b1,14,none⟩ fun n21=>
 aL (n21 !=0) (
 aX A1 h19 ⟨b1,0,none⟩ fun x22=>
 aE P cf #[(bz A1 x22),(.int .i64 4)] h19 fun b24 h23=>
 aL (!b24) (
 Q (.int .i64 12) h23) (
 aX A1 h23 ⟨b1,0,none⟩ fun x25=>
 aE P cf #[(bz A1 x25),(.int .i64 8)] h23 fun b27 h26=>
 aL b27 (
 aE P cV #[(.int .i64 (y1n:Int)),(.int .i64 2),(.int .i64 4)] h26 fun b29 h28=>
 aL (!b29) (
 Q (.int .i64 12) h28) (
 aX A1 h28 ⟨b1,0,none⟩ fun x30=>
 aE P cf #[(bz A1 x30),(.int .i64 8)] h28 fun b32 h31=>
 aL (!b32) (
 aL ((y1n:Int) !=1) (
 Q (.int .i64 12) h31) (
 aX A1 h31 ⟨b1,0,none⟩ fun x33=>
 aE P dQ #[(bz A1 x33)] h31 fun b35 h34=>
 aL (!b35) (
 Q (.int .i64 12) h34) (
 bl y1p 0 y1n fun a36=>
 aX A1 h34 ⟨b1,0,none⟩ fun x37=>
 ah .i64 h34 (a36.add ((0:Int).toNat*1)) fun n38=>
 aE P dR #[(bz A1 x37),(.int .i64 n38)] h34 fun b40 h39=>
 aL (!b40) (
 Q (.int .i64 22) h39) (
 J3 ((y1p,y1n,y1c),⟨b1,0,none⟩,()) h39)))) (
 aX A1 h31 ⟨b1,0,none⟩ fun x41=>
 aE P dQ #[(bz A1 x41)] h31 fun b43 h42=>
 aL (!b43) (
 Q (.int .i64 12) h42) (
 bl y1p 0 y1n fun a44=>
 aX A1 h42 ⟨b1,0,none⟩ fun x45=>
 ah .i64 h42 (a44.add ((0:Int).toNat*1)) fun n46=>
 aE P dR #[(bz A1 x45),(.int .i64 n46)] h42 fun b48 h47=>
 aL (!b48) (
 Q (.int .i64 22) h47) (
 J3 ((y1p,y1n,y1c),⟨b1,0,none⟩,()) h47))))) (
 aX A1 h26 ⟨b1,0,none⟩ fun x49=>
 aE P cf #[(bz A1 x49),(.int .i64 8)] h26 fun b51 h50=>
 aL (!b51) (
 aL ((y1n:Int) !=1) (
 Q (.int .i64 12) h50) (
 aX A1 h50 ⟨b1,0,none⟩ fun x52=>
 aE P dQ #[(bz A1 x52)] h50 fun b54 h53=>
 aL (!b54) (
 Q (.int .i64 12) h53) (
 bl y1p 0 y1n fun a55=>
 aX A1 h53 ⟨b1,0,none⟩ fun x56=>
 ah .i64 h53 (a55.add ((0:Int).toNat*1)) fun n57=>
 aE P dR #[(bz A1 x56),(.int .i64 n57)] h53 fun b59 h58=>
 aL (!b59) (
 Q (.int .i64 22) h58) (
 J3 ((y1p,y1n,y1c),⟨b1,0,none⟩,()) h58)))) (
 aX A1 h50 ⟨b1,0,none⟩ fun x60=>
 aE P dQ #[(bz A1 x60)] h50 fun b62 h61=>
 aL (!b62) (
 Q (.int .i64 12) h61) (
 bl y1p 0 y1n fun a63=>
 aX A1 h61 ⟨b1,0,none⟩ fun x64=>
 ah .i64 h61 (a63.add ((0:Int).toNat*1)) fun n65=>
 aE P dR #[(bz A1 x64),(.int .i64 n65)] h61 fun b67 h66=>
 aL (!b67) (
 Q (.int .i64 22) h66) (
 J3 ((y1p,y1n,y1c),⟨b1,0,none⟩,()) h66)))))) (
 aX A1 h19 ⟨b1,0,none⟩ fun x68=>
 aE P cf #[(bz A1 x68),(.int .i64 8)] h19 fun b70 h69=>
 aL b70 (
 aE P cV #[(.int .i64 (y1n:Int)),(.int .i64 2),(.int .i64 4)] h69 fun b72 h71=>
 aL (!b72) (
 Q (.int .i64 12) h71) (
 aX A1 h71 ⟨b1,0,none⟩ fun x73=>
 aE P cf #[(bz A1 x73),(.int .i64 8)] h71 fun b75 h74=>
 aL (!b75) (
 aL ((y1n:Int) !=1) (
 Q (.int .i64 12) h74) (
 aX A1 h74 ⟨b1,0,none⟩ fun x76=>
 aE P dQ #[(bz A1 x76)] h74 fun b78 h77=>
 aL (!b78) (
 Q (.int .i64 12) h77) (
 bl y1p 0 y1n fun a79=>
 aX A1 h77 ⟨b1,0,none⟩ fun x80=>
 ah .i64 h77 (a79.add ((0:Int).toNat*1)) fun n81=>
 aE P dR #[(bz A1 x80),(.int .i64 n81)] h77 fun b83 h82=>
 aL (!b83) (
 Q (.int .i64 22) h82) (
 J3 ((y1p,y1n,y1c),⟨b1,0,none⟩,()) h82)))) (
 aX A1 h74 ⟨b1,0,none⟩ fun x84=>
 aE P dQ #[(bz A1 x84)] h74 fun b86 h85=>
 aL (!b86) (
 Q (.int .i64 12) h85) (
 bl y1p 0 y1n fun a87=>
 aX A1 h85 ⟨b1,0,none⟩ fun x88=>
 ah .i64 h85 (a87.add ((0:Int).toNat*1)) fun n89=>
 aE P dR #[(bz A1 x88),(.int .i64 n89)] h85 fun b91 h90=>
 aL (!b91) (
 Q (.int .i64 22) h90) (
 J3 ((y1p,y1n,y1c),⟨b1,0,none⟩,()) h90))))) (
 aX A1 h69 ⟨b1,0,none⟩ fun x92=>
 aE P cf #[(bz A1 x92),(.int .i64 8)] h69 fun b94 h93=>
 aL (!b94) (
 aL ((y1n:Int) !=1) (
 Q (.int .i64 12) h93) (
 aX A1 h93 ⟨b1,0,none⟩ fun x95=>
 aE P dQ #[(bz A1 x95)] h93 fun b97 h96=>
 aL (!b97) (
 Q (.int .i64 12) h96) (
 bl y1p 0 y1n fun a98=>
 aX A1 h96 ⟨b1,0,none⟩ fun x99=>
 ah .i64 h96 (a98.add ((0:Int).toNat*1)) fun n100=>
 aE P dR #[(bz A1 x99),(.int .i64 n100)] h96 fun b102 h101=>
 aL (!b102) (
 Q (.int .i64 22) h101) (
 J3 ((y1p,y1n,y1c),⟨b1,0,none⟩,()) h101)))) (
 aX A1 h93 ⟨b1,0,none⟩ fun x103=>
 aE P dQ #[(bz A1 x103)] h93 fun b105 h104=>
 aL (!b105) (
 Q (.int .i64 12) h104) (
 bl y1p 0 y1n fun a106=>
 aX A1 h104 ⟨b1,0,none⟩ fun x107=>
 ah .i64 h104 (a106.add ((0:Int).toNat*1)) fun n108=>
 aE P dR #[(bz A1 x107),(.int .i64 n108)] h104 fun b110 h109=>
 aL (!b110) (
 Q (.int .i64 22) h109) (
 J3 ((y1p,y1n,y1c),⟨b1,0,none⟩,()) h109)))))))))
noncomputable def Cx:cz:=tb (ak .done [(7,(bD [1,2,0,3] (.alt 4 (bD [5,6] .done) .stop)))]) (ak [] [(11,[(1,SL),(2,.sc (.adr)),(5,I6),(72,SL),(73,I6),(74,I6)])]) (ak none [(9,some [(1,SL),(2,.sc (.adr))])])
theorem AP (y0:TS A1) (y1p:OA) (y1n y1c:Nat) {h:ae} {Q:VH} (H:Cw y0 y1p y1n y1c h Q):aq P eQ #[(bz A1 y0),(.slice y1p y1n y1c)] h Q:=
 @aA P eQ Tryz.f139 Cx [(bz A1 y0),(.slice y1p y1n y1c)] h Q aR Tryz.func139 Tryz.call139 (by kernel_rfl) (Eq.mpr (by kernel_rfl) H)
def xz (y0:Int) (free0:Addr) (h:ae) (Q:VH):Prop:=
 ah .i64 h free0 fun n1=>
 Q (.bool (y0 !=n1)) h
noncomputable def yV:cz:=tb (ak .done []) (ak [] []) (ak none [])
theorem xA (y0:Int) (free0:Addr) {h:ae} {Q:VH} (H:xz y0 free0 h Q):aq P cK #[(.int .i64 y0),(.pointer (some free0))] h Q:=
 @aA P cK Tryz.f195 yV [(.int .i64 y0),(.pointer (some free0))] h Q aR Tryz.func195 Tryz.call195 (by kernel_rfl) (Eq.mpr (by kernel_rfl) H)
def EY (y0:TS A1) (h:ae) (Q:VH):Prop:=
 aW h (.cells (aP A1 y0).toArray 62 (0,0)) fun b1 h2=>
 aX A1 h2 ⟨b1,0,none⟩ fun x3=>
 aE P cf #[(bz A1 x3),(.int .i64 1)] h2 fun b5 h4=>
 aL b5 (
 ah .i64 h4 ⟨b1,4,none⟩ fun n6=>
 Q (.int .i64 n6) h4) (
 Q (.int .i64 1) h4)
noncomputable def Ei:cz:=tb (ak .done []) (ak [] []) (ak none [])
theorem Cy (y0:TS A1) {h:ae} {Q:VH} (H:EY y0 h Q):aq P nX #[(bz A1 y0)] h Q:=
 @aA P nX Tryz.f196 Ei [(bz A1 y0)] h Q aR Tryz.func196 Tryz.call196 (by kernel_rfl) (Eq.mpr (by kernel_rfl) H)
def vq (Q:VH) (y2 y6:Addr) (h11:ae):Prop:=
 ah .i64 h11 y2 fun n12=>
 aL (n12==5) (
 Q (.tuple #[(.int .i64 0),(.bool true)]) h11) (
 aX A1 h11 y2 fun x13=>
 ah .i64 h11 y6 fun n14=>
 aI P .i64 nX #[(bz A1 x13)] h11 fun n16 h15=>
 aD h15 y6=some (.int .i64 n14)∧
 Q (.tuple #[(.int .i64 (IntKind.wrap .i64 (n14*n16))),(.bool true)]) h15)
def vr (Q:VH) (y1p:OA) (y1n y1c:Nat) (y2 y6:Addr) (y7:Bool) (h9:ae):Prop:=
 ∃J10:(Addr×Addr×Unit)→ae→Prop,(∀s h,J10 s h→vq Q s.1 s.2.1 h)∧
 aE P bh #[(.slice y1p y1n y1c),(.func (.func cK) #[] #[(.pointer (some y6))])] h9 fun b18 h17=>
 aL b18 (
 Q (.tuple #[(.int .i64 0),(.bool false)]) h17) (
 ah .i64 h17 y6 fun n19=>
 aL (n19==0) (
 aL y7 (
 Q (.tuple #[(.int .i64 0),(.bool false)]) h17) (
 ah .i64 h17 y2 fun n20=>
 aL (n20==5) (
 Q (.tuple #[(.int .i64 0),(.bool false)]) h17) (
 J10 (y2,y6,()) h17))) (
 J10 (y2,y6,()) h17))
def Cz (y0:TS A1) (y1p:OA) (y1n y1c:Nat) (h:ae) (Q:VH):Prop:=
 aW h (.cells (aP A1 y0).toArray 62 (0,0)) fun b1 h2=>
 bl y1p 0 y1n fun a3=>
 ah .i64 h2 (a3.add ((0:Int).toNat*1)) fun n4=>
 aW h2 (.cells #[(.int .i64 0)] 3 (0,0)) fun b5 h6=>
 bu h6 ⟨b5,0,none⟩ (.int .i64 n4) fun h7=>
 ∃J8:(S3×Addr×Addr×Bool×Unit)→ae→Prop,(∀s h,J8 s h→vr Q s.1.1 s.1.2.1 s.1.2.2 s.2.1 s.2.2.1 s.2.2.2.1 h)∧
 aX A1 h7 ⟨b1,0,none⟩ fun x21=>
 aI P .i64 gA #[(bz A1 x21)] h7 fun n23 h22=>
 aL (decide (n23>1)) (
 J8 ((y1p,y1n,y1c),⟨b1,0,none⟩,⟨b5,0,none⟩,true,()) h22) (
 ah .i64 h22 ⟨b1,0,none⟩ fun n24=>
 aL (decide (n24≤4)) (
 J8 ((y1p,y1n,y1c),⟨b1,0,none⟩,⟨b5,0,none⟩,true,()) h22) (
 ah .i64 h22 ⟨b1,0,none⟩ fun n25=>
 J8 ((y1p,y1n,y1c),⟨b1,0,none⟩,⟨b5,0,none⟩,(n25==12),()) h22))
noncomputable def CA:cz:=tb (ak .done [(7,(bD [1] (.early 0 (.alt 2 (bD [3,4,5] .done) .stop))))]) (ak [] []) (ak none [(3,some [(1,SL),(2,.sc (.adr)),(6,.sc (.adr)),(7,BO)]),(5,some [(2,.sc (.adr)),(6,.sc (.adr))])])
theorem AQ (y0:TS A1) (y1p:OA) (y1n y1c:Nat) {h:ae} {Q:VH} (H:Cz y0 y1p y1n y1c h Q):aq P lW #[(bz A1 y0),(.slice y1p y1n y1c)] h Q:=
 @aA P lW Tryz.f140 CA [(bz A1 y0),(.slice y1p y1n y1c)] h Q aR Tryz.func140 Tryz.call140 (by kernel_rfl) (Eq.mpr (by kernel_rfl) H)
def tg (Q:VH) (K1:(Int×S3×Int×Int×Unit)→ae→Prop) (y5:Int) (t25_p:OA) (t25_n t25_c:Nat) (t26 t27:Int) (h12:ae):Prop:=
 aL (decide (t27<t26)) (
 bl t25_p t27 t25_n fun a13=>
 ah .i64 h12 (a13.add (t27.toNat*1)) fun n14=>
 K1 ((IntKind.wrap .i64 (y5+n14)),(t25_p,t25_n,t25_c),t26,(IntKind.wrap .i64 (t27+1)),()) h12) (
 Q (.int .i64 y5) h12)
def CB (y0:TS A1) (y1p:OA) (y1n y1c:Nat) (h:ae) (Q:VH):Prop:=
 aW h (.cells (aP A1 y0).toArray 62 (0,0)) fun b1 h2=>
 aX A1 h2 ⟨b1,0,none⟩ fun x3=>
 aI P .i64 eQ #[(bz A1 x3),(.slice y1p y1n y1c)] h2 fun n5 h4=>
 aL (n5 !=0) (
 Q (.int .i64 0) h4) (
 aX A1 h4 ⟨b1,0,none⟩ fun x6=>
 aE P cf #[(bz A1 x6),(.int .i64 2)] h4 fun b8 h7=>
 aL b8 (
 ah .i64 h7 ⟨b1,2,none⟩ fun n9=>
 Q (.int .i64 n9) h7) (
 ah .i64 h7 ⟨b1,0,none⟩ fun n10=>
 aL (n10==11) (
 Q (.int .i64 1) h7) (
 ah .i64 h7 ⟨b1,0,none⟩ fun n11=>
 aL (n11==8) (
 bB (S:=(Int×S3×Int×Int×Unit)) (fun K1 s h=>tg Q K1 s.1 s.2.1.1 s.2.1.2.1 s.2.1.2.2 s.2.2.1 s.2.2.2.1 h) ((0:Int),(y1p,y1n,y1c),(y1n:Int),(0:Int),()) h7) (
 bl y1p 0 y1n fun a15=>
 ah .i64 h7 (a15.add ((0:Int).toNat*1)) fun n16=>
 Q (.int .i64 n16) h7))))
noncomputable def CC:cz:=tb (ak .done []) (ak [] [(10,[(5,I6),(25,SL),(26,I6),(27,I6)])]) (ak none [])
theorem AR (y0:TS A1) (y1p:OA) (y1n y1c:Nat) {h:ae} {Q:VH} (H:CB y0 y1p y1n y1c h Q):aq P lX #[(bz A1 y0),(.slice y1p y1n y1c)] h Q:=
 @aA P lX Tryz.f141 CC [(bz A1 y0),(.slice y1p y1n y1c)] h Q aR Tryz.func141 Tryz.call141 (by kernel_rfl) (Eq.mpr (by kernel_rfl) H)
def dV (Q:VH) (K1:YH Y7) (y1 t2 y7:Addr) (t49_p:OA) (t49_n t49_c:Nat) (t50 t51:Int) (h43:ae):Prop:=
 aL (decide (t51<t50)) (
 bl t49_p t51 t49_n fun a44=>
 ah .i64 h43 (a44.add (t51.toNat*1)) fun n45=>
 av h43 (y1.add 3) fun p46 l46 c46=>
 bl p46 (IntKind.wrap .i64 (n45-1)) l46 fun a47=>
 aX A1 h43 (a47.add ((IntKind.wrap .i64 (n45-1)).toNat*15)) fun x48=>
 aW h43 (.cells (aP A1 (zT A1)).toArray 62 (0,0)) fun b49 h50=>
 bt (aP A1 x48) h50 ⟨b49,0,none⟩ 0 fun h51=>
 av h51 (y7.add 1) fun p52 l52 c52=>
 av h51 ⟨b49,1,none⟩ fun p53 l53 c53=>
 bM P j3 #[(.slice p52 l52 c52),(.slice p53 l53 c53)] h51 fun p55 l55 c55 h54=>
 aX A1 h54 ⟨b49,0,none⟩ fun x56=>
 aI P .i64 eQ #[(bz A1 x56),(.slice p55 l55 c55)] h54 fun n58 h57=>
 aL (n58 !=0) (
 bu h57 t2 (.slice none 0 0) fun h59=>
 bu h59 (t2.add 1) (.slice none 0 0) fun h60=>
 bu h60 (t2.add 2) (.slice none 0 0) fun h61=>
 av h61 t2 fun p62 l62 c62=>
 av h61 (t2.add 1) fun p63 l63 c63=>
 av h61 (t2.add 2) fun p64 l64 c64=>
 Q (.tuple #[(.agg #[(.slice p62 l62 c62),(.slice p63 l63 c63),(.slice p64 l64 c64)]),(.int .i64 n58)]) h61) (
 aX A1 h57 ⟨b49,0,none⟩ fun x65=>
 av h57 (y7.add 2) fun p66 l66 c66=>
 av h57 ⟨b49,1,none⟩ fun p67 l67 c67=>
 bM P j3 #[(.slice p66 l66 c66),(.slice p67 l67 c67)] h57 fun p69 l69 c69 h68=>
 gC (df 0 ⟨b49,0,none⟩ (aP A1 x65) 0) h68 (
 aq P lW #[(bz A1 x65),(.slice p69 l69 c69)] h68 fun v71 h70=>
 ∃n72:Int,∃b73:Bool,v71=(.tuple #[(.int .i64 n72),(.bool b73)])∧
 aD h70 (y7.add 2)=some (.slice p66 l66 c66)∧
 aL (!b73) (
 bu h70 t2 (.slice none 0 0) fun h74=>
 bu h74 (t2.add 1) (.slice none 0 0) fun h75=>
 bu h75 (t2.add 2) (.slice none 0 0) fun h76=>
 av h76 t2 fun p77 l77 c77=>
 av h76 (t2.add 1) fun p78 l78 c78=>
 av h76 (t2.add 2) fun p79 l79 c79=>
 Q (.tuple #[(.agg #[(.slice p77 l77 c77),(.slice p78 l78 c78),(.slice p79 l79 c79)]),(.int .i64 15)]) h76) (
 aX A1 h70 ⟨b49,0,none⟩ fun x80=>
 av h70 (y7.add 1) fun p81 l81 c81=>
 av h70 (y7.add 2) fun p82 l82 c82=>
 aI P .i64 lX #[(bz A1 x80),(.slice p55 l55 c55)] h70 fun n84 h83=>
 aD h83 (y7.add 2)=some (.slice p82 l82 c82)∧
 aD h83 (y7.add 1)=some (.slice p81 l81 c81)∧
 bl p81 n45 l81 fun a85=>
 bu h83 (a85.add (n45.toNat*1)) (.int .i64 n84) fun h86=>
 aD h86 (y7.add 2)=some (.slice p82 l82 c82)∧
 bl p82 n45 l82 fun a87=>
 bu h86 (a87.add (n45.toNat*1)) (.int .i64 n72) fun h88=>
 K1 (y1,t2,y7,(t49_p,t49_n,t49_c),t50,(IntKind.wrap .i64 (t51+1)),()) h88)))) (
 av h43 y7 fun p89 l89 c89=>
 av h43 (y7.add 1) fun p90 l90 c90=>
 av h43 (y7.add 2) fun p91 l91 c91=>
 bu h43 t2 (.slice p89 l89 c89) fun h92=>
 bu h92 (t2.add 1) (.slice p90 l90 c90) fun h93=>
 bu h93 (t2.add 2) (.slice p91 l91 c91) fun h94=>
 av h94 t2 fun p95 l95 c95=>
 av h94 (t2.add 1) fun p96 l96 c96=>
 av h94 (t2.add 2) fun p97 l97 c97=>
 Q (.tuple #[(.agg #[(.slice p95 l95 c95),(.slice p96 l96 c96),(.slice p97 l97 c97)]),(.int .i64 0)]) h94)
def CD (y0:TS A2) (h:ae) (Q:VH):Prop:=
 aW h (.cells (aP A2 y0).toArray 32 (0,0)) fun b1 h2=>
 aW h2 (.cells #[(.slice none 0 0),(.slice none 0 0),(.slice none 0 0)] 139 (0,0)) fun b3 h4=>
 aX A2 h4 ⟨b1,0,none⟩ fun x5=>
 aI P .i64 nW #[(bz A2 x5)] h4 fun n7 h6=>
 aL (n7 !=0) (
 bu h6 ⟨b3,0,none⟩ (.slice none 0 0) fun h8=>
 bu h8 ⟨b3,1,none⟩ (.slice none 0 0) fun h9=>
 bu h9 ⟨b3,2,none⟩ (.slice none 0 0) fun h10=>
 av h10 ⟨b3,0,none⟩ fun p11 l11 c11=>
 av h10 ⟨b3,1,none⟩ fun p12 l12 c12=>
 av h10 ⟨b3,2,none⟩ fun p13 l13 c13=>
 Q (.tuple #[(.agg #[(.slice p11 l11 c11),(.slice p12 l12 c12),(.slice p13 l13 c13)]),(.int .i64 n7)]) h10) (
 av h6 ⟨b1,3,none⟩ fun p14 l14 c14=>
 aq P jt #[(.slice p14 l14 c14)] h6 fun v16 h15=>
 ∃p17:Option Addr,∃l17:Nat,∃c17:Nat,∃b18:Bool,v16=(.tuple #[(.slice p17 l17 c17),(.bool b18)])∧
 aL (!b18) (
 bu h15 ⟨b3,0,none⟩ (.slice none 0 0) fun h19=>
 bu h19 ⟨b3,1,none⟩ (.slice none 0 0) fun h20=>
 bu h20 ⟨b3,2,none⟩ (.slice none 0 0) fun h21=>
 av h21 ⟨b3,0,none⟩ fun p22 l22 c22=>
 av h21 ⟨b3,1,none⟩ fun p23 l23 c23=>
 av h21 ⟨b3,2,none⟩ fun p24 l24 c24=>
 Q (.tuple #[(.agg #[(.slice p22 l22 c22),(.slice p23 l23 c23),(.slice p24 l24 c24)]),(.int .i64 13)]) h21) (
 av h15 ⟨b1,3,none⟩ fun p25 l25 c25=>
 av h15 ⟨b1,3,none⟩ fun p26 l26 c26=>
 (
 zW 3 1 8 (.int .i64 0) (IntKind.wrap .i64 ((l25:Int)+1)) (IntKind.wrap .i64 ((l25:Int)+1)) h15 fun b27 h28=>
 aD h28 ⟨b1,3,none⟩=some (.slice p26 l26 c26)∧
 aD h28 ⟨b1,3,none⟩=some (.slice p25 l25 c25)∧
 (
 zW 3 1 8 (.int .i64 0) (IntKind.wrap .i64 ((l26:Int)+1)) (IntKind.wrap .i64 ((l26:Int)+1)) h28 fun b29 h30=>
 aD h30 ⟨b1,3,none⟩=some (.slice p26 l26 c26)∧
 aD h30 ⟨b1,3,none⟩=some (.slice p25 l25 c25)∧
 aW h30 (.cells #[(.slice none 0 0),(.slice none 0 0),(.slice none 0 0)] 139 (0,0)) fun b31 h32=>
 bu h32 ⟨b31,0,none⟩ (.slice p17 l17 c17) fun h33=>
 bu h33 ⟨b31,1,none⟩ (.slice (some ⟨b27,0,none⟩) ((IntKind.wrap .i64 ((l25:Int)+1)).toNat) ((IntKind.wrap .i64 ((l25:Int)+1)).toNat)) fun h34=>
 bu h34 ⟨b31,2,none⟩ (.slice (some ⟨b29,0,none⟩) ((IntKind.wrap .i64 ((l26:Int)+1)).toNat) ((IntKind.wrap .i64 ((l26:Int)+1)).toNat)) fun h35=>
 av h35 ⟨b31,1,none⟩ fun p36 l36 c36=>
 ah .i64 h35 ⟨b1,0,none⟩ fun n37=>
 bl p36 0 l36 fun a38=>
 av h35 ⟨b31,2,none⟩ fun p39 l39 c39=>
 bu h35 (a38.add ((0:Int).toNat*1)) (.int .i64 n37) fun h40=>
 aD h40 ⟨b31,2,none⟩=some (.slice p39 l39 c39)∧
 bl p39 0 l39 fun a41=>
 bu h40 (a41.add ((0:Int).toNat*1)) (.int .i64 1) fun h42=>
 bB (S:=Y7) (fun K1 s h=>dV Q K1 s.1 s.2.1 s.2.2.1 s.2.2.2.1.1 s.2.2.2.1.2.1 s.2.2.2.1.2.2 s.2.2.2.2.1 s.2.2.2.2.2.1 h) (⟨b1,0,none⟩,⟨b3,0,none⟩,⟨b31,0,none⟩,(p17,l17,c17),(l17:Int),(0:Int),()) h42)∧(
 aW h28 (.cells #[(.slice none 0 0),(.slice none 0 0),(.slice none 0 0)] 139 (0,0)) fun b98 h99=>
 zW 3 1 8 (.int .i64 0) (IntKind.wrap .i64 ((l26:Int)+1)) (IntKind.wrap .i64 ((l26:Int)+1)) h99 fun b100 h101=>
 aD h101 ⟨b1,3,none⟩=some (.slice p26 l26 c26)∧
 aD h101 ⟨b1,3,none⟩=some (.slice p25 l25 c25)∧
 bu h101 ⟨b98,0,none⟩ (.slice p17 l17 c17) fun h102=>
 bu h102 ⟨b98,1,none⟩ (.slice (some ⟨b27,0,none⟩) ((IntKind.wrap .i64 ((l25:Int)+1)).toNat) ((IntKind.wrap .i64 ((l25:Int)+1)).toNat)) fun h103=>
 bu h103 ⟨b98,2,none⟩ (.slice (some ⟨b100,0,none⟩) ((IntKind.wrap .i64 ((l26:Int)+1)).toNat) ((IntKind.wrap .i64 ((l26:Int)+1)).toNat)) fun h104=>
 av h104 ⟨b98,1,none⟩ fun p105 l105 c105=>
 ah .i64 h104 ⟨b1,0,none⟩ fun n106=>
 bl p105 0 l105 fun a107=>
 av h104 ⟨b98,2,none⟩ fun p108 l108 c108=>
 bu h104 (a107.add ((0:Int).toNat*1)) (.int .i64 n106) fun h109=>
 aD h109 ⟨b98,2,none⟩=some (.slice p108 l108 c108)∧
 bl p108 0 l108 fun a110=>
 bu h109 (a110.add ((0:Int).toNat*1)) (.int .i64 1) fun h111=>
 bB (S:=Y7) (fun K1 s h=>dV Q K1 s.1 s.2.1 s.2.2.1 s.2.2.2.1.1 s.2.2.2.1.2.1 s.2.2.2.1.2.2 s.2.2.2.2.1 s.2.2.2.2.2.1 h) (⟨b1,0,none⟩,⟨b3,0,none⟩,⟨b98,0,none⟩,(p17,l17,c17),(l17:Int),(0:Int),()) h111))∧(
 (
 zW 3 1 8 (.int .i64 0) (IntKind.wrap .i64 ((l26:Int)+1)) (IntKind.wrap .i64 ((l26:Int)+1)) h15 fun b167 h168=>
 aD h168 ⟨b1,3,none⟩=some (.slice p26 l26 c26)∧
 aD h168 ⟨b1,3,none⟩=some (.slice p25 l25 c25)∧
 (
 zW 3 1 8 (.int .i64 0) (IntKind.wrap .i64 ((l25:Int)+1)) (IntKind.wrap .i64 ((l25:Int)+1)) h168 fun b169 h170=>
 aD h170 ⟨b1,3,none⟩=some (.slice p26 l26 c26)∧
 aD h170 ⟨b1,3,none⟩=some (.slice p25 l25 c25)∧
 aW h170 (.cells #[(.slice none 0 0),(.slice none 0 0),(.slice none 0 0)] 139 (0,0)) fun b171 h172=>
 bu h172 ⟨b171,0,none⟩ (.slice p17 l17 c17) fun h173=>
 bu h173 ⟨b171,1,none⟩ (.slice (some ⟨b169,0,none⟩) ((IntKind.wrap .i64 ((l25:Int)+1)).toNat) ((IntKind.wrap .i64 ((l25:Int)+1)).toNat)) fun h174=>
 bu h174 ⟨b171,2,none⟩ (.slice (some ⟨b167,0,none⟩) ((IntKind.wrap .i64 ((l26:Int)+1)).toNat) ((IntKind.wrap .i64 ((l26:Int)+1)).toNat)) fun h175=>
 av h175 ⟨b171,1,none⟩ fun p176 l176 c176=>
 ah .i64 h175 ⟨b1,0,none⟩ fun n177=>
 bl p176 0 l176 fun a178=>
 av h175 ⟨b171,2,none⟩ fun p179 l179 c179=>
 bu h175 (a178.add ((0:Int).toNat*1)) (.int .i64 n177) fun h180=>
 aD h180 ⟨b171,2,none⟩=some (.slice p179 l179 c179)∧
 bl p179 0 l179 fun a181=>
 bu h180 (a181.add ((0:Int).toNat*1)) (.int .i64 1) fun h182=>
 bB (S:=Y7) (fun K1 s h=>dV Q K1 s.1 s.2.1 s.2.2.1 s.2.2.2.1.1 s.2.2.2.1.2.1 s.2.2.2.1.2.2 s.2.2.2.2.1 s.2.2.2.2.2.1 h) (⟨b1,0,none⟩,⟨b3,0,none⟩,⟨b171,0,none⟩,(p17,l17,c17),(l17:Int),(0:Int),()) h182)∧(
 aW h168 (.cells #[(.slice none 0 0),(.slice none 0 0),(.slice none 0 0)] 139 (0,0)) fun b238 h239=>
 zW 3 1 8 (.int .i64 0) (IntKind.wrap .i64 ((l25:Int)+1)) (IntKind.wrap .i64 ((l25:Int)+1)) h239 fun b240 h241=>
 aD h241 ⟨b1,3,none⟩=some (.slice p26 l26 c26)∧
 aD h241 ⟨b1,3,none⟩=some (.slice p25 l25 c25)∧
 bu h241 ⟨b238,0,none⟩ (.slice p17 l17 c17) fun h242=>
 bu h242 ⟨b238,1,none⟩ (.slice (some ⟨b240,0,none⟩) ((IntKind.wrap .i64 ((l25:Int)+1)).toNat) ((IntKind.wrap .i64 ((l25:Int)+1)).toNat)) fun h243=>
 bu h243 ⟨b238,2,none⟩ (.slice (some ⟨b167,0,none⟩) ((IntKind.wrap .i64 ((l26:Int)+1)).toNat) ((IntKind.wrap .i64 ((l26:Int)+1)).toNat)) fun h244=>
 av h244 ⟨b238,1,none⟩ fun p245 l245 c245=>
 ah .i64 h244 ⟨b1,0,none⟩ fun n246=>
 bl p245 0 l245 fun a247=>
 av h244 ⟨b238,2,none⟩ fun p248 l248 c248=>
 bu h244 (a247.add ((0:Int).toNat*1)) (.int .i64 n246) fun h249=>
 aD h249 ⟨b238,2,none⟩=some (.slice p248 l248 c248)∧
 bl p248 0 l248 fun a250=>
 bu h249 (a250.add ((0:Int).toNat*1)) (.int .i64 1) fun h251=>
 bB (S:=Y7) (fun K1 s h=>dV Q K1 s.1 s.2.1 s.2.2.1 s.2.2.2.1.1 s.2.2.2.1.2.1 s.2.2.2.1.2.2 s.2.2.2.2.1 s.2.2.2.2.2.1 h) (⟨b1,0,none⟩,⟨b3,0,none⟩,⟨b238,0,none⟩,(p17,l17,c17),(l17:Int),(0:Int),()) h251))∧(
 aW h15 (.cells #[(.slice none 0 0),(.slice none 0 0),(.slice none 0 0)] 139 (0,0)) fun b307 h308=>
 (
 zW 3 1 8 (.int .i64 0) (IntKind.wrap .i64 ((l25:Int)+1)) (IntKind.wrap .i64 ((l25:Int)+1)) h308 fun b309 h310=>
 aD h310 ⟨b1,3,none⟩=some (.slice p26 l26 c26)∧
 aD h310 ⟨b1,3,none⟩=some (.slice p25 l25 c25)∧
 zW 3 1 8 (.int .i64 0) (IntKind.wrap .i64 ((l26:Int)+1)) (IntKind.wrap .i64 ((l26:Int)+1)) h310 fun b311 h312=>
 aD h312 ⟨b1,3,none⟩=some (.slice p26 l26 c26)∧
 aD h312 ⟨b1,3,none⟩=some (.slice p25 l25 c25)∧
 bu h312 ⟨b307,0,none⟩ (.slice p17 l17 c17) fun h313=>
 bu h313 ⟨b307,1,none⟩ (.slice (some ⟨b309,0,none⟩) ((IntKind.wrap .i64 ((l25:Int)+1)).toNat) ((IntKind.wrap .i64 ((l25:Int)+1)).toNat)) fun h314=>
 bu h314 ⟨b307,2,none⟩ (.slice (some ⟨b311,0,none⟩) ((IntKind.wrap .i64 ((l26:Int)+1)).toNat) ((IntKind.wrap .i64 ((l26:Int)+1)).toNat)) fun h315=>
 av h315 ⟨b307,1,none⟩ fun p316 l316 c316=>
 ah .i64 h315 ⟨b1,0,none⟩ fun n317=>
 bl p316 0 l316 fun a318=>
 av h315 ⟨b307,2,none⟩ fun p319 l319 c319=>
 bu h315 (a318.add ((0:Int).toNat*1)) (.int .i64 n317) fun h320=>
 aD h320 ⟨b307,2,none⟩=some (.slice p319 l319 c319)∧
 bl p319 0 l319 fun a321=>
 bu h320 (a321.add ((0:Int).toNat*1)) (.int .i64 1) fun h322=>
 bB (S:=Y7) (fun K1 s h=>dV Q K1 s.1 s.2.1 s.2.2.1 s.2.2.2.1.1 s.2.2.2.1.2.1 s.2.2.2.1.2.2 s.2.2.2.2.1 s.2.2.2.2.2.1 h) (⟨b1,0,none⟩,⟨b3,0,none⟩,⟨b307,0,none⟩,(p17,l17,c17),(l17:Int),(0:Int),()) h322)∧(
 zW 3 1 8 (.int .i64 0) (IntKind.wrap .i64 ((l26:Int)+1)) (IntKind.wrap .i64 ((l26:Int)+1)) h308 fun b378 h379=>
 aD h379 ⟨b1,3,none⟩=some (.slice p26 l26 c26)∧
 aD h379 ⟨b1,3,none⟩=some (.slice p25 l25 c25)∧
 zW 3 1 8 (.int .i64 0) (IntKind.wrap .i64 ((l25:Int)+1)) (IntKind.wrap .i64 ((l25:Int)+1)) h379 fun b380 h381=>
 aD h381 ⟨b1,3,none⟩=some (.slice p26 l26 c26)∧
 aD h381 ⟨b1,3,none⟩=some (.slice p25 l25 c25)∧
 bu h381 ⟨b307,0,none⟩ (.slice p17 l17 c17) fun h382=>
 bu h382 ⟨b307,1,none⟩ (.slice (some ⟨b380,0,none⟩) ((IntKind.wrap .i64 ((l25:Int)+1)).toNat) ((IntKind.wrap .i64 ((l25:Int)+1)).toNat)) fun h383=>
 bu h383 ⟨b307,2,none⟩ (.slice (some ⟨b378,0,none⟩) ((IntKind.wrap .i64 ((l26:Int)+1)).toNat) ((IntKind.wrap .i64 ((l26:Int)+1)).toNat)) fun h384=>
 av h384 ⟨b307,1,none⟩ fun p385 l385 c385=>
 ah .i64 h384 ⟨b1,0,none⟩ fun n386=>
 bl p385 0 l385 fun a387=>
 av h384 ⟨b307,2,none⟩ fun p388 l388 c388=>
 bu h384 (a387.add ((0:Int).toNat*1)) (.int .i64 n386) fun h389=>
 aD h389 ⟨b307,2,none⟩=some (.slice p388 l388 c388)∧
 bl p388 0 l388 fun a390=>
 bu h389 (a390.add ((0:Int).toNat*1)) (.int .i64 1) fun h391=>
 bB (S:=Y7) (fun K1 s h=>dV Q K1 s.1 s.2.1 s.2.2.1 s.2.2.2.1.1 s.2.2.2.1.2.1 s.2.2.2.1.2.2 s.2.2.2.2.1 s.2.2.2.2.2.1 h) (⟨b1,0,none⟩,⟨b3,0,none⟩,⟨b307,0,none⟩,(p17,l17,c17),(l17:Int),(0:Int),()) h391)))))
noncomputable def CE:cz:=tb (ak .done [(7,(bD [0,1,6] (.early 2 (bD [3,4] (.early 7 (bD [8,9] (.alt 5 (.alt 10 (bD [11] (.alt 12 (.alt 13 .done .stop) .stop)) (.alt 12 (.alt 10 (bD [11] (.alt 13 .done .stop)) .stop) .stop)) (.alt 10 (.alt 5 (bD [11] (.alt 12 (.alt 13 .done .stop) .stop)) (.alt 12 (.alt 5 (bD [11] (.alt 13 .done .stop)) .stop) .stop)) (.alt 12 (.alt 5 (.alt 10 (bD [11] (.alt 13 .done .stop)) .stop) (.alt 10 (.alt 5 (bD [11] (.alt 13 .done .stop)) .stop) .stop)) .stop))))))))),(8,(bD [0,2,4,1,5,6] (.early 3 (.alt 7 (bD [8] (.alt 9 .done .stop)) .stop)))),(17,(bD [1,3] (.early 0 (.early 2 (.alt 4 (.alt 5 (.alt 6 (bD [7,8,9,10,11] .done) .stop) .stop) .stop))))),(20,(bD [0,2,3,5,7,9,6] (.early 1 (.early 4 (.alt 8 (bD [10] (.alt 11 (bD [12] (.alt 13 .done .stop)) .stop)) .stop)))))]) (ak [] [(10,[(1,.sc (.adr)),(2,.sc (.adr)),(7,.sc (.adr)),(49,SL),(50,I6),(51,I6)])]) (ak none [])
theorem AU (y0:TS A2) {h:ae} {Q:VH} (H:CD y0 h Q):aq P fI #[(bz A2 y0)] h Q:=
 @aA P fI Tryz.f86 CE [(bz A2 y0)] h Q aR Tryz.func86 Tryz.call86 (by kernel_rfl) (Eq.mpr (by kernel_rfl) H)
def zP (y0:TS A2) (h:ae) (Q:VH):Prop:=
 aW h (.cells (aP A2 y0).toArray 32 (0,0)) fun b1 h2=>
 aX A2 h2 ⟨b1,0,none⟩ fun x3=>
 aq P fI #[(bz A2 x3)] h2 fun v5 h4=>
 ∃p6:Option Addr,∃l6:Nat,∃c6:Nat,∃p7:Option Addr,∃l7:Nat,∃c7:Nat,∃p8:Option Addr,∃l8:Nat,∃c8:Nat,∃n9:Int,v5=(.tuple #[(.agg #[(.slice p6 l6 c6),(.slice p7 l7 c7),(.slice p8 l8 c8)]),(.int .i64 n9)])∧
 aW h4 (.cells #[(.slice none 0 0),(.slice none 0 0),(.slice none 0 0)] 139 (0,0)) fun b10 h11=>
 bu h11 ⟨b10,0,none⟩ (.slice p6 l6 c6) fun h12=>
 bu h12 ⟨b10,1,none⟩ (.slice p7 l7 c7) fun h13=>
 bu h13 ⟨b10,2,none⟩ (.slice p8 l8 c8) fun h14=>
 Q (.int .i64 n9) h14
noncomputable def AV:cz:=tb (ak .done []) (ak [] []) (ak none [])
theorem yW (y0:TS A2) {h:ae} {Q:VH} (H:zP y0 h Q):aq P jd #[(bz A2 y0)] h Q:=
 @aA P jd Tryz.f74 AV [(bz A2 y0)] h Q aR Tryz.func74 Tryz.call74 (by kernel_rfl) (Eq.mpr (by kernel_rfl) H)
def xB (y0:TS A2) (h:ae) (Q:VH):Prop:=
 aW h (.cells (aP A2 y0).toArray 32 (0,0)) fun b1 h2=>
 aX A2 h2 ⟨b1,0,none⟩ fun x3=>
 aq P fI #[(bz A2 x3)] h2 fun v5 h4=>
 ∃p6:Option Addr,∃l6:Nat,∃c6:Nat,∃p7:Option Addr,∃l7:Nat,∃c7:Nat,∃p8:Option Addr,∃l8:Nat,∃c8:Nat,∃n9:Int,v5=(.tuple #[(.agg #[(.slice p6 l6 c6),(.slice p7 l7 c7),(.slice p8 l8 c8)]),(.int .i64 n9)])∧
 aW h4 (.cells #[(.slice none 0 0),(.slice none 0 0),(.slice none 0 0)] 139 (0,0)) fun b10 h11=>
 bu h11 ⟨b10,0,none⟩ (.slice p6 l6 c6) fun h12=>
 bu h12 ⟨b10,1,none⟩ (.slice p7 l7 c7) fun h13=>
 bu h13 ⟨b10,2,none⟩ (.slice p8 l8 c8) fun h14=>
 av h14 ⟨b10,1,none⟩ fun p15 l15 c15=>
 Q (.slice p15 l15 c15) h14
noncomputable def yX:cz:=tb (ak .done []) (ak [] []) (ak none [])
theorem xC (y0:TS A2) {h:ae} {Q:VH} (H:xB y0 h Q):aq P dS #[(bz A2 y0)] h Q:=
 @aA P dS Tryz.f35 yX [(bz A2 y0)] h Q aR Tryz.func35 Tryz.call35 (by kernel_rfl) (Eq.mpr (by kernel_rfl) H)
def CF (y0 y1:Int) (h:ae) (Q:VH):Prop:=
 aW h (.cells #[(.int .i64 0),(.int .i64 0),(.int .i64 0),(.int .i64 0)] 122 (0,0)) fun b1 h2=>
 bu h2 ⟨b1,0,none⟩ (.int .i64 y0) fun h3=>
 bu h3 ⟨b1,1,none⟩ (.int .i64 y1) fun h4=>
 bu h4 ⟨b1,2,none⟩ (.int .i64 y0) fun h5=>
 bu h5 ⟨b1,3,none⟩ (.int .i64 y1) fun h6=>
 ah .i64 h6 ⟨b1,0,none⟩ fun n7=>
 ah .i64 h6 ⟨b1,1,none⟩ fun n8=>
 ah .i64 h6 ⟨b1,2,none⟩ fun n9=>
 ah .i64 h6 ⟨b1,3,none⟩ fun n10=>
 Q (.agg #[(.int .i64 n7),(.int .i64 n8),(.int .i64 n9),(.int .i64 n10)]) h6
noncomputable def CG:cz:=tb (ak .done []) (ak [] []) (ak none [])
theorem AW (y0 y1:Int) {h:ae} {Q:VH} (H:CF y0 y1 h Q):aq P eS #[(.int .i64 y0),(.int .i64 y1)] h Q:=
 @aA P eS Tryz.f75 CG [(.int .i64 y0),(.int .i64 y1)] h Q aR Tryz.func75 Tryz.call75 (by kernel_rfl) (Eq.mpr (by kernel_rfl) H)
def zQ (y0:TS A2) (h:ae) (Q:VH):Prop:=
 aW h (.cells (aP A2 y0).toArray 32 (0,0)) fun b1 h2=>
 aX A2 h2 ⟨b1,0,none⟩ fun x3=>
 aq P fI #[(bz A2 x3)] h2 fun v5 h4=>
 ∃p6:Option Addr,∃l6:Nat,∃c6:Nat,∃p7:Option Addr,∃l7:Nat,∃c7:Nat,∃p8:Option Addr,∃l8:Nat,∃c8:Nat,∃n9:Int,v5=(.tuple #[(.agg #[(.slice p6 l6 c6),(.slice p7 l7 c7),(.slice p8 l8 c8)]),(.int .i64 n9)])∧
 aW h4 (.cells #[(.slice none 0 0),(.slice none 0 0),(.slice none 0 0)] 139 (0,0)) fun b10 h11=>
 bu h11 ⟨b10,0,none⟩ (.slice p6 l6 c6) fun h12=>
 bu h12 ⟨b10,1,none⟩ (.slice p7 l7 c7) fun h13=>
 bu h13 ⟨b10,2,none⟩ (.slice p8 l8 c8) fun h14=>
 av h14 ⟨b10,0,none⟩ fun p15 l15 c15=>
 Q (.slice p15 l15 c15) h14
noncomputable def AX:cz:=tb (ak .done []) (ak [] []) (ak none [])
theorem yY (y0:TS A2) {h:ae} {Q:VH} (H:zQ y0 h Q):aq P hC #[(bz A2 y0)] h Q:=
 @aA P hC Tryz.f37 AX [(bz A2 y0)] h Q aR Tryz.func37 Tryz.call37 (by kernel_rfl) (Eq.mpr (by kernel_rfl) H)
def EZ (y0:TS A1) (h:ae) (Q:VH):Prop:=
 aW h (.cells (aP A1 y0).toArray 62 (0,0)) fun b1 h2=>
 aX A1 h2 ⟨b1,0,none⟩ fun x3=>
 aE P cf #[(bz A1 x3),(.int .i64 1)] h2 fun b5 h4=>
 aL b5 (
 ah .i64 h4 ⟨b1,6,none⟩ fun n6=>
 ah .i64 h4 ⟨b1,7,none⟩ fun n7=>
 Q (.tuple #[(.int .i64 n6),(.int .i64 n7)]) h4) (
 aX A1 h4 ⟨b1,0,none⟩ fun x8=>
 aE P cf #[(bz A1 x8),(.int .i64 16)] h4 fun b10 h9=>
 aL b10 (
 ah .i64 h9 ⟨b1,3,none⟩ fun n11=>
 Q (.tuple #[(.int .i64 (IntKind.wrap .i64 (n11-1))),(.int .i64 0)]) h9) (
 Q (.tuple #[(.int .i64 0),(.int .i64 0)]) h9))
noncomputable def Ej:cz:=tb (ak .done [(2,(bD [0,2,1,4,3,5] .done))]) (ak [] []) (ak none [])
theorem CH (y0:TS A1) {h:ae} {Q:VH} (H:EZ y0 h Q):aq P ln #[(bz A1 y0)] h Q:=
 @aA P ln Tryz.f120 Ej [(bz A1 y0)] h Q aR Tryz.func120 Tryz.call120 (by kernel_rfl) (Eq.mpr (by kernel_rfl) H)
def m9 (Q:VH) (K1:YH Y8) (t3 t4:Addr) (y6 y7:Int) (t29_p:OA) (t29_n t29_c:Nat) (t30 t31:Int) (h12:ae):Prop:=
 aL (decide (t31<t30)) (
 bl t29_p t31 t29_n fun a13=>
 ah .i64 h12 (a13.add (t31.toNat*1)) fun n14=>
 aL (decide (n14<0)) (
 ah .i64 h12 t3 fun n15=>
 ah .i64 h12 t4 fun n16=>
 K1 (t3,t4,(IntKind.wrap .i64 (y6+(IntKind.wrap .i64 (n14*n15)))),(IntKind.wrap .i64 (y7+(IntKind.wrap .i64 (n14*n16)))),(t29_p,t29_n,t29_c),t30,(IntKind.wrap .i64 (t31+1)),()) h12) (
 ah .i64 h12 t4 fun n17=>
 ah .i64 h12 t3 fun n18=>
 K1 (t3,t4,(IntKind.wrap .i64 (y6+(IntKind.wrap .i64 (n14*n17)))),(IntKind.wrap .i64 (y7+(IntKind.wrap .i64 (n14*n18)))),(t29_p,t29_n,t29_c),t30,(IntKind.wrap .i64 (t31+1)),()) h12)) (
 Q (.tuple #[(.int .i64 y6),(.int .i64 y7)]) h12)
def rK (y0:Int) (free0 free1 free2 free3:Addr) (h:ae) (Q:VH):Prop:=
 av h (free0.add 9) fun p1 l1 c1=>
 bl p1 y0 l1 fun a2=>
 ah .i64 h (a2.add (y0.toNat*1)) fun n3=>
 av h (free0.add 9) fun p4 l4 c4=>
 bl p4 y0 l4 fun a5=>
 ah .i64 h (a5.add (y0.toNat*1)) fun n6=>
 av h (free0.add 8) fun p7 l7 c7=>
 ah .i64 h free1 fun n8=>
 ah .i64 h free1 fun n9=>
 qy (IntKind.wrap .i64 ((IntKind.wrap .i64 (y0+1))*n9)) c7 fun l10=>
 qy (IntKind.wrap .i64 (y0*n8)) l10 fun l11=>
 bB (S:=Y8) (fun K1 s h=>m9 Q K1 s.1 s.2.1 s.2.2.1 s.2.2.2.1 s.2.2.2.2.1.1 s.2.2.2.2.1.2.1 s.2.2.2.2.1.2.2 s.2.2.2.2.2.1 s.2.2.2.2.2.2.1 h) (free2,free3,n3,n6,((if c7=l11 then p7 else Option.map (fun a=>a.add (l11*1)) p7),(l10-l11),(c7-l11)),(((l10-l11):Nat):Int),(0:Int),()) h
noncomputable def uN:cz:=tb (ak .done [(1,(bD [0,2,5,7,1,3,4,10,6,8,9,11] .done)),(6,(bD [0,1,5,6,2,3,4,10,7,8,9,11] .done)),(7,(bD [0,1,5,6,2,3,4,10,7,8,9,11] .done))]) (ak [] [(3,[(3,.sc (.adr)),(4,.sc (.adr)),(6,I6),(7,I6),(29,SL),(30,I6),(31,I6)])]) (ak none [])
theorem th (y0:Int) (free0 free1 free2 free3:Addr) {h:ae} {Q:VH} (H:rK y0 free0 free1 free2 free3 h Q):aq P fJ #[(.int .i64 y0),(.pointer (some free0)),(.pointer (some free1)),(.pointer (some free2)),(.pointer (some free3))] h Q:=
 @aA P fJ Tryz.f180 uN [(.int .i64 y0),(.pointer (some free0)),(.pointer (some free1)),(.pointer (some free2)),(.pointer (some free3))] h Q aR Tryz.func180 Tryz.call180 (by kernel_rfl) (Eq.mpr (by kernel_rfl) H)
def G8 (y0:Int) (h:ae) (Q:VH):Prop:=
 aL (decide (y0<1)) (
 Q (.tuple #[(.int .i64 0),(.int .i64 0),(.bool false)]) h) (
 aL (decide (y0>64)) (
 Q (.tuple #[(.int .i64 0),(.int .i64 0),(.bool false)]) h) (
 Be (IntKind.wrap .i64 ((64:Int)-y0)) fun _=>
 Q (.tuple #[(.int .i64 (gz (-9223372036854775808:Int) (min (IntKind.wrap .i64 ((64:Int)-y0)).toNat 64))),(.int .i64 (F6 .i64 (-1) (gz (-9223372036854775808:Int) (min (IntKind.wrap .i64 ((64:Int)-y0)).toNat 64)))),(.bool true)]) h))
noncomputable def FZ:cz:=tb (ak .done []) (ak [] []) (ak none [])
theorem Ek (y0:Int) {h:ae} {Q:VH} (H:G8 y0 h Q):aq P qn #[(.int .i64 y0)] h Q:=
 @aA P qn Tryz.f223 FZ [(.int .i64 y0)] h Q aR Tryz.func223 Tryz.call223 (by kernel_rfl) (Eq.mpr (by kernel_rfl) H)
def E0 (y0 y1 y2:Int) (h:ae) (Q:VH):Prop:=
 aL (decide (y0<y1)) (
 Q (.int .i64 y1) h) (
 aL (decide (y0>y2)) (
 Q (.int .i64 y2) h) (
 Q (.int .i64 y0) h))
noncomputable def El:cz:=tb (ak .done []) (ak [] []) (ak none [])
theorem CI (y0 y1 y2:Int) {h:ae} {Q:VH} (H:E0 y0 y1 y2 h Q):aq P gB #[(.int .i64 y0),(.int .i64 y1),(.int .i64 y2)] h Q:=
 @aA P gB Tryz.f123 El [(.int .i64 y0),(.int .i64 y1),(.int .i64 y2)] h Q aR Tryz.func123 Tryz.call123 (by kernel_rfl) (Eq.mpr (by kernel_rfl) H)
def Kc (y0 y1:Int) (h:ae) (Q:VH):Prop:=
 aq P qn #[(.int .i64 y1)] h fun v2 h1=>
 ∃n3:Int,∃n4:Int,∃b5:Bool,v2=(.tuple #[(.int .i64 n3),(.int .i64 n4),(.bool b5)])∧
 aL (!b5) (
 Q (.int .i64 0) h1) (
 aI P .i64 gB #[(.int .i64 y0),(.int .i64 n3),(.int .i64 n4)] h1 fun n7 h6=>
 Q (.int .i64 n7) h6)
noncomputable def G9:cz:=tb (ak .done []) (ak [] []) (ak none [])
theorem F0 (y0 y1:Int) {h:ae} {Q:VH} (H:Kc y0 y1 h Q):aq P cW #[(.int .i64 y0),(.int .i64 y1)] h Q:=
 @aA P cW Tryz.f183 G9 [(.int .i64 y0),(.int .i64 y1)] h Q aR Tryz.func183 Tryz.call183 (by kernel_rfl) (Eq.mpr (by kernel_rfl) H)
def Kd (y0 y1:Int) (h:ae) (Q:VH):Prop:=
 aL (y0==0) (
 Q (.tuple #[(.int .i64 0),(.bool true)]) h) (
 aL (y1==0) (
 Q (.tuple #[(.int .i64 0),(.bool true)]) h) (
 Ob y1 fun _=>
 aL ((IntKind.wrap .i64 (Int.tdiv (IntKind.wrap .i64 (y0*y1)) y1)) !=y0) (
 Q (.tuple #[(.int .i64 0),(.bool false)]) h) (
 aL (y0==(-1:Int)) (
 aL (y1==(-9223372036854775808:Int)) (
 Q (.tuple #[(.int .i64 0),(.bool false)]) h) (
 aL (y1==(-1:Int)) (
 aL (y0==(-9223372036854775808:Int)) (
 Q (.tuple #[(.int .i64 0),(.bool false)]) h) (
 Q (.tuple #[(.int .i64 (IntKind.wrap .i64 (y0*y1))),(.bool true)]) h)) (
 Q (.tuple #[(.int .i64 (IntKind.wrap .i64 (y0*y1))),(.bool true)]) h))) (
 aL (y1==(-1:Int)) (
 aL (y0==(-9223372036854775808:Int)) (
 Q (.tuple #[(.int .i64 0),(.bool false)]) h) (
 Q (.tuple #[(.int .i64 (IntKind.wrap .i64 (y0*y1))),(.bool true)]) h)) (
 Q (.tuple #[(.int .i64 (IntKind.wrap .i64 (y0*y1))),(.bool true)]) h)))))
noncomputable def Ha:cz:=tb (ak .done []) (ak [] []) (ak none [])
theorem F3 (y0 y1:Int) {h:ae} {Q:VH} (H:Kd y0 y1 h Q):aq P tU #[(.int .i64 y0),(.int .i64 y1)] h Q:=
 @aA P tU Tryz.f184 Ha [(.int .i64 y0),(.int .i64 y1)] h Q aR Tryz.func184 Tryz.call184 (by kernel_rfl) (Eq.mpr (by kernel_rfl) H)
def zR (y0 y1:Int) (h:ae) (Q:VH):Prop:=
 aL (decide (y1<1)) (
 Q (.tuple #[(.int .i64 0),(.int .i64 0)]) h) (
 Ob y1 fun _=>
 Ob y1 fun _=>
 aL (decide ((Int.tmod y0 y1)<0)) (
 Q (.tuple #[(.int .i64 (IntKind.wrap .i64 ((IntKind.wrap .i64 (Int.tdiv y0 y1))-1))),(.int .i64 (IntKind.wrap .i64 ((Int.tmod y0 y1)+y1)))]) h) (
 Q (.tuple #[(.int .i64 (IntKind.wrap .i64 (Int.tdiv y0 y1))),(.int .i64 (Int.tmod y0 y1))]) h))
noncomputable def AY:cz:=tb (ak .done [(3,(bD [0,1,2,3,4,5,6,7] .done))]) (ak [] []) (ak none [])
theorem yZ (y0 y1:Int) {h:ae} {Q:VH} (H:zR y0 y1 h Q):aq P kN #[(.int .i64 y0),(.int .i64 y1)] h Q:=
 @aA P kN Tryz.f237 AY [(.int .i64 y0),(.int .i64 y1)] h Q aR Tryz.func237 Tryz.call237 (by kernel_rfl) (Eq.mpr (by kernel_rfl) H)
def zS (free0 free1:Addr) (h:ae) (Q:VH):Prop:=
 ah .i64 h free0 fun n1=>
 aL (decide (n1>0)) (
 ah .i64 h free1 fun n2=>
 ah .i64 h free0 fun n3=>
 ah .i64 h free1 fun n4=>
 Q (.bool (decide (n2≥(IntKind.wrap .i64 (n3-n4))))) h) (
 Q (.bool false) h)
noncomputable def AZ:cz:=tb (ak .done []) (ak [] []) (ak none [])
theorem za (free0 free1:Addr) {h:ae} {Q:VH} (H:zS free0 free1 h Q):aq P oN #[(.pointer (some free0)),(.pointer (some free1))] h Q:=
 @aA P oN Tryz.f238 AZ [(.pointer (some free0)),(.pointer (some free1))] h Q aR Tryz.func238 Tryz.call238 (by kernel_rfl) (Eq.mpr (by kernel_rfl) H)
def E1 (y0 y1:Int) (h:ae) (Q:VH):Prop:=
 aW h (.cells #[(.int .i64 y1)] 3 (0,0)) fun b1 h2=>
 ah .i64 h2 ⟨b1,0,none⟩ fun n3=>
 aq P kN #[(.int .i64 y0),(.int .i64 n3)] h2 fun v5 h4=>
 ∃n6:Int,∃n7:Int,v5=(.tuple #[(.int .i64 n6),(.int .i64 n7)])∧
 aW h4 (.cells #[(.int .i64 0)] 3 (0,0)) fun b8 h9=>
 bu h9 ⟨b8,0,none⟩ (.int .i64 n7) fun h10=>
 aE P oN #[(.pointer (some ⟨b1,0,none⟩)),(.pointer (some ⟨b8,0,none⟩))] h10 fun b12 h11=>
 aL b12 (
 Q (.int .i64 (IntKind.wrap .i64 (n6+1))) h11) (
 Q (.int .i64 n6) h11)
noncomputable def Em:cz:=tb (ak .done []) (ak [] []) (ak none [])
theorem CJ (y0 y1:Int) {h:ae} {Q:VH} (H:E1 y0 y1 h Q):aq P nY #[(.int .i64 y0),(.int .i64 y1)] h Q:=
 @aA P nY Tryz.f224 Em [(.int .i64 y0),(.int .i64 y1)] h Q aR Tryz.func224 Tryz.call224 (by kernel_rfl) (Eq.mpr (by kernel_rfl) H)
def CK (y0 y1:Int) (h:ae) (Q:VH):Prop:=
 aL (decide (y1<0)) (
 Q (.int .i64 0) h) (
 aL (decide (y1>62)) (
 Q (.int .i64 0) h) (
 Be y1 fun _=>
 aI P .i64 nY #[(.int .i64 y0),(.int .i64 (Hd .i64 1 (min y1.toNat 64)))] h fun n2 h1=>
 Q (.int .i64 n2) h1))
noncomputable def CL:cz:=tb (ak .done []) (ak [] []) (ak none [])
theorem A0 (y0 y1:Int) {h:ae} {Q:VH} (H:CK y0 y1 h Q):aq P iN #[(.int .i64 y0),(.int .i64 y1)] h Q:=
 @aA P iN Tryz.f185 CL [(.int .i64 y0),(.int .i64 y1)] h Q aR Tryz.func185 Tryz.call185 (by kernel_rfl) (Eq.mpr (by kernel_rfl) H)
def tj (Q:VH) (y0 y1 y2:Int) (h2:ae):Prop:=
 aq P tU #[(.int .i64 y0),(.int .i64 y1)] h2 fun v4 h3=>
 ∃n5:Int,∃b6:Bool,v4=(.tuple #[(.int .i64 n5),(.bool b6)])∧
 aL (!b6) (
 aL (decide (y0<0)) (
 Q (.int .i64 (-2147483648:Int)) h3) (
 aL (!b6) (
 Q (.int .i64 2147483647) h3) (
 aI P .i64 iN #[(.int .i64 n5),(.int .i64 y2)] h3 fun n8 h7=>
 aI P .i64 cW #[(.int .i64 n8),(.int .i64 32)] h7 fun n10 h9=>
 Q (.int .i64 n10) h9))) (
 aL (!b6) (
 Q (.int .i64 2147483647) h3) (
 aI P .i64 iN #[(.int .i64 n5),(.int .i64 y2)] h3 fun n12 h11=>
 aI P .i64 cW #[(.int .i64 n12),(.int .i64 32)] h11 fun n14 h13=>
 Q (.int .i64 n14) h13))
def zU (y0 y1 y2:Int) (h:ae) (Q:VH):Prop:=
 ∃J1:(Int×Int×Int×Unit)→ae→Prop,(∀s h,J1 s h→tj Q s.1 s.2.1 s.2.2.1 h)∧
 aL (decide (y1≥0)) (
 aL (decide (y1≤32767)) (
 aL (decide (y2≥0)) (
 aL (!(decide (y2≤30))) (
 Q (.int .i64 0) h) (
 J1 (y0,y1,y2,()) h)) (
 aL (!false) (
 Q (.int .i64 0) h) (
 J1 (y0,y1,y2,()) h))) (
 aL (!false) (
 Q (.int .i64 0) h) (
 J1 (y0,y1,y2,()) h))) (
 aL (!false) (
 Q (.int .i64 0) h) (
 J1 (y0,y1,y2,()) h))
noncomputable def A7:cz:=tb (ak .done []) (ak [] []) (ak none [(3,some [(0,I6),(1,I6),(2,I6)])])
theorem zb (y0 y1 y2:Int) {h:ae} {Q:VH} (H:zU y0 y1 y2 h Q):aq P hD #[(.int .i64 y0),(.int .i64 y1),(.int .i64 y2)] h Q:=
 @aA P hD Tryz.f124 A7 [(.int .i64 y0),(.int .i64 y1),(.int .i64 y2)] h Q aR Tryz.func124 Tryz.call124 (by kernel_rfl) (Eq.mpr (by kernel_rfl) H)
def CM (y0:TS A1) (y1:Int) (h:ae) (Q:VH):Prop:=
 aW h (.cells (aP A1 y0).toArray 62 (0,0)) fun b1 h2=>
 aI P .i64 cW #[(.int .i64 y1),(.int .i64 32)] h2 fun n4 h3=>
 ah .i64 h3 ⟨b1,14,none⟩ fun n5=>
 aL ((cS .i64 n5 1) !=0) (
 ah .i64 h3 ⟨b1,10,none⟩ fun n6=>
 ah .i64 h3 ⟨b1,11,none⟩ fun n7=>
 aI P .i64 hD #[(.int .i64 n4),(.int .i64 n6),(.int .i64 n7)] h3 fun n9 h8=>
 ah .i64 h8 ⟨b1,14,none⟩ fun n10=>
 aL ((cS .i64 n10 2) !=0) (
 ah .i64 h8 ⟨b1,12,none⟩ fun n11=>
 ah .i64 h8 ⟨b1,13,none⟩ fun n12=>
 aI P .i64 gB #[(.int .i64 n9),(.int .i64 n11),(.int .i64 n12)] h8 fun n14 h13=>
 Q (.int .i64 n14) h13) (
 Q (.int .i64 n9) h8)) (
 ah .i64 h3 ⟨b1,14,none⟩ fun n15=>
 aL ((cS .i64 n15 2) !=0) (
 ah .i64 h3 ⟨b1,12,none⟩ fun n16=>
 ah .i64 h3 ⟨b1,13,none⟩ fun n17=>
 aI P .i64 gB #[(.int .i64 n4),(.int .i64 n16),(.int .i64 n17)] h3 fun n19 h18=>
 Q (.int .i64 n19) h18) (
 Q (.int .i64 n4) h3))
noncomputable def CN:cz:=tb (ak .done []) (ak [] []) (ak none [])
theorem A8 (y0:TS A1) (y1:Int) {h:ae} {Q:VH} (H:CM y0 y1 h Q):aq P j4 #[(bz A1 y0),(.int .i64 y1)] h Q:=
 @aA P j4 Tryz.f181 CN [(bz A1 y0),(.int .i64 y1)] h Q aR Tryz.func181 Tryz.call181 (by kernel_rfl) (Eq.mpr (by kernel_rfl) H)
def pB (Q:VH) (K1:YH Y9) (y3 t6 ends_8_c0 ends_8_c1 ends_8_c2 ends_8_c3 y9:Addr) (t30 t31:Int) (h23:ae):Prop:=
 aL (decide (t31<t30)) (
 aq P fJ #[(.int .i64 t31),(.pointer (some ends_8_c0)),(.pointer (some ends_8_c1)),(.pointer (some ends_8_c2)),(.pointer (some ends_8_c3))] h23 fun v25 h24=>
 ∃n26:Int,∃n27:Int,v25=(.tuple #[(.int .i64 n26),(.int .i64 n27)])∧
 ah .i64 h24 (y9.add 2) fun n28=>
 ah .i64 h24 (y9.add 3) fun n29=>
 bu h24 (y9.add 2) (.int .i64 (if n26<n28 then n26 else n28)) fun h30=>
 bu h30 (y9.add 3) (.int .i64 (if n27>n29 then n27 else n29)) fun h31=>
 K1 (y3,t6,((()),(ends_8_c0,ends_8_c1,ends_8_c2,ends_8_c3,())),y9,t30,(IntKind.wrap .i64 (t31+1)),()) h31) (
 aX A1 h23 y3 fun x32=>
 ah .i64 h23 (y9.add 2) fun n33=>
 aX A1 h23 y3 fun x34=>
 ah .i64 h23 (y9.add 3) fun n35=>
 aI P .i64 j4 #[(bz A1 x32),(.int .i64 n33)] h23 fun n37 h36=>
 aD h36 (y9.add 3)=some (.int .i64 n35)∧
 gC (df 0 y3 (aP A1 x34) 0) h36 (
 aI P .i64 j4 #[(bz A1 x34),(.int .i64 n35)] h36 fun n39 h38=>
 aD h38 (y9.add 2)=some (.int .i64 n33)∧
 gC (df 0 y3 (aP A1 x32) 0) h38 (
 bu h38 y9 (.int .i64 n37) fun h40=>
 gC (df 0 y3 (aP A1 x34) 0) h40 (
 bu h40 (y9.add 1) (.int .i64 n39) fun h41=>
 ah .i64 h41 y9 fun n42=>
 ah .i64 h41 (y9.add 1) fun n43=>
 ah .i64 h41 (y9.add 2) fun n44=>
 ah .i64 h41 (y9.add 3) fun n45=>
 bu h41 t6 (.int .i64 n42) fun h46=>
 bu h46 (t6.add 1) (.int .i64 n43) fun h47=>
 bu h47 (t6.add 2) (.int .i64 n44) fun h48=>
 bu h48 (t6.add 3) (.int .i64 n45) fun h49=>
 ah .i64 h49 t6 fun n50=>
 ah .i64 h49 (t6.add 1) fun n51=>
 ah .i64 h49 (t6.add 2) fun n52=>
 ah .i64 h49 (t6.add 3) fun n53=>
 Q (.agg #[(.int .i64 n50),(.int .i64 n51),(.int .i64 n52),(.int .i64 n53)]) h49))))
def vt (y0:TS A1) (y1 y2:Int) (h:ae) (Q:VH):Prop:=
 aW h (.cells (aP A1 y0).toArray 62 (0,0)) fun b1 h2=>
 aW h2 (.cells #[(.int .i64 y1)] 3 (0,0)) fun b3 h4=>
 aW h4 (.cells #[(.int .i64 y2)] 3 (0,0)) fun b5 h6=>
 aW h6 (.cells #[(.int .i64 0),(.int .i64 0),(.int .i64 0),(.int .i64 0)] 122 (0,0)) fun b7 h8=>
 av h8 ⟨b1,8,none⟩ fun p9 l9 c9=>
 av h8 ⟨b1,9,none⟩ fun p10 l10 c10=>
 Ob (l10:Int) fun _=>
 aW h8 (.cells #[(.int .i64 0)] 3 (0,0)) fun b11 h12=>
 bu h12 ⟨b11,0,none⟩ (.int .i64 (IntKind.wrap .i64 (Int.tdiv (l9:Int) (l10:Int)))) fun h13=>
 aW h13 (.cells #[(.int .i64 0),(.int .i64 0),(.int .i64 0),(.int .i64 0)] 122 (0,0)) fun b14 h15=>
 aq P fJ #[(.int .i64 0),(.pointer (some ⟨b1,0,none⟩)),(.pointer (some ⟨b11,0,none⟩)),(.pointer (some ⟨b5,0,none⟩)),(.pointer (some ⟨b3,0,none⟩))] h15 fun v17 h16=>
 ∃n18:Int,∃n19:Int,v17=(.tuple #[(.int .i64 n18),(.int .i64 n19)])∧
 bu h16 ⟨b14,2,none⟩ (.int .i64 n18) fun h20=>
 bu h20 ⟨b14,3,none⟩ (.int .i64 n19) fun h21=>
 av h21 ⟨b1,9,none⟩ fun p22 l22 c22=>
 bB (S:=Y9) (fun K1 s h=>pB Q K1 s.1 s.2.1 s.2.2.1.2.1 s.2.2.1.2.2.1 s.2.2.1.2.2.2.1 s.2.2.1.2.2.2.2.1 s.2.2.2.1 s.2.2.2.2.1 s.2.2.2.2.2.1 h) (⟨b1,0,none⟩,⟨b7,0,none⟩,((()),(⟨b1,0,none⟩,⟨b11,0,none⟩,⟨b5,0,none⟩,⟨b3,0,none⟩,())),⟨b14,0,none⟩,(l22:Int),(0:Int),()) h21
noncomputable def xD:cz:=tb (ak .done [(11,(bD [1,5] (.early 0 (.early 2 (.early 4 (.early 6 (.alt 3 (bD [8] (.alt 7 (.alt 9 (bD [10] (.alt 11 .done .stop)) .stop) .stop)) .stop)))))))]) (ak [] [(6,[(3,.sc (.adr)),(6,.sc (.adr)),(8,.fn 180 [] [.adr,.adr,.adr,.adr]),(9,.sc (.adr)),(30,I6),(31,I6)])]) (ak none [])
theorem vQ (y0:TS A1) (y1 y2:Int) {h:ae} {Q:VH} (H:vt y0 y1 y2 h Q):aq P eD #[(bz A1 y0),(.int .i64 y1),(.int .i64 y2)] h Q:=
 @aA P eD Tryz.f121 xD [(bz A1 y0),(.int .i64 y1),(.int .i64 y2)] h Q aR Tryz.func121 Tryz.call121 (by kernel_rfl) (Eq.mpr (by kernel_rfl) H)
def E2 (y0:Int) (free0 free1:Addr) (h:ae) (Q:VH):Prop:=
 aL (decide (y0>0)) (
 ah .i64 h free0 fun n1=>
 aL (decide (n1>(IntKind.wrap .i64 ((9223372036854775807:Int)-y0)))) (
 bu h free0 (.int .i64 9223372036854775807) fun h2=>
 ah .i64 h2 free0 fun n3=>
 ah .i64 h2 free1 fun n4=>
 aI P .i64 cW #[(.int .i64 n3),(.int .i64 n4)] h2 fun n6 h5=>
 bu h5 free0 (.int .i64 n6) fun h7=>
 Q (.tuple #[]) h7) (
 aL (decide (y0<0)) (
 ah .i64 h free0 fun n8=>
 aL (decide (n8<(IntKind.wrap .i64 ((-9223372036854775808:Int)-y0)))) (
 bu h free0 (.int .i64 (-9223372036854775808:Int)) fun h9=>
 ah .i64 h9 free0 fun n10=>
 ah .i64 h9 free1 fun n11=>
 aI P .i64 cW #[(.int .i64 n10),(.int .i64 n11)] h9 fun n13 h12=>
 bu h12 free0 (.int .i64 n13) fun h14=>
 Q (.tuple #[]) h14) (
 ah .i64 h free0 fun n15=>
 bu h free0 (.int .i64 (IntKind.wrap .i64 (n15+y0))) fun h16=>
 ah .i64 h16 free0 fun n17=>
 ah .i64 h16 free1 fun n18=>
 aI P .i64 cW #[(.int .i64 n17),(.int .i64 n18)] h16 fun n20 h19=>
 bu h19 free0 (.int .i64 n20) fun h21=>
 Q (.tuple #[]) h21)) (
 ah .i64 h free0 fun n22=>
 bu h free0 (.int .i64 (IntKind.wrap .i64 (n22+y0))) fun h23=>
 ah .i64 h23 free0 fun n24=>
 ah .i64 h23 free1 fun n25=>
 aI P .i64 cW #[(.int .i64 n24),(.int .i64 n25)] h23 fun n27 h26=>
 bu h26 free0 (.int .i64 n27) fun h28=>
 Q (.tuple #[]) h28))) (
 aL (decide (y0<0)) (
 ah .i64 h free0 fun n29=>
 aL (decide (n29<(IntKind.wrap .i64 ((-9223372036854775808:Int)-y0)))) (
 bu h free0 (.int .i64 (-9223372036854775808:Int)) fun h30=>
 ah .i64 h30 free0 fun n31=>
 ah .i64 h30 free1 fun n32=>
 aI P .i64 cW #[(.int .i64 n31),(.int .i64 n32)] h30 fun n34 h33=>
 bu h33 free0 (.int .i64 n34) fun h35=>
 Q (.tuple #[]) h35) (
 ah .i64 h free0 fun n36=>
 bu h free0 (.int .i64 (IntKind.wrap .i64 (n36+y0))) fun h37=>
 ah .i64 h37 free0 fun n38=>
 ah .i64 h37 free1 fun n39=>
 aI P .i64 cW #[(.int .i64 n38),(.int .i64 n39)] h37 fun n41 h40=>
 bu h40 free0 (.int .i64 n41) fun h42=>
 Q (.tuple #[]) h42)) (
 ah .i64 h free0 fun n43=>
 bu h free0 (.int .i64 (IntKind.wrap .i64 (n43+y0))) fun h44=>
 ah .i64 h44 free0 fun n45=>
 ah .i64 h44 free1 fun n46=>
 aI P .i64 cW #[(.int .i64 n45),(.int .i64 n46)] h44 fun n48 h47=>
 bu h47 free0 (.int .i64 n48) fun h49=>
 Q (.tuple #[]) h49))
noncomputable def En:cz:=tb (ak .done []) (ak [] []) (ak none [])
theorem CO (y0:Int) (free0 free1:Addr) {h:ae} {Q:VH} (H:E2 y0 free0 free1 h Q):aq P nZ #[(.int .i64 y0),(.pointer (some free0)),(.pointer (some free1))] h Q:=
 @aA P nZ Tryz.f182 En [(.int .i64 y0),(.pointer (some free0)),(.pointer (some free1))] h Q aR Tryz.func182 Tryz.call182 (by kernel_rfl) (Eq.mpr (by kernel_rfl) H)
def CP (Q:VH) (K1:YH RI) (y5 next_6_c0 next_6_c1:Addr) (t10_p:OA) (t10_n t10_c:Nat) (t11 t12:Int) (h6:ae):Prop:=
 aL (decide (t12<t11)) (
 bl t10_p t12 t10_n fun a7=>
 ah .i64 h6 (a7.add (t12.toNat*1)) fun n8=>
 bc P nZ #[(.int .i64 n8),(.pointer (some next_6_c0)),(.pointer (some next_6_c1))] h6 fun h9=>
 K1 (y5,((()),(next_6_c0,next_6_c1,())),(t10_p,t10_n,t10_c),t11,(IntKind.wrap .i64 (t12+1)),()) h9) (
 ah .i64 h6 y5 fun n10=>
 Q (.int .i64 n10) h6)
def Ke (y0:Int) (y1p:OA) (y1n y1c:Nat) (h:ae) (Q:VH):Prop:=
 aW h (.cells #[(.int .i64 y0)] 3 (0,0)) fun b1 h2=>
 aW h2 (.cells #[(.int .i64 0)] 3 (0,0)) fun b3 h4=>
 bu h4 ⟨b3,0,none⟩ (.int .i64 0) fun h5=>
 bB (S:=RI) (fun K1 s h=>CP Q K1 s.1 s.2.1.2.1 s.2.1.2.2.1 s.2.2.1.1 s.2.2.1.2.1 s.2.2.1.2.2 s.2.2.2.1 s.2.2.2.2.1 h) (⟨b3,0,none⟩,((()),(⟨b3,0,none⟩,⟨b1,0,none⟩,())),(y1p,y1n,y1c),(y1n:Int),(0:Int),()) h5
noncomputable def Hb:cz:=tb (ak .done []) (ak [] [(4,[(5,.sc (.adr)),(6,.fn 182 [] [.adr,.adr]),(10,SL),(11,I6),(12,I6)])]) (ak none [])
theorem F4 (y0:Int) (y1p:OA) (y1n y1c:Nat) {h:ae} {Q:VH} (H:Ke y0 y1p y1n y1c h Q):aq P pp #[(.int .i64 y0),(.slice y1p y1n y1c)] h Q:=
 @aA P pp Tryz.f122 Hb [(.int .i64 y0),(.slice y1p y1n y1c)] h Q aR Tryz.func122 Tryz.call122 (by kernel_rfl) (Eq.mpr (by kernel_rfl) H)
def tl (Q:VH) (K1:YH Rj) (y1:Int) (y3 t6:Addr) (y7 y8:Int) (y9p:OA) (y9n y9c:Nat) (y10p:OA) (y10n y10c:Nat) (y11:Addr) (h77:ae):Prop:=
 ah .i64 h77 y3 fun n78=>
 aL (n78==1) (
 aX A1 h77 y3 fun x79=>
 aq P eD #[(bz A1 x79),(.int .i64 y7),(.int .i64 y8)] h77 fun v81 h80=>
 ∃n82:Int,∃n83:Int,∃n84:Int,∃n85:Int,v81=(.agg #[(.int .i64 n82),(.int .i64 n83),(.int .i64 n84),(.int .i64 n85)])∧
 bu h80 t6 (.int .i64 n82) fun h86=>
 bu h86 (t6.add 1) (.int .i64 n83) fun h87=>
 bu h87 (t6.add 2) (.int .i64 n84) fun h88=>
 bu h88 (t6.add 3) (.int .i64 n85) fun h89=>
 ah .i64 h89 t6 fun n90=>
 ah .i64 h89 (t6.add 1) fun n91=>
 ah .i64 h89 (t6.add 2) fun n92=>
 ah .i64 h89 (t6.add 3) fun n93=>
 Q (.agg #[(.int .i64 n90),(.int .i64 n91),(.int .i64 n92),(.int .i64 n93)]) h89) (
 aL (n78==2) (
 aX A1 h77 y3 fun x94=>
 aq P eD #[(bz A1 x94),(.int .i64 y7),(.int .i64 y8)] h77 fun v96 h95=>
 ∃n97:Int,∃n98:Int,∃n99:Int,∃n100:Int,v96=(.agg #[(.int .i64 n97),(.int .i64 n98),(.int .i64 n99),(.int .i64 n100)])∧
 bu h95 t6 (.int .i64 n97) fun h101=>
 bu h101 (t6.add 1) (.int .i64 n98) fun h102=>
 bu h102 (t6.add 2) (.int .i64 n99) fun h103=>
 bu h103 (t6.add 3) (.int .i64 n100) fun h104=>
 ah .i64 h104 t6 fun n105=>
 ah .i64 h104 (t6.add 1) fun n106=>
 ah .i64 h104 (t6.add 2) fun n107=>
 ah .i64 h104 (t6.add 3) fun n108=>
 Q (.agg #[(.int .i64 n105),(.int .i64 n106),(.int .i64 n107),(.int .i64 n108)]) h104) (
 aL (n78==6) (
 aX A1 h77 y3 fun x109=>
 aq P eD #[(bz A1 x109),(.int .i64 y7),(.int .i64 y8)] h77 fun v111 h110=>
 ∃n112:Int,∃n113:Int,∃n114:Int,∃n115:Int,v111=(.agg #[(.int .i64 n112),(.int .i64 n113),(.int .i64 n114),(.int .i64 n115)])∧
 bu h110 t6 (.int .i64 n112) fun h116=>
 bu h116 (t6.add 1) (.int .i64 n113) fun h117=>
 bu h117 (t6.add 2) (.int .i64 n114) fun h118=>
 bu h118 (t6.add 3) (.int .i64 n115) fun h119=>
 ah .i64 h119 t6 fun n120=>
 ah .i64 h119 (t6.add 1) fun n121=>
 ah .i64 h119 (t6.add 2) fun n122=>
 ah .i64 h119 (t6.add 3) fun n123=>
 Q (.agg #[(.int .i64 n120),(.int .i64 n121),(.int .i64 n122),(.int .i64 n123)]) h119) (
 aL (n78==4) (
 ah .i64 h77 (y3.add 3) fun n124=>
 ah .i64 h77 (y3.add 3) fun n125=>
 bu h77 t6 (.int .i64 y7) fun h126=>
 bu h126 (t6.add 1) (.int .i64 y8) fun h127=>
 bu h127 (t6.add 2) (.int .i64 (IntKind.wrap .i64 (n124*y7))) fun h128=>
 bu h128 (t6.add 3) (.int .i64 (IntKind.wrap .i64 (n125*y8))) fun h129=>
 ah .i64 h129 t6 fun n130=>
 ah .i64 h129 (t6.add 1) fun n131=>
 ah .i64 h129 (t6.add 2) fun n132=>
 ah .i64 h129 (t6.add 3) fun n133=>
 Q (.agg #[(.int .i64 n130),(.int .i64 n131),(.int .i64 n132),(.int .i64 n133)]) h129) (
 aL (n78==12) (
 ah .i64 h77 (y3.add 3) fun n134=>
 ah .i64 h77 (y3.add 3) fun n135=>
 bu h77 t6 (.int .i64 y7) fun h136=>
 bu h136 (t6.add 1) (.int .i64 y8) fun h137=>
 bu h137 (t6.add 2) (.int .i64 (IntKind.wrap .i64 (n134*y7))) fun h138=>
 bu h138 (t6.add 3) (.int .i64 (IntKind.wrap .i64 (n135*y8))) fun h139=>
 ah .i64 h139 t6 fun n140=>
 ah .i64 h139 (t6.add 1) fun n141=>
 ah .i64 h139 (t6.add 2) fun n142=>
 ah .i64 h139 (t6.add 3) fun n143=>
 Q (.agg #[(.int .i64 n140),(.int .i64 n141),(.int .i64 n142),(.int .i64 n143)]) h139) (
 aL (n78==7) (
 aI P .i64 pp #[(.int .i64 32),(.slice y9p y9n y9c)] h77 fun n145 h144=>
 aI P .i64 pp #[(.int .i64 32),(.slice y10p y10n y10c)] h144 fun n147 h146=>
 bu h146 y11 (.int .i64 n145) fun h148=>
 bu h148 (y11.add 1) (.int .i64 n147) fun h149=>
 ah .i64 h149 y11 fun n150=>
 ah .i64 h149 (y11.add 1) fun n151=>
 ah .i64 h149 (y11.add 2) fun n152=>
 ah .i64 h149 (y11.add 3) fun n153=>
 bu h149 t6 (.int .i64 n150) fun h154=>
 bu h154 (t6.add 1) (.int .i64 n151) fun h155=>
 bu h155 (t6.add 2) (.int .i64 n152) fun h156=>
 bu h156 (t6.add 3) (.int .i64 n153) fun h157=>
 ah .i64 h157 t6 fun n158=>
 ah .i64 h157 (t6.add 1) fun n159=>
 ah .i64 h157 (t6.add 2) fun n160=>
 ah .i64 h157 (t6.add 3) fun n161=>
 Q (.agg #[(.int .i64 n158),(.int .i64 n159),(.int .i64 n160),(.int .i64 n161)]) h157) (
 aL (n78==9) (
 ah .i64 h77 (y3.add 12) fun n162=>
 ah .i64 h77 (y3.add 13) fun n163=>
 ah .i64 h77 (y3.add 12) fun n164=>
 ah .i64 h77 (y3.add 13) fun n165=>
 aI P .i64 gB #[(.int .i64 y7),(.int .i64 n162),(.int .i64 n163)] h77 fun n167 h166=>
 aD h166 (y3.add 13)=some (.int .i64 n165)∧
 aD h166 (y3.add 12)=some (.int .i64 n164)∧
 aI P .i64 gB #[(.int .i64 y8),(.int .i64 n164),(.int .i64 n165)] h166 fun n169 h168=>
 aD h168 (y3.add 13)=some (.int .i64 n163)∧
 aD h168 (y3.add 12)=some (.int .i64 n162)∧
 aq P eS #[(.int .i64 n167),(.int .i64 n169)] h168 fun v171 h170=>
 ∃n172:Int,∃n173:Int,∃n174:Int,∃n175:Int,v171=(.agg #[(.int .i64 n172),(.int .i64 n173),(.int .i64 n174),(.int .i64 n175)])∧
 aD h170 (y3.add 13)=some (.int .i64 n165)∧
 aD h170 (y3.add 12)=some (.int .i64 n164)∧
 aD h170 (y3.add 13)=some (.int .i64 n163)∧
 aD h170 (y3.add 12)=some (.int .i64 n162)∧
 bu h170 t6 (.int .i64 n172) fun h176=>
 bu h176 (t6.add 1) (.int .i64 n173) fun h177=>
 bu h177 (t6.add 2) (.int .i64 n174) fun h178=>
 bu h178 (t6.add 3) (.int .i64 n175) fun h179=>
 ah .i64 h179 t6 fun n180=>
 ah .i64 h179 (t6.add 1) fun n181=>
 ah .i64 h179 (t6.add 2) fun n182=>
 ah .i64 h179 (t6.add 3) fun n183=>
 Q (.agg #[(.int .i64 n180),(.int .i64 n181),(.int .i64 n182),(.int .i64 n183)]) h179) (
 aL (n78==10) (
 ah .i64 h77 (y3.add 10) fun n184=>
 ah .i64 h77 (y3.add 11) fun n185=>
 ah .i64 h77 (y3.add 10) fun n186=>
 ah .i64 h77 (y3.add 11) fun n187=>
 aI P .i64 hD #[(.int .i64 y7),(.int .i64 n184),(.int .i64 n185)] h77 fun n189 h188=>
 aD h188 (y3.add 11)=some (.int .i64 n187)∧
 aD h188 (y3.add 10)=some (.int .i64 n186)∧
 aI P .i64 hD #[(.int .i64 y8),(.int .i64 n186),(.int .i64 n187)] h188 fun n191 h190=>
 aD h190 (y3.add 11)=some (.int .i64 n185)∧
 aD h190 (y3.add 10)=some (.int .i64 n184)∧
 aq P eS #[(.int .i64 n189),(.int .i64 n191)] h190 fun v193 h192=>
 ∃n194:Int,∃n195:Int,∃n196:Int,∃n197:Int,v193=(.agg #[(.int .i64 n194),(.int .i64 n195),(.int .i64 n196),(.int .i64 n197)])∧
 aD h192 (y3.add 11)=some (.int .i64 n187)∧
 aD h192 (y3.add 10)=some (.int .i64 n186)∧
 aD h192 (y3.add 11)=some (.int .i64 n185)∧
 aD h192 (y3.add 10)=some (.int .i64 n184)∧
 bu h192 t6 (.int .i64 n194) fun h198=>
 bu h198 (t6.add 1) (.int .i64 n195) fun h199=>
 bu h199 (t6.add 2) (.int .i64 n196) fun h200=>
 bu h200 (t6.add 3) (.int .i64 n197) fun h201=>
 ah .i64 h201 t6 fun n202=>
 ah .i64 h201 (t6.add 1) fun n203=>
 ah .i64 h201 (t6.add 2) fun n204=>
 ah .i64 h201 (t6.add 3) fun n205=>
 Q (.agg #[(.int .i64 n202),(.int .i64 n203),(.int .i64 n204),(.int .i64 n205)]) h201) (
 aL (n78==11) (
 aq P eS #[(.int .i64 0),(.int .i64 (IntKind.wrap .i64 (y1-1)))] h77 fun v207 h206=>
 ∃n208:Int,∃n209:Int,∃n210:Int,∃n211:Int,v207=(.agg #[(.int .i64 n208),(.int .i64 n209),(.int .i64 n210),(.int .i64 n211)])∧
 bu h206 t6 (.int .i64 n208) fun h212=>
 bu h212 (t6.add 1) (.int .i64 n209) fun h213=>
 bu h213 (t6.add 2) (.int .i64 n210) fun h214=>
 bu h214 (t6.add 3) (.int .i64 n211) fun h215=>
 ah .i64 h215 t6 fun n216=>
 ah .i64 h215 (t6.add 1) fun n217=>
 ah .i64 h215 (t6.add 2) fun n218=>
 ah .i64 h215 (t6.add 3) fun n219=>
 Q (.agg #[(.int .i64 n216),(.int .i64 n217),(.int .i64 n218),(.int .i64 n219)]) h215) (
 aq P eS #[(.int .i64 y7),(.int .i64 y8)] h77 fun v221 h220=>
 ∃n222:Int,∃n223:Int,∃n224:Int,∃n225:Int,v221=(.agg #[(.int .i64 n222),(.int .i64 n223),(.int .i64 n224),(.int .i64 n225)])∧
 bu h220 t6 (.int .i64 n222) fun h226=>
 bu h226 (t6.add 1) (.int .i64 n223) fun h227=>
 bu h227 (t6.add 2) (.int .i64 n224) fun h228=>
 bu h228 (t6.add 3) (.int .i64 n225) fun h229=>
 ah .i64 h229 t6 fun n230=>
 ah .i64 h229 (t6.add 1) fun n231=>
 ah .i64 h229 (t6.add 2) fun n232=>
 ah .i64 h229 (t6.add 3) fun n233=>
 Q (.agg #[(.int .i64 n230),(.int .i64 n231),(.int .i64 n232),(.int .i64 n233)]) h229)))))))))
def oO (Q:VH) (K1:YH Rj) (y1:Int) (y3 t6:Addr) (y7 y8:Int) (y9p:OA) (y9n y9c:Nat) (y10p:OA) (y10n y10c:Nat) (y11:Addr) (t25_p:OA) (t25_n t25_c:Nat) (t26 t27:Int) (h15:ae):Prop:=
 aL (decide (t27<t26)) (
 bl t25_p t27 t25_n fun a16=>
 ah .i64 h15 (a16.add (t27.toNat*4)) fun n17=>
 ah .i64 h15 (Addr.add (a16.add (t27.toNat*4)) 1) fun n18=>
 ah .i64 h15 (Addr.add (a16.add (t27.toNat*4)) 2) fun n19=>
 ah .i64 h15 (Addr.add (a16.add (t27.toNat*4)) 3) fun n20=>
 aW h15 (.cells #[(.int .i64 0),(.int .i64 0),(.int .i64 0),(.int .i64 0)] 122 (0,0)) fun b21 h22=>
 bu h22 ⟨b21,0,none⟩ (.int .i64 n17) fun h23=>
 bu h23 ⟨b21,1,none⟩ (.int .i64 n18) fun h24=>
 bu h24 ⟨b21,2,none⟩ (.int .i64 n19) fun h25=>
 bu h25 ⟨b21,3,none⟩ (.int .i64 n20) fun h26=>
 ah .i64 h26 ⟨b21,0,none⟩ fun n27=>
 ah .i64 h26 ⟨b21,1,none⟩ fun n28=>
 ah .i64 h26 ⟨b21,0,none⟩ fun n29=>
 ah .i64 h26 ⟨b21,1,none⟩ fun n30=>
 (
 aW h26 (.cells #[(.int .i64 n29)] 3 (0,0)) fun b31 h32=>
 (
 jm 3 1 8 (.int .i64 0) y9p y9n y9c (some ⟨b31,0,none⟩) 1 h32 fun p33 l33 c33 h34=>
 aD h34 ⟨b21,1,none⟩=some (.int .i64 n30)∧
 aD h34 ⟨b21,0,none⟩=some (.int .i64 n29)∧
 aW h34 (.cells #[(.int .i64 n30)] 3 (0,0)) fun b35 h36=>
 jm 3 1 8 (.int .i64 0) y10p y10n y10c (some ⟨b35,0,none⟩) 1 h36 fun p37 l37 c37 h38=>
 aD h38 ⟨b21,1,none⟩=some (.int .i64 n30)∧
 aD h38 ⟨b21,0,none⟩=some (.int .i64 n29)∧
 ah .i64 h38 (y11.add 2) fun n39=>
 ah .i64 h38 ⟨b21,0,none⟩ fun n40=>
 ah .i64 h38 (y11.add 3) fun n41=>
 ah .i64 h38 ⟨b21,1,none⟩ fun n42=>
 bu h38 (y11.add 2) (.int .i64 (IntKind.wrap .i64 (n39+n40))) fun h43=>
 aD h43 ⟨b21,1,none⟩=some (.int .i64 n42)∧
 bu h43 (y11.add 3) (.int .i64 (IntKind.wrap .i64 (n41+n42))) fun h44=>
 K1 (y1,y3,t6,(if n27<y7 then n27 else y7),(if n28>y8 then n28 else y8),(p33,l33,c33),(p37,l37,c37),y11,(t25_p,t25_n,t25_c),t26,(IntKind.wrap .i64 (t27+1)),()) h44)∧(
 aW h32 (.cells #[(.int .i64 n30)] 3 (0,0)) fun b45 h46=>
 jm 3 1 8 (.int .i64 0) y9p y9n y9c (some ⟨b31,0,none⟩) 1 h46 fun p47 l47 c47 h48=>
 aD h48 ⟨b21,1,none⟩=some (.int .i64 n30)∧
 aD h48 ⟨b21,0,none⟩=some (.int .i64 n29)∧
 jm 3 1 8 (.int .i64 0) y10p y10n y10c (some ⟨b45,0,none⟩) 1 h48 fun p49 l49 c49 h50=>
 aD h50 ⟨b21,1,none⟩=some (.int .i64 n30)∧
 aD h50 ⟨b21,0,none⟩=some (.int .i64 n29)∧
 ah .i64 h50 (y11.add 2) fun n51=>
 ah .i64 h50 ⟨b21,0,none⟩ fun n52=>
 ah .i64 h50 (y11.add 3) fun n53=>
 ah .i64 h50 ⟨b21,1,none⟩ fun n54=>
 bu h50 (y11.add 2) (.int .i64 (IntKind.wrap .i64 (n51+n52))) fun h55=>
 aD h55 ⟨b21,1,none⟩=some (.int .i64 n54)∧
 bu h55 (y11.add 3) (.int .i64 (IntKind.wrap .i64 (n53+n54))) fun h56=>
 K1 (y1,y3,t6,(if n27<y7 then n27 else y7),(if n28>y8 then n28 else y8),(p47,l47,c47),(p49,l49,c49),y11,(t25_p,t25_n,t25_c),t26,(IntKind.wrap .i64 (t27+1)),()) h56))∧(
 aW h26 (.cells #[(.int .i64 n30)] 3 (0,0)) fun b57 h58=>
 aW h58 (.cells #[(.int .i64 n29)] 3 (0,0)) fun b59 h60=>
 jm 3 1 8 (.int .i64 0) y9p y9n y9c (some ⟨b59,0,none⟩) 1 h60 fun p61 l61 c61 h62=>
 aD h62 ⟨b21,1,none⟩=some (.int .i64 n30)∧
 aD h62 ⟨b21,0,none⟩=some (.int .i64 n29)∧
 jm 3 1 8 (.int .i64 0) y10p y10n y10c (some ⟨b57,0,none⟩) 1 h62 fun p63 l63 c63 h64=>
 aD h64 ⟨b21,1,none⟩=some (.int .i64 n30)∧
 aD h64 ⟨b21,0,none⟩=some (.int .i64 n29)∧
 ah .i64 h64 (y11.add 2) fun n65=>
 ah .i64 h64 ⟨b21,0,none⟩ fun n66=>
 ah .i64 h64 (y11.add 3) fun n67=>
 ah .i64 h64 ⟨b21,1,none⟩ fun n68=>
 bu h64 (y11.add 2) (.int .i64 (IntKind.wrap .i64 (n65+n66))) fun h69=>
 aD h69 ⟨b21,1,none⟩=some (.int .i64 n68)∧
 bu h69 (y11.add 3) (.int .i64 (IntKind.wrap .i64 (n67+n68))) fun h70=>
 K1 (y1,y3,t6,(if n27<y7 then n27 else y7),(if n28>y8 then n28 else y8),(p61,l61,c61),(p63,l63,c63),y11,(t25_p,t25_n,t25_c),t26,(IntKind.wrap .i64 (t27+1)),()) h70)) (
 aX A1 h15 y3 fun x71=>
 aq P ln #[(bz A1 x71)] h15 fun v73 h72=>
 ∃n74:Int,∃n75:Int,v73=(.tuple #[(.int .i64 n74),(.int .i64 n75)])∧
 ∃J76:YH Sb,(∀s h,J76 s h→tl Q K1 s.1 s.2.1 s.2.2.1 s.2.2.2.1 s.2.2.2.2.1 s.2.2.2.2.2.1.1 s.2.2.2.2.2.1.2.1 s.2.2.2.2.2.1.2.2 s.2.2.2.2.2.2.1.1 s.2.2.2.2.2.2.1.2.1 s.2.2.2.2.2.2.1.2.2 s.2.2.2.2.2.2.2.1 h)∧
 aL (decide ((IntKind.wrap .i64 (n74+n75))>0)) (
 J76 (y1,y3,t6,(if 0<y7 then 0 else y7),(if 0>y8 then 0 else y8),(y9p,y9n,y9c),(y10p,y10n,y10c),y11,()) h72) (
 J76 (y1,y3,t6,y7,y8,(y9p,y9n,y9c),(y10p,y10n,y10c),y11,()) h72))
def CQ (y0:TS A1) (y1:Int) (y2p:OA) (y2n y2c:Nat) (h:ae) (Q:VH):Prop:=
 aW h (.cells (aP A1 y0).toArray 62 (0,0)) fun b1 h2=>
 aW h2 (.cells #[(.int .i64 0),(.int .i64 0),(.int .i64 0),(.int .i64 0)] 122 (0,0)) fun b3 h4=>
 bl y2p 0 y2n fun a5=>
 bl y2p 0 y2n fun a6=>
 ah .i64 h4 (a5.add ((0:Int).toNat*4)) fun n7=>
 ah .i64 h4 (Addr.add (a6.add ((0:Int).toNat*4)) 1) fun n8=>
 aW h4 (.cells #[(.int .i64 0),(.int .i64 0),(.int .i64 0),(.int .i64 0)] 122 (0,0)) fun b9 h10=>
 bu h10 ⟨b9,0,none⟩ (.int .i64 0) fun h11=>
 bu h11 ⟨b9,1,none⟩ (.int .i64 0) fun h12=>
 bu h12 ⟨b9,2,none⟩ (.int .i64 0) fun h13=>
 bu h13 ⟨b9,3,none⟩ (.int .i64 0) fun h14=>
 bB (S:=Rj) (fun K1 s h=>oO Q K1 s.1 s.2.1 s.2.2.1 s.2.2.2.1 s.2.2.2.2.1 s.2.2.2.2.2.1.1 s.2.2.2.2.2.1.2.1 s.2.2.2.2.2.1.2.2 s.2.2.2.2.2.2.1.1 s.2.2.2.2.2.2.1.2.1 s.2.2.2.2.2.2.1.2.2 s.2.2.2.2.2.2.2.1 s.2.2.2.2.2.2.2.2.1.1 s.2.2.2.2.2.2.2.2.1.2.1 s.2.2.2.2.2.2.2.2.1.2.2 s.2.2.2.2.2.2.2.2.2.1 s.2.2.2.2.2.2.2.2.2.2.1 h) (y1,⟨b1,0,none⟩,⟨b3,0,none⟩,n7,n8,(none,0,0),(none,0,0),⟨b9,0,none⟩,(y2p,y2n,y2c),(y2n:Int),(0:Int),()) h14
noncomputable def CR:cz:=tb (ak .done [(1,(bD [0,1,2,4,5,6,3,8,7,9] .done)),(7,(bD [0,1,4,5,2,3,8,6,7,9] .done)),(8,(bD [0,1,5,6] (.early 2 (.early 7 (.alt 3 (.alt 4 (.alt 8 (.alt 9 (bD [10,11] .done) .stop) .stop) (.alt 8 (.alt 4 (.alt 9 (bD [10,11] .done) .stop) .stop) .stop)) (.alt 8 (.alt 3 (.alt 4 (.alt 9 (bD [10,11] .done) .stop) .stop) .stop) .stop)))))),(9,(bD [0,2,5,7,1,3,4,6,10] (.early 8 (bD [9] (.alt 11 (bD [12] (.alt 13 .done .stop)) .stop))))),(28,(bD [0,1,3,6,7,9] (.early 2 (.early 4 (.early 8 (.early 10 (.alt 5 (.alt 11 (.alt 12 (.alt 13 .done .stop) .stop) .stop) .stop))))))),(29,(bD [0,1,3,6,7,9] (.early 2 (.early 4 (.early 8 (.early 10 (.alt 5 (.alt 11 (.alt 12 (.alt 13 .done .stop) .stop) .stop) .stop)))))))]) (ak [] [(5,[(1,I6),(3,.sc (.adr)),(6,.sc (.adr)),(7,I6),(8,I6),(9,SL),(10,SL),(11,.sc (.adr)),(25,SL),(26,I6),(27,I6)])]) (ak none [(14,some [(1,I6),(3,.sc (.adr)),(6,.sc (.adr)),(7,I6),(8,I6),(9,SL),(10,SL),(11,.sc (.adr))])])
theorem A9 (y0:TS A1) (y1:Int) (y2p:OA) (y2n y2c:Nat) {h:ae} {Q:VH} (H:CQ y0 y1 y2p y2n y2c h Q):aq P lY #[(bz A1 y0),(.int .i64 y1),(.slice y2p y2n y2c)] h Q:=
 @aA P lY Tryz.f76 CR [(bz A1 y0),(.int .i64 y1),(.slice y2p y2n y2c)] h Q aR Tryz.func76 Tryz.call76 (by kernel_rfl) (Eq.mpr (by kernel_rfl) H)
def pC (Q:VH) (K1:YH Rk) (K2:YH RJ) (y1:Addr) (y5p:OA) (y5n y5c:Nat) (y6p:OA) (y6n y6c:Nat) (y8:Int) (y9:Addr) (y10p:OA) (y10n y10c:Nat) (t31_p:OA) (t31_n t31_c:Nat) (t32 t33:Int) (t48_p:OA) (t48_n t48_c:Nat) (t49 t50:Int) (h40:ae):Prop:=
 aL (decide (t50<t49)) (
 bl t48_p t50 t48_n fun a41=>
 ah .i64 h40 (a41.add (t50.toNat*1)) fun n42=>
 bl y6p n42 y6n fun a43=>
 ah .i64 h40 (a43.add (n42.toNat*4)) fun n44=>
 ah .i64 h40 (Addr.add (a43.add (n42.toNat*4)) 1) fun n45=>
 ah .i64 h40 (Addr.add (a43.add (n42.toNat*4)) 2) fun n46=>
 ah .i64 h40 (Addr.add (a43.add (n42.toNat*4)) 3) fun n47=>
 bl y10p t50 y10n fun a48=>
 bu h40 (a48.add (t50.toNat*4)) (.int .i64 n44) fun h49=>
 bu h49 (Addr.add (a48.add (t50.toNat*4)) 1) (.int .i64 n45) fun h50=>
 bu h50 (Addr.add (a48.add (t50.toNat*4)) 2) (.int .i64 n46) fun h51=>
 bu h51 (Addr.add (a48.add (t50.toNat*4)) 3) (.int .i64 n47) fun h52=>
 K2 (y1,(y5p,y5n,y5c),(y6p,y6n,y6c),y8,y9,(y10p,y10n,y10c),(t31_p,t31_n,t31_c),t32,t33,(t48_p,t48_n,t48_c),t49,(IntKind.wrap .i64 (t50+1)),()) h52) (
 aX A1 h40 y9 fun x53=>
 av h40 (y9.add 1) fun p54 l54 c54=>
 bl p54 0 l54 fun a55=>
 ah .i64 h40 (a55.add ((0:Int).toNat*1)) fun n56=>
 bl y5p n56 y5n fun a57=>
 ah .i64 h40 (a57.add (n56.toNat*1)) fun n58=>
 aq P lY #[(bz A1 x53),(.int .i64 n58),(.slice y10p y10n y10c)] h40 fun v60 h59=>
 ∃n61:Int,∃n62:Int,∃n63:Int,∃n64:Int,v60=(.agg #[(.int .i64 n61),(.int .i64 n62),(.int .i64 n63),(.int .i64 n64)])∧
 bl y6p y8 y6n fun a65=>
 bu h59 (a65.add (y8.toNat*4)) (.int .i64 n61) fun h66=>
 bu h66 (Addr.add (a65.add (y8.toNat*4)) 1) (.int .i64 n62) fun h67=>
 bu h67 (Addr.add (a65.add (y8.toNat*4)) 2) (.int .i64 n63) fun h68=>
 bu h68 (Addr.add (a65.add (y8.toNat*4)) 3) (.int .i64 n64) fun h69=>
 bl y6p y8 y6n fun a70=>
 ah .i64 h69 (Addr.add (a70.add (y8.toNat*4)) 2) fun n71=>
 aL (decide (n71<(-68719476736:Int))) (
 Q (.tuple #[(.slice none 0 0),(.int .i64 16)]) h69) (
 bl y6p y8 y6n fun a72=>
 ah .i64 h69 (Addr.add (a72.add (y8.toNat*4)) 3) fun n73=>
 aL (decide (n73>68719476736)) (
 Q (.tuple #[(.slice none 0 0),(.int .i64 16)]) h69) (
 K1 (y1,(y5p,y5n,y5c),(y6p,y6n,y6c),(t31_p,t31_n,t31_c),t32,(IntKind.wrap .i64 (t33+1)),()) h69)))
def jx (Q:VH) (K1:YH Rk) (y1:Addr) (y5p:OA) (y5n y5c:Nat) (y6p:OA) (y6n y6c:Nat) (t31_p:OA) (t31_n t31_c:Nat) (t32 t33:Int) (h27:ae):Prop:=
 aL (decide (t33<t32)) (
 bl t31_p t33 t31_n fun a28=>
 ah .i64 h27 (a28.add (t33.toNat*1)) fun n29=>
 av h27 (y1.add 3) fun p30 l30 c30=>
 bl p30 (IntKind.wrap .i64 (n29-1)) l30 fun a31=>
 aX A1 h27 (a31.add ((IntKind.wrap .i64 (n29-1)).toNat*15)) fun x32=>
 aW h27 (.cells (aP A1 (zT A1)).toArray 62 (0,0)) fun b33 h34=>
 bt (aP A1 x32) h34 ⟨b33,0,none⟩ 0 fun h35=>
 av h35 ⟨b33,1,none⟩ fun p36 l36 c36=>
 zW 122 4 32 (.agg #[(.int .i64 0),(.int .i64 0),(.int .i64 0),(.int .i64 0)]) (l36:Int) (l36:Int) h35 fun b37 h38=>
 av h38 ⟨b33,1,none⟩ fun p39 l39 c39=>
 bB (S:=RJ) (fun K2 s h=>pC Q K1 K2 s.1 s.2.1.1 s.2.1.2.1 s.2.1.2.2 s.2.2.1.1 s.2.2.1.2.1 s.2.2.1.2.2 s.2.2.2.1 s.2.2.2.2.1 s.2.2.2.2.2.1.1 s.2.2.2.2.2.1.2.1 s.2.2.2.2.2.1.2.2 s.2.2.2.2.2.2.1.1 s.2.2.2.2.2.2.1.2.1 s.2.2.2.2.2.2.1.2.2 s.2.2.2.2.2.2.2.1 s.2.2.2.2.2.2.2.2.1 s.2.2.2.2.2.2.2.2.2.1.1 s.2.2.2.2.2.2.2.2.2.1.2.1 s.2.2.2.2.2.2.2.2.2.1.2.2 s.2.2.2.2.2.2.2.2.2.2.1 s.2.2.2.2.2.2.2.2.2.2.2.1 h) (y1,(y5p,y5n,y5c),(y6p,y6n,y6c),n29,⟨b33,0,none⟩,(some ⟨b37,0,none⟩,(l36:Int).toNat,(l36:Int).toNat),(t31_p,t31_n,t31_c),t32,t33,(p39,l39,c39),(l39:Int),(0:Int),()) h38) (
 Q (.tuple #[(.slice y6p y6n y6c),(.int .i64 0)]) h27)
def qu (y0:TS A2) (h:ae) (Q:VH):Prop:=
 aW h (.cells (aP A2 y0).toArray 32 (0,0)) fun b1 h2=>
 aX A2 h2 ⟨b1,0,none⟩ fun x3=>
 aI P .i64 jd #[(bz A2 x3)] h2 fun n5 h4=>
 aL (n5 !=0) (
 Q (.tuple #[(.slice none 0 0),(.int .i64 n5)]) h4) (
 aX A2 h4 ⟨b1,0,none⟩ fun x6=>
 bM P dS #[(bz A2 x6)] h4 fun p8 l8 c8 h7=>
 zW 122 4 32 (.agg #[(.int .i64 0),(.int .i64 0),(.int .i64 0),(.int .i64 0)]) (l8:Int) (l8:Int) h7 fun b9 h10=>
 ah .i64 h10 ⟨b1,1,none⟩ fun n11=>
 ah .i64 h10 ⟨b1,2,none⟩ fun n12=>
 aq P eS #[(.int .i64 n11),(.int .i64 n12)] h10 fun v14 h13=>
 ∃n15:Int,∃n16:Int,∃n17:Int,∃n18:Int,v14=(.agg #[(.int .i64 n15),(.int .i64 n16),(.int .i64 n17),(.int .i64 n18)])∧
 bl (some ⟨b9,0,none⟩) 0 ((l8:Int).toNat) fun a19=>
 bu h13 (a19.add ((0:Int).toNat*4)) (.int .i64 n15) fun h20=>
 bu h20 (Addr.add (a19.add ((0:Int).toNat*4)) 1) (.int .i64 n16) fun h21=>
 bu h21 (Addr.add (a19.add ((0:Int).toNat*4)) 2) (.int .i64 n17) fun h22=>
 bu h22 (Addr.add (a19.add ((0:Int).toNat*4)) 3) (.int .i64 n18) fun h23=>
 aX A2 h23 ⟨b1,0,none⟩ fun x24=>
 bM P hC #[(bz A2 x24)] h23 fun p26 l26 c26 h25=>
 bB (S:=Rk) (fun K1 s h=>jx Q K1 s.1 s.2.1.1 s.2.1.2.1 s.2.1.2.2 s.2.2.1.1 s.2.2.1.2.1 s.2.2.1.2.2 s.2.2.2.1.1 s.2.2.2.1.2.1 s.2.2.2.1.2.2 s.2.2.2.2.1 s.2.2.2.2.2.1 h) (⟨b1,0,none⟩,(p8,l8,c8),(some ⟨b9,0,none⟩,(l8:Int).toNat,(l8:Int).toNat),(p26,l26,c26),(l26:Int),(0:Int),()) h25)
noncomputable def zc:cz:=tb (ak .done [(17,(bD [0,1,3,4,10,2] (.alt 5 (bD [6] (.alt 7 (bD [8,9] (.alt 11 (bD [12] (.alt 13 .done .stop)) .stop)) .stop)) .stop)))]) (ak [] [(8,[(1,.sc (.adr)),(5,SL),(6,SL),(31,SL),(32,I6),(33,I6)]),(13,[(1,.sc (.adr)),(5,SL),(6,SL),(8,I6),(9,.sc (.adr)),(10,SL),(31,SL),(32,I6),(33,I6),(48,SL),(49,I6),(50,I6)])]) (ak none [])
theorem oq (y0:TS A2) {h:ae} {Q:VH} (H:qu y0 h Q):aq P gm #[(bz A2 y0)] h Q:=
 @aA P gm Tryz.f32 zc [(bz A2 y0)] h Q aR Tryz.func32 Tryz.call32 (by kernel_rfl) (Eq.mpr (by kernel_rfl) H)
def gw (y0p:OA) (y0n y0c:Nat) (h:ae) (Q:VH):Prop:=
 aL ((y0p).isNone) (
 Q (.slice none 0 0) h) (
 aW h (.cells #[] 62 (0,0)) fun b1 h2=>
 jm 62 15 168 (bz A1 (zT A1)) (some ⟨b1,0,none⟩) 0 0 y0p y0n h2 fun p3 l3 c3 h4=>
 Q (.slice p3 l3 c3) h4)
noncomputable def jE:cz:=tb (ak .done []) (ak [] []) (ak none [])
theorem ji (y0p:OA) (y0n y0c:Nat) {h:ae} {Q:VH} (H:gw y0p y0n y0c h Q):aq P cQ #[(.slice y0p y0n y0c)] h Q:=
 @aA P cQ Tryz.f125 jE [(.slice y0p y0n y0c)] h Q aR Tryz.func125 Tryz.call125 (by kernel_rfl) (Eq.mpr (by kernel_rfl) H)
def lu (y0p:OA) (y0n y0c:Nat) (h:ae) (Q:VH):Prop:=
 aL ((y0p).isNone) (
 Q (.slice none 0 0) h) (
 aW h (.cells #[] 3 (0,0)) fun b1 h2=>
 jm 3 1 8 (.int .i64 0) (some ⟨b1,0,none⟩) 0 0 y0p y0n h2 fun p3 l3 c3 h4=>
 Q (.slice p3 l3 c3) h4)
noncomputable def oP:cz:=tb (ak .done []) (ak [] []) (ak none [])
theorem nH (y0p:OA) (y0n y0c:Nat) {h:ae} {Q:VH} (H:lu y0p y0n y0c h Q):aq P cX #[(.slice y0p y0n y0c)] h Q:=
 @aA P cX Tryz.f126 oP [(.slice y0p y0n y0c)] h Q aR Tryz.func126 Tryz.call126 (by kernel_rfl) (Eq.mpr (by kernel_rfl) H)
def zV (Q:VH) (K1:(Addr×Addr×Int×Int×Unit)→ae→Prop) (y1 t2:Addr) (t11 t12:Int) (h10:ae):Prop:=
 aL (decide (t12<t11)) (
 av h10 (y1.add 3) fun p11 l11 c11=>
 bl p11 t12 l11 fun a12=>
 cH (some (a12.add (t12.toNat*15))) fun a13=>
 cH (some (a12.add (t12.toNat*15))) fun a14=>
 cH (some (a12.add (t12.toNat*15))) fun a15=>
 av h10 (a13.add 1) fun p16 l16 c16=>
 av h10 (a14.add 8) fun p17 l17 c17=>
 av h10 (a15.add 9) fun p18 l18 c18=>
 bM P cX #[(.slice p16 l16 c16)] h10 fun p20 l20 c20 h19=>
 aD h19 (a15.add 9)=some (.slice p18 l18 c18)∧
 aD h19 (a14.add 8)=some (.slice p17 l17 c17)∧
 bM P cX #[(.slice p17 l17 c17)] h19 fun p22 l22 c22 h21=>
 aD h21 (a15.add 9)=some (.slice p18 l18 c18)∧
 aD h21 (a13.add 1)=some (.slice p16 l16 c16)∧
 bM P cX #[(.slice p18 l18 c18)] h21 fun p24 l24 c24 h23=>
 aD h23 (a14.add 8)=some (.slice p17 l17 c17)∧
 aD h23 (a13.add 1)=some (.slice p16 l16 c16)∧
 cH (some (a12.add (t12.toNat*15))) fun a25=>
 bu h23 (a25.add 1) (.slice p20 l20 c20) fun h26=>
 cH (some (a12.add (t12.toNat*15))) fun a27=>
 bu h26 (a27.add 8) (.slice p22 l22 c22) fun h28=>
 cH (some (a12.add (t12.toNat*15))) fun a29=>
 bu h28 (a29.add 9) (.slice p24 l24 c24) fun h30=>
 K1 (y1,t2,t11,(IntKind.wrap .i64 (t12+1)),()) h30) (
 aX A2 h10 y1 fun x31=>
 bt (aP A2 x31) h10 t2 0 fun h32=>
 aX A2 h32 t2 fun x33=>
 Q (bz A2 x33) h32)
def Hc (y0:TS A2) (h:ae) (Q:VH):Prop:=
 aW h (.cells (aP A2 y0).toArray 32 (0,0)) fun b1 h2=>
 aW h2 (.cells (aP A2 (zT A2)).toArray 32 (0,0)) fun b3 h4=>
 av h4 ⟨b1,3,none⟩ fun p5 l5 c5=>
 bM P cQ #[(.slice p5 l5 c5)] h4 fun p7 l7 c7 h6=>
 bu h6 ⟨b1,3,none⟩ (.slice p7 l7 c7) fun h8=>
 av h8 ⟨b1,3,none⟩ fun p9 l9 c9=>
 bB (S:=(Addr×Addr×Int×Int×Unit)) (fun K1 s h=>zV Q K1 s.1 s.2.1 s.2.2.1 s.2.2.2.1 h) (⟨b1,0,none⟩,⟨b3,0,none⟩,(l9:Int),(0:Int),()) h8
noncomputable def F5:cz:=tb (ak .done [(6,(bD [0,1,2,3,4,5,8,9,10,13,14,15] (.early 6 (.early 11 (.early 16 (.alt 7 (.alt 12 (.alt 17 (bD [18,19] (.alt 20 (bD [21,22] (.alt 23 (bD [24,25] (.alt 26 .done .stop)) .stop)) .stop)) .stop) .stop) .stop))))))]) (ak [] [(3,[(1,.sc (.adr)),(2,.sc (.adr)),(11,I6),(12,I6)])]) (ak none [])
theorem Eo (y0:TS A2) {h:ae} {Q:VH} (H:Hc y0 h Q):aq P qo #[(bz A2 y0)] h Q:=
 @aA P qo Tryz.f77 F5 [(bz A2 y0)] h Q aR Tryz.func77 Tryz.call77 (by kernel_rfl) (Eq.mpr (by kernel_rfl) H)
def iF (Q:VH) (K1:(Value×S3×Int×Int×Unit)→ae→Prop) (y0:Value) (t5_p:OA) (t5_n t5_c:Nat) (t6 t7:Int) (h2:ae):Prop:=
 aL (decide (t7<t6)) (
 bl t5_p t7 t5_n fun a3=>
 ah .i64 h2 (a3.add (t7.toNat*1)) fun n4=>
 fw P y0 [(.int .i64 n4)] h2 fun v5 h6=>
 ∃b7:Bool,v5=(.bool b7)∧
 aL (!b7) (
 Q (.tuple #[]) h6) (
 K1 (y0,(t5_p,t5_n,t5_c),t6,(IntKind.wrap .i64 (t7+1)),()) h6)) (
 Q (.tuple #[]) h2)
def jO (y0:Value) (free0:Addr) (h:ae) (Q:VH):Prop:=
 av h free0 fun p1 l1 c1=>
 bB (S:=(Value×S3×Int×Int×Unit)) (fun K1 s h=>iF Q K1 s.1 s.2.1.1 s.2.1.2.1 s.2.1.2.2 s.2.2.1 s.2.2.2.1 h) (y0,(p1,l1,c1),(l1:Int),(0:Int),()) h
noncomputable def mu:cz:=tb (ak .done []) (ak [] [(1,[(0,.sc (.any)),(5,SL),(6,I6),(7,I6)])]) (ak none [])
theorem lO (y0:Value) (free0:Addr) {h:ae} {Q:VH} (H:jO y0 free0 h Q):aq P bX #[y0,(.pointer (some free0))] h Q:=
 @aA P bX Tryz.f188 mu [y0,(.pointer (some free0))] h Q aR Tryz.func188 Tryz.call188 (by kernel_rfl) (Eq.mpr (by kernel_rfl) H)
def kA (y0p:OA) (y0n y0c:Nat) (h:ae) (Q:VH):Prop:=
 aW h (.cells #[(.slice y0p y0n y0c)] 22 (0,0)) fun b1 h2=>
 Q (.func (.func bX) #[] #[(.pointer (some ⟨b1,0,none⟩))]) h2
noncomputable def nI:cz:=tb (ak .done []) (ak [] []) (ak none [])
theorem ng (y0p:OA) (y0n y0c:Nat) {h:ae} {Q:VH} (H:kA y0p y0n y0c h Q):aq P dX #[(.slice y0p y0n y0c)] h Q:=
 @aA P dX Tryz.f130 nI [(.slice y0p y0n y0c)] h Q aR Tryz.func130 Tryz.call130 (by kernel_rfl) (Eq.mpr (by kernel_rfl) H)
def jk (s_0_p:OA) (s_0_n s_0_c:Nat) (seq_1:Value) (h:ae) (Q:VH):Prop:=
 aW h (.cells #[(.slice s_0_p s_0_n s_0_c)] 22 (0,0)) fun b1 h2=>
 vY P seq_1 [.sc (.int .i64)] (fun rdy3 busy3 l3 y3 R3 h4=>
 h4[l3]? =some rdy3∧
 av (Array.setIfInBounds h4 l3 busy3) ⟨b1,0,none⟩ fun p5 l5 c5=>
 aW (Array.setIfInBounds h4 l3 busy3) (.cells #[(.int .i64 y3.1)] 3 (0,0)) fun b6 h7=>
 jm 3 1 8 (.int .i64 0) p5 l5 c5 (some ⟨b6,0,none⟩) 1 h7 fun p8 l8 c8 h9=>
 bu h9 ⟨b1,0,none⟩ (.slice p8 l8 c8) fun h10=>
 R3 h10) h2 fun D11 h12=>
 av h12 ⟨b1,0,none⟩ fun p13 l13 c13=>
 h12[D11]? =some (Obj.deferred (some []))∧
 Q (.slice p13 l13 c13) (Array.setIfInBounds h12 D11 (Obj.deferred none))
noncomputable def lP:cz:={sch:=ak .done [],lp:=ak [] [],jn:=ak none [],rf:=ak [] [(3,[I6])]}
theorem lz (s_0_p:OA) (s_0_n s_0_c:Nat) (seq_1:Value) {h:ae} {Q:VH} (H:jk s_0_p s_0_n s_0_c seq_1 h Q):aq P dy #[(.slice s_0_p s_0_n s_0_c),seq_1] h Q:=
 @aA P dy Tryz.f225 lP [(.slice s_0_p s_0_n s_0_c),seq_1] h Q aR Tryz.func225 Tryz.call225 (by kernel_rfl) (Eq.mpr (by kernel_rfl) H)
def nh (y0:Value) (h:ae) (Q:VH):Prop:=
 bM P dy #[(.slice none 0 0),y0] h fun p2 l2 c2 h1=>
 Q (.slice p2 l2 c2) h1
noncomputable def qv:cz:=tb (ak .done []) (ak [] []) (ak none [])
theorem pD (y0:Value) {h:ae} {Q:VH} (H:nh y0 h Q):aq P fK #[y0] h Q:=
 @aA P fK Tryz.f186 qv [y0] h Q aR Tryz.func186 Tryz.call186 (by kernel_rfl) (Eq.mpr (by kernel_rfl) H)
def Mc (y0:Int) (h:ae) (Q:VH):Prop:=
 aL (decide (y0≥65536)) (
 aL (decide ((gz y0 16)≥256)) (
 vT (ByteArray.mk #[0,1,2,2,3,3,3,3,4,4,4,4,4,4,4,4,5,5,5,5,5,5,5,5,5,5,5,5,5,5,5,5,6,6,6,6,6,6,6,6,6,6,6,6,6,6,6,6,6,6,6,6,6,6,6,6,6,6,6,6,6,6,6,6,7,7,7,7,7,7,7,7,7,7,7,7,7,7,7,7,7,7,7,7,7,7,7,7,7,7,7,7,7,7,7,7,7,7,7,7,7,7,7,7,7,7,7,7,7,7,7,7,7,7,7,7,7,7,7,7,7,7,7,7,7,7,7,7,8,8,8,8,8,8,8,8,8,8,8,8,8,8,8,8,8,8,8,8,8,8,8,8,8,8,8,8,8,8,8,8,8,8,8,8,8,8,8,8,8,8,8,8,8,8,8,8,8,8,8,8,8,8,8,8,8,8,8,8,8,8,8,8,8,8,8,8,8,8,8,8,8,8,8,8,8,8,8,8,8,8,8,8,8,8,8,8,8,8,8,8,8,8,8,8,8,8,8,8,8,8,8,8,8,8,8,8,8,8,8,8,8,8,8,8,8,8,8,8,8,8,8,8,8,8,8,8]) (IntKind.wrap .u8 (gz (gz y0 16) 8)) fun b1=>
 Q (.int .i64 (IntKind.wrap .i64 ((IntKind.wrap .i64 ((16:Int)+8))+(IntKind.wrap .i64 (b1.toNat:Int))))) h) (
 vT (ByteArray.mk #[0,1,2,2,3,3,3,3,4,4,4,4,4,4,4,4,5,5,5,5,5,5,5,5,5,5,5,5,5,5,5,5,6,6,6,6,6,6,6,6,6,6,6,6,6,6,6,6,6,6,6,6,6,6,6,6,6,6,6,6,6,6,6,6,7,7,7,7,7,7,7,7,7,7,7,7,7,7,7,7,7,7,7,7,7,7,7,7,7,7,7,7,7,7,7,7,7,7,7,7,7,7,7,7,7,7,7,7,7,7,7,7,7,7,7,7,7,7,7,7,7,7,7,7,7,7,7,7,8,8,8,8,8,8,8,8,8,8,8,8,8,8,8,8,8,8,8,8,8,8,8,8,8,8,8,8,8,8,8,8,8,8,8,8,8,8,8,8,8,8,8,8,8,8,8,8,8,8,8,8,8,8,8,8,8,8,8,8,8,8,8,8,8,8,8,8,8,8,8,8,8,8,8,8,8,8,8,8,8,8,8,8,8,8,8,8,8,8,8,8,8,8,8,8,8,8,8,8,8,8,8,8,8,8,8,8,8,8,8,8,8,8,8,8,8,8,8,8,8,8,8,8,8,8,8,8]) (IntKind.wrap .u8 (gz y0 16)) fun b2=>
 Q (.int .i64 (IntKind.wrap .i64 ((16:Int)+(IntKind.wrap .i64 (b2.toNat:Int))))) h)) (
 aL (decide (y0≥256)) (
 vT (ByteArray.mk #[0,1,2,2,3,3,3,3,4,4,4,4,4,4,4,4,5,5,5,5,5,5,5,5,5,5,5,5,5,5,5,5,6,6,6,6,6,6,6,6,6,6,6,6,6,6,6,6,6,6,6,6,6,6,6,6,6,6,6,6,6,6,6,6,7,7,7,7,7,7,7,7,7,7,7,7,7,7,7,7,7,7,7,7,7,7,7,7,7,7,7,7,7,7,7,7,7,7,7,7,7,7,7,7,7,7,7,7,7,7,7,7,7,7,7,7,7,7,7,7,7,7,7,7,7,7,7,7,8,8,8,8,8,8,8,8,8,8,8,8,8,8,8,8,8,8,8,8,8,8,8,8,8,8,8,8,8,8,8,8,8,8,8,8,8,8,8,8,8,8,8,8,8,8,8,8,8,8,8,8,8,8,8,8,8,8,8,8,8,8,8,8,8,8,8,8,8,8,8,8,8,8,8,8,8,8,8,8,8,8,8,8,8,8,8,8,8,8,8,8,8,8,8,8,8,8,8,8,8,8,8,8,8,8,8,8,8,8,8,8,8,8,8,8,8,8,8,8,8,8,8,8,8,8,8,8]) (IntKind.wrap .u8 (gz y0 8)) fun b3=>
 Q (.int .i64 (IntKind.wrap .i64 ((IntKind.wrap .i64 ((0:Int)+8))+(IntKind.wrap .i64 (b3.toNat:Int))))) h) (
 vT (ByteArray.mk #[0,1,2,2,3,3,3,3,4,4,4,4,4,4,4,4,5,5,5,5,5,5,5,5,5,5,5,5,5,5,5,5,6,6,6,6,6,6,6,6,6,6,6,6,6,6,6,6,6,6,6,6,6,6,6,6,6,6,6,6,6,6,6,6,7,7,7,7,7,7,7,7,7,7,7,7,7,7,7,7,7,7,7,7,7,7,7,7,7,7,7,7,7,7,7,7,7,7,7,7,7,7,7,7,7,7,7,7,7,7,7,7,7,7,7,7,7,7,7,7,7,7,7,7,7,7,7,7,8,8,8,8,8,8,8,8,8,8,8,8,8,8,8,8,8,8,8,8,8,8,8,8,8,8,8,8,8,8,8,8,8,8,8,8,8,8,8,8,8,8,8,8,8,8,8,8,8,8,8,8,8,8,8,8,8,8,8,8,8,8,8,8,8,8,8,8,8,8,8,8,8,8,8,8,8,8,8,8,8,8,8,8,8,8,8,8,8,8,8,8,8,8,8,8,8,8,8,8,8,8,8,8,8,8,8,8,8,8,8,8,8,8,8,8,8,8,8,8,8,8,8,8,8,8,8,8]) (IntKind.wrap .u8 y0) fun b4=>
 Q (.int .i64 (IntKind.wrap .i64 ((0:Int)+(IntKind.wrap .i64 (b4.toNat:Int))))) h))
noncomputable def Iw:cz:=tb (ak .done []) (ak [] []) (ak none [])
def rL (y0:Int) (h:ae) (Q:VH):Prop:=
 aL (decide (y0≥4294967296)) (
 aL (decide ((gz y0 32)≥65536)) (
 aL (decide ((gz (gz y0 32) 16)≥256)) (
 vT (ByteArray.mk #[0,1,2,2,3,3,3,3,4,4,4,4,4,4,4,4,5,5,5,5,5,5,5,5,5,5,5,5,5,5,5,5,6,6,6,6,6,6,6,6,6,6,6,6,6,6,6,6,6,6,6,6,6,6,6,6,6,6,6,6,6,6,6,6,7,7,7,7,7,7,7,7,7,7,7,7,7,7,7,7,7,7,7,7,7,7,7,7,7,7,7,7,7,7,7,7,7,7,7,7,7,7,7,7,7,7,7,7,7,7,7,7,7,7,7,7,7,7,7,7,7,7,7,7,7,7,7,7,8,8,8,8,8,8,8,8,8,8,8,8,8,8,8,8,8,8,8,8,8,8,8,8,8,8,8,8,8,8,8,8,8,8,8,8,8,8,8,8,8,8,8,8,8,8,8,8,8,8,8,8,8,8,8,8,8,8,8,8,8,8,8,8,8,8,8,8,8,8,8,8,8,8,8,8,8,8,8,8,8,8,8,8,8,8,8,8,8,8,8,8,8,8,8,8,8,8,8,8,8,8,8,8,8,8,8,8,8,8,8,8,8,8,8,8,8,8,8,8,8,8,8,8,8,8,8,8]) (IntKind.wrap .u8 (gz (gz (gz y0 32) 16) 8)) fun b1=>
 Q (.int .i64 (IntKind.wrap .i64 ((IntKind.wrap .i64 ((IntKind.wrap .i64 ((32:Int)+16))+8))+(IntKind.wrap .i64 (b1.toNat:Int))))) h) (
 vT (ByteArray.mk #[0,1,2,2,3,3,3,3,4,4,4,4,4,4,4,4,5,5,5,5,5,5,5,5,5,5,5,5,5,5,5,5,6,6,6,6,6,6,6,6,6,6,6,6,6,6,6,6,6,6,6,6,6,6,6,6,6,6,6,6,6,6,6,6,7,7,7,7,7,7,7,7,7,7,7,7,7,7,7,7,7,7,7,7,7,7,7,7,7,7,7,7,7,7,7,7,7,7,7,7,7,7,7,7,7,7,7,7,7,7,7,7,7,7,7,7,7,7,7,7,7,7,7,7,7,7,7,7,8,8,8,8,8,8,8,8,8,8,8,8,8,8,8,8,8,8,8,8,8,8,8,8,8,8,8,8,8,8,8,8,8,8,8,8,8,8,8,8,8,8,8,8,8,8,8,8,8,8,8,8,8,8,8,8,8,8,8,8,8,8,8,8,8,8,8,8,8,8,8,8,8,8,8,8,8,8,8,8,8,8,8,8,8,8,8,8,8,8,8,8,8,8,8,8,8,8,8,8,8,8,8,8,8,8,8,8,8,8,8,8,8,8,8,8,8,8,8,8,8,8,8,8,8,8,8,8]) (IntKind.wrap .u8 (gz (gz y0 32) 16)) fun b2=>
 Q (.int .i64 (IntKind.wrap .i64 ((IntKind.wrap .i64 ((32:Int)+16))+(IntKind.wrap .i64 (b2.toNat:Int))))) h)) (
 aL (decide ((gz y0 32)≥256)) (
 vT (ByteArray.mk #[0,1,2,2,3,3,3,3,4,4,4,4,4,4,4,4,5,5,5,5,5,5,5,5,5,5,5,5,5,5,5,5,6,6,6,6,6,6,6,6,6,6,6,6,6,6,6,6,6,6,6,6,6,6,6,6,6,6,6,6,6,6,6,6,7,7,7,7,7,7,7,7,7,7,7,7,7,7,7,7,7,7,7,7,7,7,7,7,7,7,7,7,7,7,7,7,7,7,7,7,7,7,7,7,7,7,7,7,7,7,7,7,7,7,7,7,7,7,7,7,7,7,7,7,7,7,7,7,8,8,8,8,8,8,8,8,8,8,8,8,8,8,8,8,8,8,8,8,8,8,8,8,8,8,8,8,8,8,8,8,8,8,8,8,8,8,8,8,8,8,8,8,8,8,8,8,8,8,8,8,8,8,8,8,8,8,8,8,8,8,8,8,8,8,8,8,8,8,8,8,8,8,8,8,8,8,8,8,8,8,8,8,8,8,8,8,8,8,8,8,8,8,8,8,8,8,8,8,8,8,8,8,8,8,8,8,8,8,8,8,8,8,8,8,8,8,8,8,8,8,8,8,8,8,8,8]) (IntKind.wrap .u8 (gz (gz y0 32) 8)) fun b3=>
 Q (.int .i64 (IntKind.wrap .i64 ((IntKind.wrap .i64 ((32:Int)+8))+(IntKind.wrap .i64 (b3.toNat:Int))))) h) (
 vT (ByteArray.mk #[0,1,2,2,3,3,3,3,4,4,4,4,4,4,4,4,5,5,5,5,5,5,5,5,5,5,5,5,5,5,5,5,6,6,6,6,6,6,6,6,6,6,6,6,6,6,6,6,6,6,6,6,6,6,6,6,6,6,6,6,6,6,6,6,7,7,7,7,7,7,7,7,7,7,7,7,7,7,7,7,7,7,7,7,7,7,7,7,7,7,7,7,7,7,7,7,7,7,7,7,7,7,7,7,7,7,7,7,7,7,7,7,7,7,7,7,7,7,7,7,7,7,7,7,7,7,7,7,8,8,8,8,8,8,8,8,8,8,8,8,8,8,8,8,8,8,8,8,8,8,8,8,8,8,8,8,8,8,8,8,8,8,8,8,8,8,8,8,8,8,8,8,8,8,8,8,8,8,8,8,8,8,8,8,8,8,8,8,8,8,8,8,8,8,8,8,8,8,8,8,8,8,8,8,8,8,8,8,8,8,8,8,8,8,8,8,8,8,8,8,8,8,8,8,8,8,8,8,8,8,8,8,8,8,8,8,8,8,8,8,8,8,8,8,8,8,8,8,8,8,8,8,8,8,8,8]) (IntKind.wrap .u8 (gz y0 32)) fun b4=>
 Q (.int .i64 (IntKind.wrap .i64 ((32:Int)+(IntKind.wrap .i64 (b4.toNat:Int))))) h))) (
 aL (decide (y0≥65536)) (
 aL (decide ((gz y0 16)≥256)) (
 vT (ByteArray.mk #[0,1,2,2,3,3,3,3,4,4,4,4,4,4,4,4,5,5,5,5,5,5,5,5,5,5,5,5,5,5,5,5,6,6,6,6,6,6,6,6,6,6,6,6,6,6,6,6,6,6,6,6,6,6,6,6,6,6,6,6,6,6,6,6,7,7,7,7,7,7,7,7,7,7,7,7,7,7,7,7,7,7,7,7,7,7,7,7,7,7,7,7,7,7,7,7,7,7,7,7,7,7,7,7,7,7,7,7,7,7,7,7,7,7,7,7,7,7,7,7,7,7,7,7,7,7,7,7,8,8,8,8,8,8,8,8,8,8,8,8,8,8,8,8,8,8,8,8,8,8,8,8,8,8,8,8,8,8,8,8,8,8,8,8,8,8,8,8,8,8,8,8,8,8,8,8,8,8,8,8,8,8,8,8,8,8,8,8,8,8,8,8,8,8,8,8,8,8,8,8,8,8,8,8,8,8,8,8,8,8,8,8,8,8,8,8,8,8,8,8,8,8,8,8,8,8,8,8,8,8,8,8,8,8,8,8,8,8,8,8,8,8,8,8,8,8,8,8,8,8,8,8,8,8,8,8]) (IntKind.wrap .u8 (gz (gz y0 16) 8)) fun b5=>
 Q (.int .i64 (IntKind.wrap .i64 ((IntKind.wrap .i64 ((IntKind.wrap .i64 ((0:Int)+16))+8))+(IntKind.wrap .i64 (b5.toNat:Int))))) h) (
 vT (ByteArray.mk #[0,1,2,2,3,3,3,3,4,4,4,4,4,4,4,4,5,5,5,5,5,5,5,5,5,5,5,5,5,5,5,5,6,6,6,6,6,6,6,6,6,6,6,6,6,6,6,6,6,6,6,6,6,6,6,6,6,6,6,6,6,6,6,6,7,7,7,7,7,7,7,7,7,7,7,7,7,7,7,7,7,7,7,7,7,7,7,7,7,7,7,7,7,7,7,7,7,7,7,7,7,7,7,7,7,7,7,7,7,7,7,7,7,7,7,7,7,7,7,7,7,7,7,7,7,7,7,7,8,8,8,8,8,8,8,8,8,8,8,8,8,8,8,8,8,8,8,8,8,8,8,8,8,8,8,8,8,8,8,8,8,8,8,8,8,8,8,8,8,8,8,8,8,8,8,8,8,8,8,8,8,8,8,8,8,8,8,8,8,8,8,8,8,8,8,8,8,8,8,8,8,8,8,8,8,8,8,8,8,8,8,8,8,8,8,8,8,8,8,8,8,8,8,8,8,8,8,8,8,8,8,8,8,8,8,8,8,8,8,8,8,8,8,8,8,8,8,8,8,8,8,8,8,8,8,8]) (IntKind.wrap .u8 (gz y0 16)) fun b6=>
 Q (.int .i64 (IntKind.wrap .i64 ((IntKind.wrap .i64 ((0:Int)+16))+(IntKind.wrap .i64 (b6.toNat:Int))))) h)) (
 aL (decide (y0≥256)) (
 vT (ByteArray.mk #[0,1,2,2,3,3,3,3,4,4,4,4,4,4,4,4,5,5,5,5,5,5,5,5,5,5,5,5,5,5,5,5,6,6,6,6,6,6,6,6,6,6,6,6,6,6,6,6,6,6,6,6,6,6,6,6,6,6,6,6,6,6,6,6,7,7,7,7,7,7,7,7,7,7,7,7,7,7,7,7,7,7,7,7,7,7,7,7,7,7,7,7,7,7,7,7,7,7,7,7,7,7,7,7,7,7,7,7,7,7,7,7,7,7,7,7,7,7,7,7,7,7,7,7,7,7,7,7,8,8,8,8,8,8,8,8,8,8,8,8,8,8,8,8,8,8,8,8,8,8,8,8,8,8,8,8,8,8,8,8,8,8,8,8,8,8,8,8,8,8,8,8,8,8,8,8,8,8,8,8,8,8,8,8,8,8,8,8,8,8,8,8,8,8,8,8,8,8,8,8,8,8,8,8,8,8,8,8,8,8,8,8,8,8,8,8,8,8,8,8,8,8,8,8,8,8,8,8,8,8,8,8,8,8,8,8,8,8,8,8,8,8,8,8,8,8,8,8,8,8,8,8,8,8,8,8]) (IntKind.wrap .u8 (gz y0 8)) fun b7=>
 Q (.int .i64 (IntKind.wrap .i64 ((IntKind.wrap .i64 ((0:Int)+8))+(IntKind.wrap .i64 (b7.toNat:Int))))) h) (
 vT (ByteArray.mk #[0,1,2,2,3,3,3,3,4,4,4,4,4,4,4,4,5,5,5,5,5,5,5,5,5,5,5,5,5,5,5,5,6,6,6,6,6,6,6,6,6,6,6,6,6,6,6,6,6,6,6,6,6,6,6,6,6,6,6,6,6,6,6,6,7,7,7,7,7,7,7,7,7,7,7,7,7,7,7,7,7,7,7,7,7,7,7,7,7,7,7,7,7,7,7,7,7,7,7,7,7,7,7,7,7,7,7,7,7,7,7,7,7,7,7,7,7,7,7,7,7,7,7,7,7,7,7,7,8,8,8,8,8,8,8,8,8,8,8,8,8,8,8,8,8,8,8,8,8,8,8,8,8,8,8,8,8,8,8,8,8,8,8,8,8,8,8,8,8,8,8,8,8,8,8,8,8,8,8,8,8,8,8,8,8,8,8,8,8,8,8,8,8,8,8,8,8,8,8,8,8,8,8,8,8,8,8,8,8,8,8,8,8,8,8,8,8,8,8,8,8,8,8,8,8,8,8,8,8,8,8,8,8,8,8,8,8,8,8,8,8,8,8,8,8,8,8,8,8,8,8,8,8,8,8,8]) (IntKind.wrap .u8 y0) fun b8=>
 Q (.int .i64 (IntKind.wrap .i64 ((0:Int)+(IntKind.wrap .i64 (b8.toNat:Int))))) h)))
noncomputable def uO:cz:=tb (ak .done []) (ak [] []) (ak none [])
theorem tm (y0:Int) {h:ae} {Q:VH} (H:rL y0 h Q):aq P ik #[(.int .u64 y0)] h Q:=
 @aA P ik Tryz.f249 uO [(.int .u64 y0)] h Q aR Tryz.func249 Tryz.call249 (by kernel_rfl) (Eq.mpr (by kernel_rfl) H)
def vu (y0:Int) (h:ae) (Q:VH):Prop:=
 aI P .i64 ik #[(.int .u64 y0)] h fun n2 h1=>
 Q (.int .i64 n2) h1
noncomputable def xE:cz:=tb (ak .done []) (ak [] []) (ak none [])
theorem vR (y0:Int) {h:ae} {Q:VH} (H:vu y0 h Q):aq P ju #[(.int .u64 y0)] h Q:=
 @aA P ju Tryz.f227 xE [(.int .u64 y0)] h Q aR Tryz.func227 Tryz.call227 (by kernel_rfl) (Eq.mpr (by kernel_rfl) H)
def vv (y0:Int) (h:ae) (Q:VH):Prop:=
 Q (.bool (y0 !=y0)) h
noncomputable def xF:cz:=tb (ak .done []) (ak [] []) (ak none [])
theorem vS (y0:Int) {h:ae} {Q:VH} (H:vv y0 h Q):aq P gP #[(.int .i64 y0)] h Q:=
 @aA P gP Tryz.f257 xF [(.int .i64 y0)] h Q aR Tryz.func257 Tryz.call257 (by kernel_rfl) (Eq.mpr (by kernel_rfl) H)
def xG (y0 y1:Int) (h:ae) (Q:VH):Prop:=
 aE P gP #[(.int .i64 y0)] h fun b2 h1=>
 aL b2 (
 aE P gP #[(.int .i64 y1)] h1 fun b4 h3=>
 aL (!b4) (
 Q (.bool true) h3) (
 Q (.bool (decide (y0<y1))) h3)) (
 Q (.bool (decide (y0<y1))) h1)
noncomputable def zd:cz:=tb (ak .done []) (ak [] []) (ak none [])
theorem xH (y0 y1:Int) {h:ae} {Q:VH} (H:xG y0 y1 h Q):aq P iv #[(.int .i64 y0),(.int .i64 y1)] h Q:=
 @aA P iv Tryz.f245 zd [(.int .i64 y0),(.int .i64 y1)] h Q aR Tryz.func245 Tryz.call245 (by kernel_rfl) (Eq.mpr (by kernel_rfl) H)
def fr (Q:VH) (K1:(S3×Int×Int×Int×Unit)→ae→Prop) (K2:(S3×Int×Int×Int×Int×Unit)→ae→Prop) (y0p:OA) (y0n y0c:Nat) (y1 y2 y6 y7:Int) (h2:ae):Prop:=
 aL (decide (y7>y1)) (
 bl y0p y7 y0n fun a3=>
 bl y0p (IntKind.wrap .i64 (y7-1)) y0n fun a4=>
 ah .i64 h2 (a3.add (y7.toNat*1)) fun n5=>
 ah .i64 h2 (a4.add ((IntKind.wrap .i64 (y7-1)).toNat*1)) fun n6=>
 aE P iv #[(.int .i64 n5),(.int .i64 n6)] h2 fun b8 h7=>
 aL b8 (
 bl y0p (IntKind.wrap .i64 (y7-1)) y0n fun a9=>
 bl y0p y7 y0n fun a10=>
 ah .i64 h7 (a9.add ((IntKind.wrap .i64 (y7-1)).toNat*1)) fun n11=>
 ah .i64 h7 (a10.add (y7.toNat*1)) fun n12=>
 bl y0p y7 y0n fun a13=>
 bu h7 (a13.add (y7.toNat*1)) (.int .i64 n11) fun h14=>
 bl y0p (IntKind.wrap .i64 (y7-1)) y0n fun a15=>
 bu h14 (a15.add ((IntKind.wrap .i64 (y7-1)).toNat*1)) (.int .i64 n12) fun h16=>
 K2 ((y0p,y0n,y0c),y1,y2,y6,(IntKind.wrap .i64 (y7-1)),()) h16) (
 K1 ((y0p,y0n,y0c),y1,y2,(IntKind.wrap .i64 (y6+1)),()) h7)) (
 K1 ((y0p,y0n,y0c),y1,y2,(IntKind.wrap .i64 (y6+1)),()) h2)
def dl (Q:VH) (K1:(S3×Int×Int×Int×Unit)→ae→Prop) (y0p:OA) (y0n y0c:Nat) (y1 y2 y6:Int) (h1:ae):Prop:=
 aL (decide (y6<y2)) (
 bB (S:=(S3×Int×Int×Int×Int×Unit)) (fun K2 s h=>fr Q K1 K2 s.1.1 s.1.2.1 s.1.2.2 s.2.1 s.2.2.1 s.2.2.2.1 s.2.2.2.2.1 h) ((y0p,y0n,y0c),y1,y2,y6,y6,()) h1) (
 Q (.tuple #[]) h1)
def fW (y0p:OA) (y0n y0c:Nat) (y1 y2:Int) (h:ae) (Q:VH):Prop:=
 bB (S:=(S3×Int×Int×Int×Unit)) (fun K1 s h=>dl Q K1 s.1.1 s.1.2.1 s.1.2.2 s.2.1 s.2.2.1 s.2.2.2.1 h) ((y0p,y0n,y0c),y1,y2,(IntKind.wrap .i64 (y1+1)),()) h
noncomputable def jl:cz:=tb (ak .done [(4,(bD [0,1,2,3,4,5,6,8,9,10,11,7,12] (.alt 13 (bD [14] .done) .stop))),(6,(bD [0,1,2,3,4,5,6,7,8,10,11,12,9,13,14] (.alt 15 (bD [16] (.alt 17 .done .stop)) .stop)))]) (ak [] [(1,[(0,SL),(1,I6),(2,I6),(6,I6)]),(4,[(0,SL),(1,I6),(2,I6),(6,I6),(7,I6)])]) (ak none [])
theorem i9 (y0p:OA) (y0n y0c:Nat) (y1 y2:Int) {h:ae} {Q:VH} (H:fW y0p y0n y0c y1 y2 h Q):aq P cM #[(.slice y0p y0n y0c),(.int .i64 y1),(.int .i64 y2)] h Q:=
 @aA P cM Tryz.f239 jl [(.slice y0p y0n y0c),(.int .i64 y1),(.int .i64 y2)] h Q aR Tryz.func239 Tryz.call239 (by kernel_rfl) (Eq.mpr (by kernel_rfl) H)
def lA (Q:VH) (K1:YH Qs) (y0p:OA) (y0n y0c:Nat) (y1 y2 y3 y10 y11:Int) (h15:ae):Prop:=
 aq P lq #[(.slice y0p y0n y0c),(.int .i64 y1),(.int .i64 y2),(.int .i64 y11)] h15 fun v17 h16=>
 ∃n18:Int,∃b19:Bool,v17=(.tuple #[(.int .i64 n18),(.bool b19)])∧
 aL (decide ((IntKind.wrap .i64 (n18-y1))<(IntKind.wrap .i64 (y2-n18)))) (
 bc P cv #[(.slice y0p y0n y0c),(.int .i64 y1),(.int .i64 n18),(.int .i64 y3)] h16 fun h20=>
 K1 ((y0p,y0n,y0c),(IntKind.wrap .i64 (n18+1)),y2,y3,(decide ((IntKind.wrap .i64 (n18-y1))≥(IntKind.wrap .i64 (Int.tdiv y10 8)))),b19,()) h20) (
 bc P cv #[(.slice y0p y0n y0c),(.int .i64 (IntKind.wrap .i64 (n18+1))),(.int .i64 y2),(.int .i64 y3)] h16 fun h21=>
 K1 ((y0p,y0n,y0c),y1,n18,y3,(decide ((IntKind.wrap .i64 (y2-n18))≥(IntKind.wrap .i64 (Int.tdiv y10 8)))),b19,()) h21)
def lB (Q:VH) (K1:YH Qs) (y0p:OA) (y0n y0c:Nat) (y1 y2 y3:Int) (y8 y9:Bool) (y10 y11:Int) (h13:ae):Prop:=
 ∃J14:YH Sd,(∀s h,J14 s h→lA Q K1 s.1.1 s.1.2.1 s.1.2.2 s.2.1 s.2.2.1 s.2.2.2.1 s.2.2.2.2.1 s.2.2.2.2.2.1 h)∧
 aL (decide (y1>0)) (
 bl y0p (IntKind.wrap .i64 (y1-1)) y0n fun a22=>
 bl y0p y11 y0n fun a23=>
 ah .i64 h13 (a22.add ((IntKind.wrap .i64 (y1-1)).toNat*1)) fun n24=>
 ah .i64 h13 (a23.add (y11.toNat*1)) fun n25=>
 aE P iv #[(.int .i64 n24),(.int .i64 n25)] h13 fun b27 h26=>
 aL (!b27) (
 aI P .i64 jB #[(.slice y0p y0n y0c),(.int .i64 y1),(.int .i64 y2),(.int .i64 y11)] h26 fun n29 h28=>
 K1 ((y0p,y0n,y0c),n29,y2,y3,y8,y9,()) h28) (
 J14 ((y0p,y0n,y0c),y1,y2,y3,y10,y11,()) h26)) (
 J14 ((y0p,y0n,y0c),y1,y2,y3,y10,y11,()) h13)
def lC (Q:VH) (K1:YH Qs) (y0p:OA) (y0n y0c:Nat) (y1 y2 y3:Int) (y8 y9:Bool) (y10 y11 y12:Int) (h11:ae):Prop:=
 ∃J12:YH Sg,(∀s h,J12 s h→lB Q K1 s.1.1 s.1.2.1 s.1.2.2 s.2.1 s.2.2.1 s.2.2.2.1 s.2.2.2.2.1 s.2.2.2.2.2.1 s.2.2.2.2.2.2.1 s.2.2.2.2.2.2.2.1 h)∧
 aL y8 (
 aL y9 (
 aL (y12==1) (
 aE P ib #[(.slice y0p y0n y0c),(.int .i64 y1),(.int .i64 y2)] h11 fun b31 h30=>
 aL b31 (
 Q (.tuple #[]) h30) (
 J12 ((y0p,y0n,y0c),y1,y2,y3,y8,y9,y10,y11,()) h30)) (
 J12 ((y0p,y0n,y0c),y1,y2,y3,y8,y9,y10,y11,()) h11)) (
 J12 ((y0p,y0n,y0c),y1,y2,y3,y8,y9,y10,y11,()) h11)) (
 J12 ((y0p,y0n,y0c),y1,y2,y3,y8,y9,y10,y11,()) h11)
def lD (Q:VH) (K1:YH Qs) (y0p:OA) (y0n y0c:Nat) (y1 y2 y3:Int) (y8 y9:Bool) (y10:Int) (h5:ae):Prop:=
 aq P kp #[(.slice y0p y0n y0c),(.int .i64 y1),(.int .i64 y2)] h5 fun v7 h6=>
 ∃n8:Int,∃n9:Int,v7=(.tuple #[(.int .i64 n8),(.int .i64 n9)])∧
 ∃J10:YH Sf,(∀s h,J10 s h→lC Q K1 s.1.1 s.1.2.1 s.1.2.2 s.2.1 s.2.2.1 s.2.2.2.1 s.2.2.2.2.1 s.2.2.2.2.2.1 s.2.2.2.2.2.2.1 s.2.2.2.2.2.2.2.1 s.2.2.2.2.2.2.2.2.1 h)∧
 aL (n9==2) (
 bc P j5 #[(.slice y0p y0n y0c),(.int .i64 y1),(.int .i64 y2)] h6 fun h32=>
 J10 ((y0p,y0n,y0c),y1,y2,y3,y8,y9,y10,(IntKind.wrap .i64 ((IntKind.wrap .i64 (y2-1))-(IntKind.wrap .i64 (n8-y1)))),(1:Int),()) h32) (
 J10 ((y0p,y0n,y0c),y1,y2,y3,y8,y9,y10,n8,n9,()) h6)
def gS (Q:VH) (K1:YH Qs) (y0p:OA) (y0n y0c:Nat) (y1 y2 y3:Int) (y8 y9:Bool) (h1:ae):Prop:=
 aL (decide ((IntKind.wrap .i64 (y2-y1))≤12)) (
 bc P cM #[(.slice y0p y0n y0c),(.int .i64 y1),(.int .i64 y2)] h1 fun h2=>
 Q (.tuple #[]) h2) (
 aL (y3==0) (
 bc P lN #[(.slice y0p y0n y0c),(.int .i64 y1),(.int .i64 y2)] h1 fun h3=>
 Q (.tuple #[]) h3) (
 ∃J4:YH Se,(∀s h,J4 s h→lD Q K1 s.1.1 s.1.2.1 s.1.2.2 s.2.1 s.2.2.1 s.2.2.2.1 s.2.2.2.2.1 s.2.2.2.2.2.1 s.2.2.2.2.2.2.1 h)∧
 aL (!y8) (
 bc P jU #[(.slice y0p y0n y0c),(.int .i64 y1),(.int .i64 y2)] h1 fun h33=>
 J4 ((y0p,y0n,y0c),y1,y2,(IntKind.wrap .i64 (y3-1)),y8,y9,(IntKind.wrap .i64 (y2-y1)),()) h33) (
 J4 ((y0p,y0n,y0c),y1,y2,y3,y8,y9,(IntKind.wrap .i64 (y2-y1)),()) h1)))
def i3 (y0p:OA) (y0n y0c:Nat) (y1 y2 y3:Int) (h:ae) (Q:VH):Prop:=
 bB (S:=Qs) (fun K1 s h=>gS Q K1 s.1.1 s.1.2.1 s.1.2.2 s.2.1 s.2.2.1 s.2.2.2.1 s.2.2.2.2.1 s.2.2.2.2.2.1 h) ((y0p,y0n,y0c),y1,y2,y3,true,true,()) h
noncomputable def lE:cz:=tb (ak .done [(17,(bD [0,1,2,3,4,5,6,8,9,10,7,11] (.alt 12 (bD [13,14] .done) .stop)))]) (ak [] [(2,[(0,SL),(1,I6),(2,I6),(3,I6),(8,BO),(9,BO)])]) (ak none [(10,some [(0,SL),(1,I6),(2,I6),(3,I6),(8,BO),(9,BO),(10,I6)]),(15,some [(0,SL),(1,I6),(2,I6),(3,I6),(8,BO),(9,BO),(10,I6),(11,I6),(12,I6)]),(17,some [(0,SL),(1,I6),(2,I6),(3,I6),(8,BO),(9,BO),(10,I6),(11,I6)]),(20,some [(0,SL),(1,I6),(2,I6),(3,I6),(10,I6),(11,I6)])])
theorem kG (y0p:OA) (y0n y0c:Nat) (y1 y2 y3:Int) {h:ae} {Q:VH} (H:i3 y0p y0n y0c y1 y2 y3 h Q):aq P cv #[(.slice y0p y0n y0c),(.int .i64 y1),(.int .i64 y2),(.int .i64 y3)] h Q:=
 @aA P cv Tryz.f226 lE [(.slice y0p y0n y0c),(.int .i64 y1),(.int .i64 y2),(.int .i64 y3)] h Q aR Tryz.func226 Tryz.call226 (by kernel_rfl) (Eq.mpr (by kernel_rfl) H)
def lR (y0p:OA) (y0n y0c:Nat) (h:ae) (Q:VH):Prop:=
 aI P .i64 ju #[(.int .u64 (IntKind.wrap .u64 (y0n:Int)))] h fun n2 h1=>
 bc P cv #[(.slice y0p y0n y0c),(.int .i64 0),(.int .i64 (y0n:Int)),(.int .i64 n2)] h1 fun h3=>
 Q (.tuple #[]) h3
noncomputable def pF:cz:=tb (ak .done []) (ak [] []) (ak none [])
theorem oQ (y0p:OA) (y0n y0c:Nat) {h:ae} {Q:VH} (H:lR y0p y0n y0c h Q):aq P fu #[(.slice y0p y0n y0c)] h Q:=
 @aA P fu Tryz.f187 pF [(.slice y0p y0n y0c)] h Q aR Tryz.func187 Tryz.call187 (by kernel_rfl) (Eq.mpr (by kernel_rfl) H)
def ou (y0:Value) (h:ae) (Q:VH):Prop:=
 bM P fK #[y0] h fun p2 l2 c2 h1=>
 bc P fu #[(.slice p2 l2 c2)] h1 fun h3=>
 Q (.slice p2 l2 c2) h3
noncomputable def sg:cz:=tb (ak .done []) (ak [] []) (ak none [])
theorem qw (y0:Value) {h:ae} {Q:VH} (H:ou y0 h Q):aq P gi #[y0] h Q:=
 @aA P gi Tryz.f129 sg [y0] h Q aR Tryz.func129 Tryz.call129 (by kernel_rfl) (Eq.mpr (by kernel_rfl) H)
def i5 (Q:VH) (K1:(S3×Int×Unit)→ae→Prop) (K2:YH RK) (y0p:OA) (y0n y0c:Nat) (y3:Int) (y4p:OA) (y4n y4c:Nat) (y5:Int) (h7:ae):Prop:=
 aL (decide (y5<(y4n:Int))) (
 bl y4p y5 y4n fun a8=>
 bl y4p (IntKind.wrap .i64 (y5-1)) y4n fun a9=>
 ah .i64 h7 (a8.add (y5.toNat*1)) fun n10=>
 ah .i64 h7 (a9.add ((IntKind.wrap .i64 (y5-1)).toNat*1)) fun n11=>
 aL (n10 !=n11) (
 bl y4p y5 y4n fun a12=>
 ah .i64 h7 (a12.add (y5.toNat*1)) fun n13=>
 bl y0p y3 y0n fun a14=>
 bu h7 (a14.add (y3.toNat*1)) (.int .i64 n13) fun h15=>
 K2 ((y0p,y0n,y0c),(IntKind.wrap .i64 (y3+1)),(y4p,y4n,y4c),(IntKind.wrap .i64 (y5+1)),()) h15) (
 K2 ((y0p,y0n,y0c),y3,(y4p,y4n,y4c),(IntKind.wrap .i64 (y5+1)),()) h7)) (
 qy y3 y0n fun l16=>
 Rv (.int .i64 0) (if y0c=l16 then y0p else Option.map (fun a=>a.add (l16*1)) y0p) (y0n-l16) h7 fun h17=>
 qy y3 y0c fun l18=>
 Q (.slice (if y0c=0 then y0p else Option.map (fun a=>a.add (0*1)) y0p) (l18-0) (y0c-0)) h17)
def i7 (Q:VH) (K1:(S3×Int×Unit)→ae→Prop) (y0p:OA) (y0n y0c:Nat) (y3:Int) (h1:ae):Prop:=
 aL (decide (y3<(y0n:Int))) (
 bl y0p y3 y0n fun a2=>
 bl y0p (IntKind.wrap .i64 (y3-1)) y0n fun a3=>
 ah .i64 h1 (a2.add (y3.toNat*1)) fun n4=>
 ah .i64 h1 (a3.add ((IntKind.wrap .i64 (y3-1)).toNat*1)) fun n5=>
 aL (n4==n5) (
 qy y3 y0n fun l6=>
 bB (S:=RK) (fun K2 s h=>i5 Q K1 K2 s.1.1 s.1.2.1 s.1.2.2 s.2.1 s.2.2.1.1 s.2.2.1.2.1 s.2.2.1.2.2 s.2.2.2.1 h) ((y0p,y0n,y0c),y3,((if y0c=l6 then y0p else Option.map (fun a=>a.add (l6*1)) y0p),(y0n-l6),(y0c-l6)),(1:Int),()) h1) (
 K1 ((y0p,y0n,y0c),(IntKind.wrap .i64 (y3+1)),()) h1)) (
 Q (.slice y0p y0n y0c) h1)
def ke (y0p:OA) (y0n y0c:Nat) (h:ae) (Q:VH):Prop:=
 aL (decide ((y0n:Int)<2)) (
 Q (.slice y0p y0n y0c) h) (
 bB (S:=(S3×Int×Unit)) (fun K1 s h=>i7 Q K1 s.1.1 s.1.2.1 s.1.2.2 s.2.1 h) ((y0p,y0n,y0c),(1:Int),()) h)
noncomputable def ni:cz:=tb (ak .done [(6,(bD [0,1,2,4,5,6,7,3,8,9] .done)),(11,(bD [0,1,2,4,5,6,7,3,8,9] .done))]) (ak [] [(4,[(0,SL),(3,I6)]),(9,[(0,SL),(3,I6),(4,SL),(5,I6)])]) (ak none [])
theorem mz (y0p:OA) (y0n y0c:Nat) {h:ae} {Q:VH} (H:ke y0p y0n y0c h Q):aq P dM #[(.slice y0p y0n y0c)] h Q:=
 @aA P dM Tryz.f128 ni [(.slice y0p y0n y0c)] h Q aR Tryz.func128 Tryz.call128 (by kernel_rfl) (Eq.mpr (by kernel_rfl) H)
end Go.Proofs.YtdhpmegbmjoekaaGreatDoor.G
