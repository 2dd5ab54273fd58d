/- The slim forms of functions, written by a program; each is checked by the kernel. -/
import Derived.Test.YtfdjbmamidmgfaaGreatVB
import Derived.Test.YtfdjbmamidmgfaaGreatProg
import Derived.KernelRfl
set_option maxRecDepth 100000
namespace Go.Vw
open Go.Proofs
abbrev f_zint_Text:Nat:=55
def sc_zint_Text:SC:=(Sr [Oo 1 (.box 28 (.t 0)),Oo 2 (.mv (.c (.s ⟨⟨[]⟩⟩)))] (.seq (Sr [Oq 3 2 1,Oc 4 79 [.t 3],On 5 .lss 4 0] (.cond (.t 5) (Sr [Of 6 1 1,Ol 7 6,Oc 8 115 [.t 7],Oo 9 (.bin .add (.c (.s ⟨⟨[45]⟩⟩)) (.t 8)),Om 2 9] .ret) .skip)) (Sr [Of 10 1 1,Ol 11 10,Oc 12 115 [.t 11],Om 2 12] .ret)))
theorem ok_zint_Text:slimF Tryz.prog Tryz.f55=some (13,sc_zint_Text,[(.tmp 2)]):=by kernel_rfl
abbrev f_zint_Of:Nat:=59
def sc_zint_Of:SC:=(Sr [Oo 2 (.alloc 28 zI)] (.seq (Sr [Om 3 0,On 4 .lss 3 0] (.cond (.t 4) (Sr [Om 5 0,Oo 6 (.conv .u64 (.t 5)),Oo 7 (.un .neg (.t 6)),Oo 8 (.mkSl 118 none [.t 7]),Oc 9 86 [(.c (.b .true)),.t 8],Ot 2 2 9] .ret) .skip)) (Sr [Om 10 0,Oo 11 (.conv .u64 (.t 10)),Oo 12 (.mkSl 118 none [.t 11]),Oc 13 86 [(.c (.b .false)),.t 12],Ot 2 2 13] .ret)))
theorem ok_zint_Of:slimF Tryz.prog Tryz.f59=some (14,sc_zint_Of,[(.cell 2 (some 2))]):=by kernel_rfl
abbrev f_zint_Sign:Nat:=79
def sc_zint_Sign:SC:=(Sr [Oo 1 (.box 28 (.t 0)),Oo 2 (.mv (kI 0))] (Sr [Oq 4 2 1,Oc 5 81 [.t 4],Ot 2 1 5] (Sr [Oo 3 (.mv (kI 0))] (.seq (.block 0 (.seq (.block 2 (.seq (.block 1 (.seq (.seq (Sr [Of 7 0 1,Ol 8 7,Om 6 8] (.cond (.t 6) (.exit 1) .skip)) (Sr [Of 10 1 1,Ol 11 10,Oz 12 11,On 13 .gtr 12 0,Om 9 13] (.cond (.t 9) (.exit 2) .skip))) (.exit 0))) (.reg [Om 14 3,On 15 .sub 14 2,Om 3 15]))) (Sr [Om 16 3,On 17 .add 16 1,Om 3 17] (.exit 0)))) (Sr [Om 18 3,Om 2 18] .ret)))))
theorem ok_zint_Sign:slimF Tryz.prog Tryz.f79=some (19,sc_zint_Sign,[(.tmp 2)]):=by kernel_rfl
abbrev f_ref02_Add:Nat:=91
def sc_ref02_Add:SC:=(Sr [Oo 2 (.box 28 (.t 0)),Oo 3 (.box 28 (.t 1)),Oo 4 (.alloc 28 zI)] (.seq (Sr [Of 7 0 2,Ol 8 7,Of 9 0 3,Ol 10 9,Oo 11 (.eqb .false (.t 8) (.t 10))] (.cond (.t 11) (.seq (.regD [0,1,0,4,0,16,60,127,255,511] [Of 12 0 2,Ol 13 12,Of 14 1 2,Ol 15 14,Of 16 1 3,Ol 17 16,Oc 18 145 [.t 15,.t 17],Oo 19 (.build zI [(0,(1,(.t 13))),(1,(1,(.t 18)))]),Oc 20 58 [.t 19],Ot 2 4 20]) .ret) .skip)) (Sr [Of 22 1 2,Ol 23 22,Of 24 1 3,Ol 25 24,Oc 26 146 [.t 23,.t 25],Om 21 26,Oe 27 21 0,Oe 28 21 1,Om 5 27,Om 6 28] (.seq (Sr [Om 29 6,On 30 .eql 29 0] (.cond (.t 30) (Sr [Of 31 0 2,Ol 32 31,Om 33 5,Oo 34 (.build zI [(0,(1,(.t 32))),(1,(1,(.t 33)))]),Oc 35 58 [.t 34],Ot 2 4 35] .ret) .skip)) (Sr [Of 37 1 3,Ol 38 37,Of 39 1 2,Ol 40 39,Oc 41 146 [.t 38,.t 40],Om 36 41,Oe 42 36 0,Oe 43 36 1,Om 5 42] (Sr [Of 44 0 3,Ol 45 44,Om 46 5,Oo 47 (.build zI [(0,(1,(.t 45))),(1,(1,(.t 46)))]),Oc 48 58 [.t 47],Ot 2 4 48] .ret))))))
theorem ok_ref02_Add:slimF Tryz.prog Tryz.f91=some (49,sc_ref02_Add,[(.cell 4 (some 2))]):=by kernel_rfl
abbrev f_zint_Div:Nat:=119
def sc_zint_Div:SC:=(Sr [Oo 2 (.box 28 (.t 0)),Oo 3 (.box 28 (.t 1)),Oo 4 (.alloc 28 zI),Oo 5 (.alloc 28 zI),Oo 6 (.mv (kI 0))] (Sr [Of 11 1 2,Ol 12 11,Of 13 1 3,Ol 14 13,Oc 15 125 [.t 12,.t 14],Om 10 15,Oe 16 10 0,Oe 17 10 1,Oe 18 10 2,Om 7 16,Om 8 17,Om 9 18] (.seq (Sr [Om 19 9,On 20 .neq 19 0] (.cond (.t 20) (Sr [Oo 21 (.build zI []),Oo 22 (.build zI []),Om 23 9,Ot 2 4 21,Ot 2 5 22,Om 6 23] .ret) .skip)) (.seq (Sr [Of 24 0 2,Ol 25 24,Om 26 25,Oj 27 8 26 true,Og 28 (.len .false (.t 27)) 26 true,Og 29 (.bin .gtr (.t 28) (kI 0)) 26 true,Oo 30 (.pick (.t 26) (.t 29) (.c (.b .false)))] (.cond (.t 30) (Sr [Om 31 7,Oo 32 (.mkSl 118 none [(.c (.i .u64 1))]),Oc 33 129 [.t 31,.t 32],Om 7 33] (.reg [Of 35 1 3,Ol 36 35,Om 37 8,Oc 38 131 [.t 36,.t 37],Om 34 38,Oe 39 34 0,Oe 40 34 1,Om 8 39])) .skip)) (Sr [Of 41 0 2,Ol 42 41,Of 43 0 3,Ol 44 43,Oo 45 (.eqb .true (.t 42) (.t 44)),Om 46 7,Oc 47 86 [.t 45,.t 46],Om 48 8,Oc 49 86 [(.c (.b .false)),.t 48],Ot 2 4 47,Ot 2 5 49,Oo 6 (.mv (kI 0))] .ret)))))
theorem ok_zint_Div:slimF Tryz.prog Tryz.f119=some (50,sc_zint_Div,[(.cell 4 (some 2)),(.cell 5 (some 2)),(.tmp 6)]):=by kernel_rfl
abbrev f_slices_Reverse_Lstring_string:Nat:=167
def sc_slices_Reverse_Lstring_string:SC:=(Sr [Om 4 0,Oz 5 4,On 6 .sub 5 1,Oo 2 (.mv (kI 0)),Om 3 6] (.block 0 (.loop (.seq (Sr [Om 7 2,Om 8 3,Ob 9 .lss 7 8] (Sx 9 0)) (.seq (.block 1 (.regD [0,0,0,0,0,0,48,112,0,0,768,1792,4083,8179,16383,32767] [Om 14 0,Om 15 2,Om 16 0,Om 17 3,Om 18 0,Om 19 3,Oi 20 18 19,Ol 21 20,Om 22 0,Om 23 2,Oi 24 22 23,Ol 25 24,Oi 26 14 15,Ou (.store none (.t 26) (.t 21)),Oi 27 16 17,Ou (.store none (.t 27) (.t 25))])) (.reg [Om 10 2,On 11 .add 10 1,Om 12 3,On 13 .sub 12 1,Om 2 11,Om 3 13]))))))
theorem ok_slices_Reverse_Lstring_string:slimF Tryz.prog Tryz.f167=some (28,sc_slices_Reverse_Lstring_string,[]):=by kernel_rfl
abbrev f_ref02_Gcd:Nat:=185
def sc_ref02_Gcd:SC:=(Sr [Oo 2 (.box 28 (.t 0)),Oo 3 (.box 28 (.t 1)),Oo 4 (.alloc 28 zI)] (Sr [Oq 10 2 2,Oc 11 211 [.t 10],Oo 5 (.alloc 28 zI),Ot 2 5 11] (Sr [Oq 12 2 3,Oc 13 211 [.t 12],Oo 6 (.alloc 28 zI),Ot 2 6 13] (.seq (.block 0 (.loop (.seq (Sr [Oq 14 2 6,Oc 15 57 [.t 14],On 16 .neq 15 0] (Sx 16 0)) (.block 1 (Sr [Oq 18 2 5,Oq 19 2 6,Oc 20 160 [.t 18,.t 19],Om 17 20,Oe 21 17 0,Oe 22 17 1,Oe 23 17 2,Oo 7 (.alloc 28 zI),Oo 8 (.alloc 28 zI),Ot 2 7 21,Ot 2 8 22,Om 9 23] (Sr [Oq 24 2 6,Ot 2 5 24] (.reg [Oq 25 2 8,Ot 2 6 25]))))))) (Sr [Oq 26 2 5,Ot 2 4 26] .ret)))))
theorem ok_ref02_Gcd:slimF Tryz.prog Tryz.f185=some (27,sc_ref02_Gcd,[(.cell 4 (some 2))]):=by kernel_rfl
abbrev f_zint_Cmp:Nat:=32
def sc_zint_Cmp:SC:=(Sr [Oo 2 (.box 28 (.t 0)),Oo 3 (.box 28 (.t 1)),Oo 4 (.mv (kI 0))] (Sr [Oq 5 2 2,Oq 6 2 3,Oc 7 85 [.t 5,.t 6],Oc 8 79 [.t 7],Om 4 8] .ret))
theorem ok_zint_Cmp:slimF Tryz.prog Tryz.f32=some (9,sc_zint_Cmp,[(.tmp 4)]):=by kernel_rfl
abbrev f_zint_Mul:Nat:=60
def sc_zint_Mul:SC:=(Sr [Oo 2 (.box 28 (.t 0)),Oo 3 (.box 28 (.t 1)),Oo 4 (.alloc 28 zI)] (.seq (.regD [0,1,0,4,15,0,32,0,128,480,1023,2047] [Of 5 0 2,Ol 6 5,Of 7 0 3,Ol 8 7,Oo 9 (.eqb .true (.t 6) (.t 8)),Of 10 1 2,Ol 11 10,Of 12 1 3,Ol 13 12,Oc 14 117 [.t 11,.t 13],Oc 15 86 [.t 9,.t 14],Ot 2 4 15]) .ret))
theorem ok_zint_Mul:slimF Tryz.prog Tryz.f60=some (16,sc_zint_Mul,[(.cell 4 (some 2))]):=by kernel_rfl
abbrev f_zint_Exact:Nat:=64
def sc_zint_Exact:SC:=(Sr [Oo 2 (.box 28 (.t 0)),Oo 3 (.box 28 (.t 1)),Oo 4 (.alloc 28 zI),Oo 5 (.mv (kI 0))] (Sr [Oq 10 2 2,Oq 11 2 3,Oc 12 119 [.t 10,.t 11],Om 9 12,Oe 13 9 0,Oe 14 9 1,Oe 15 9 2,Oo 6 (.alloc 28 zI),Oo 7 (.alloc 28 zI),Ot 2 6 13,Ot 2 7 14,Om 8 15] (.seq (.block 0 (Sr [Om 17 8,On 18 .neq 17 0,Om 16 18] (.cond (.t 16) (Sr [Oo 19 (.build zI []),Om 20 8,Ot 2 4 19,Om 5 20] .ret) (Sr [Oq 22 2 7,Oc 23 79 [.t 22],On 24 .neq 23 0,Om 21 24] (.cond (.t 21) (Sr [Oo 25 (.build zI []),Ot 2 4 25,Oo 5 (.mv (kI 4))] .ret) .skip))))) (Sr [Oq 26 2 6,Ot 2 4 26,Oo 5 (.mv (kI 0))] .ret))))
theorem ok_zint_Exact:slimF Tryz.prog Tryz.f64=some (27,sc_zint_Exact,[(.cell 4 (some 2)),(.tmp 5)]):=by kernel_rfl
abbrev f_ref02_Mul:Nat:=92
def sc_ref02_Mul:SC:=(Sr [Oo 2 (.box 28 (.t 0)),Oo 3 (.box 28 (.t 1)),Oo 4 (.alloc 28 zI)] (.seq (.regD [0,1,0,4,15,0,32,0,128,480,1023,2047,4095] [Of 5 0 2,Ol 6 5,Of 7 0 3,Ol 8 7,Oo 9 (.eqb .true (.t 6) (.t 8)),Of 10 1 2,Ol 11 10,Of 12 1 3,Ol 13 12,Oc 14 147 [.t 11,.t 13],Oo 15 (.build zI [(0,(1,(.t 9))),(1,(1,(.t 14)))]),Oc 16 58 [.t 15],Ot 2 4 16]) .ret))
theorem ok_ref02_Mul:slimF Tryz.prog Tryz.f92=some (17,sc_ref02_Mul,[(.cell 4 (some 2))]):=by kernel_rfl
abbrev f_ref02_Neg:Nat:=120
def sc_ref02_Neg:SC:=(Sr [Oo 1 (.box 28 (.t 0)),Oo 2 (.alloc 28 zI)] (Sr [Of 3 0 1,Ol 4 3,Oo 5 (.un .not (.t 4)),Of 6 1 1,Ol 7 6,Oo 8 (.build zI [(0,(1,(.t 5))),(1,(1,(.t 7)))]),Oc 9 58 [.t 8],Ot 2 2 9] .ret))
theorem ok_ref02_Neg:slimF Tryz.prog Tryz.f120=some (10,sc_ref02_Neg,[(.cell 2 (some 2))]):=by kernel_rfl
abbrev f_ref02_Div:Nat:=160
def sc_ref02_Div:SC:=(Sr [Oo 2 (.box 28 (.t 0)),Oo 3 (.box 28 (.t 1)),Oo 4 (.alloc 28 zI),Oo 5 (.alloc 28 zI),Oo 6 (.mv (kI 0))] (Sr [Of 11 1 2,Ol 12 11,Of 13 1 3,Ol 14 13,Oc 15 196 [.t 12,.t 14],Om 10 15,Oe 16 10 0,Oe 17 10 1,Oe 18 10 2,Om 7 16,Om 8 17,Om 9 18] (.seq (Sr [Om 19 9,On 20 .neq 19 0] (.cond (.t 20) (Sr [Oo 21 (.build zI []),Oo 22 (.build zI []),Om 23 9,Ot 2 4 21,Ot 2 5 22,Om 6 23] .ret) .skip)) (.seq (Sr [Of 24 0 2,Ol 25 24,Om 26 25,Oj 27 8 26 true,Og 28 (.len .false (.t 27)) 26 true,Og 29 (.bin .gtr (.t 28) (kI 0)) 26 true,Oo 30 (.pick (.t 26) (.t 29) (.c (.b .false)))] (.cond (.t 30) (Sr [Om 31 7,Oo 32 (.mkSl 118 none [(.c (.i .u64 1))]),Oc 33 145 [.t 31,.t 32],Om 7 33] (.reg [Of 35 1 3,Ol 36 35,Om 37 8,Oc 38 146 [.t 36,.t 37],Om 34 38,Oe 39 34 0,Oe 40 34 1,Om 8 39])) .skip)) (Sr [Of 41 0 2,Ol 42 41,Of 43 0 3,Ol 44 43,Oo 45 (.eqb .true (.t 42) (.t 44)),Om 46 7,Oo 47 (.build zI [(0,(1,(.t 45))),(1,(1,(.t 46)))]),Oc 48 58 [.t 47],Om 49 8,Oo 50 (.build zI [(1,(1,(.t 49)))]),Oc 51 58 [.t 50],Ot 2 4 48,Ot 2 5 51,Oo 6 (.mv (kI 0))] .ret)))))
theorem ok_ref02_Div:slimF Tryz.prog Tryz.f160=some (52,sc_ref02_Div,[(.cell 4 (some 2)),(.cell 5 (some 2)),(.tmp 6)]):=by kernel_rfl
abbrev f_strings_Join:Nat:=168
abbrev f_zint_Neg:Nat:=33
def sc_zint_Neg:SC:=(Sr [Oo 1 (.box 28 (.t 0)),Oo 2 (.alloc 28 zI)] (Sr [Of 3 0 1,Ol 4 3,Oo 5 (.un .not (.t 4)),Of 6 1 1,Ol 7 6,Oc 8 86 [.t 5,.t 7],Ot 2 2 8] .ret))
theorem ok_zint_Neg:slimF Tryz.prog Tryz.f33=some (9,sc_zint_Neg,[(.cell 2 (some 2))]):=by kernel_rfl
abbrev f_ref02_Sign:Nat:=57
def sc_ref02_Sign:SC:=(Sr [Oo 1 (.box 28 (.t 0)),Oo 2 (.mv (kI 0))] (Sr [Oq 4 2 1,Oc 5 58 [.t 4],Oo 3 (.alloc 28 zI),Ot 2 3 5] (.seq (Sr [Of 6 0 3,Ol 7 6] (.cond (.t 7) (Sr [Oo 2 (.mv (kI (-1)))] .ret) .skip)) (.seq (Sr [Of 8 1 3,Ol 9 8,Oz 10 9,On 11 .gtr 10 0] (.cond (.t 11) (Sr [Oo 2 (.mv (kI 1))] .ret) .skip)) (Sr [Oo 2 (.mv (kI 0))] .ret)))))
theorem ok_ref02_Sign:slimF Tryz.prog Tryz.f57=some (12,sc_ref02_Sign,[(.tmp 2)]):=by kernel_rfl
abbrev f_ref02_Of:Nat:=65
def sc_ref02_Of:SC:=(Sr [Oo 2 (.alloc 28 zI)] (.seq (Sr [Om 3 0,On 4 .lss 3 0] (.cond (.t 4) (Sr [Om 5 0,Oo 6 (.un .neg (.t 5)),Oo 7 (.conv .u64 (.t 6)),Oo 8 (.mkSl 118 none [.t 7]),Oo 9 (.build zI [(0,(1,(.c (.b .true)))),(1,(1,(.t 8)))]),Oc 10 58 [.t 9],Ot 2 2 10] .ret) .skip)) (Sr [Om 11 0,Oo 12 (.conv .u64 (.t 11)),Oo 13 (.mkSl 118 none [.t 12]),Oo 14 (.build zI [(1,(1,(.t 13)))]),Oc 15 58 [.t 14],Ot 2 2 15] .ret)))
theorem ok_ref02_Of:slimF Tryz.prog Tryz.f65=some (16,sc_ref02_Of,[(.cell 2 (some 2))]):=by kernel_rfl
abbrev f_zint_Norm:Nat:=81
def sc_zint_Norm:SC:=(Sr [Oo 1 (.box 28 (.t 0)),Oo 2 (.alloc 28 zI)] (Sr [Of 3 0 1,Ol 4 3,Of 5 1 1,Ol 6 5,Oc 7 86 [.t 4,.t 6],Ot 2 2 7] .ret))
theorem ok_zint_Norm:slimF Tryz.prog Tryz.f81=some (8,sc_zint_Norm,[(.cell 2 (some 2))]):=by kernel_rfl
abbrev f_zint_Sub:Nat:=85
def sc_zint_Sub:SC:=(Sr [Oo 2 (.box 28 (.t 0)),Oo 3 (.box 28 (.t 1)),Oo 4 (.alloc 28 zI)] (.seq (.regD [0,0,2,7,15] [Oq 5 2 2,Oq 6 2 3,Oc 7 33 [.t 6],Oc 8 82 [.t 5,.t 7],Ot 2 4 8]) .ret))
theorem ok_zint_Sub:slimF Tryz.prog Tryz.f85=some (9,sc_zint_Sub,[(.cell 4 (some 2))]):=by kernel_rfl
abbrev f_ref02_Exact:Nat:=109
def sc_ref02_Exact:SC:=(Sr [Oo 2 (.box 28 (.t 0)),Oo 3 (.box 28 (.t 1)),Oo 4 (.alloc 28 zI),Oo 5 (.mv (kI 0))] (Sr [Oq 10 2 2,Oq 11 2 3,Oc 12 160 [.t 10,.t 11],Om 9 12,Oe 13 9 0,Oe 14 9 1,Oe 15 9 2,Oo 6 (.alloc 28 zI),Oo 7 (.alloc 28 zI),Ot 2 6 13,Ot 2 7 14,Om 8 15] (.seq (Sr [Om 16 8,On 17 .neq 16 0] (.cond (.t 17) (Sr [Oo 18 (.build zI []),Om 19 8,Ot 2 4 18,Om 5 19] .ret) .skip)) (.seq (Sr [Oq 20 2 7,Oc 21 57 [.t 20],On 22 .neq 21 0] (.cond (.t 22) (Sr [Oo 23 (.build zI []),Ot 2 4 23,Oo 5 (.mv (kI 4))] .ret) .skip)) (Sr [Oq 24 2 6,Ot 2 4 24,Oo 5 (.mv (kI 0))] .ret)))))
theorem ok_ref02_Exact:slimF Tryz.prog Tryz.f109=some (25,sc_ref02_Exact,[(.cell 4 (some 2)),(.tmp 5)]):=by kernel_rfl
abbrev f_ref02_Sub:Nat:=121
def sc_ref02_Sub:SC:=(Sr [Oo 2 (.box 28 (.t 0)),Oo 3 (.box 28 (.t 1)),Oo 4 (.alloc 28 zI)] (.seq (.regD [0,0,2,7,15] [Oq 5 2 2,Oq 6 2 3,Oc 7 120 [.t 6],Oc 8 91 [.t 5,.t 7],Ot 2 4 8]) .ret))
theorem ok_ref02_Sub:slimF Tryz.prog Tryz.f121=some (9,sc_ref02_Sub,[(.cell 4 (some 2))]):=by kernel_rfl
abbrev f_ref02_Abs:Nat:=211
def sc_ref02_Abs:SC:=(Sr [Oo 1 (.box 28 (.t 0)),Oo 2 (.alloc 28 zI)] (Sr [Of 3 1 1,Ol 4 3,Oo 5 (.build zI [(1,(1,(.t 4)))]),Oc 6 58 [.t 5],Ot 2 2 6] .ret))
theorem ok_ref02_Abs:slimF Tryz.prog Tryz.f211=some (7,sc_ref02_Abs,[(.cell 2 (some 2))]):=by kernel_rfl
abbrev f_ref02_Same:Nat:=18
def sc_ref02_Same:SC:=(Sr [Oo 2 (.box 28 (.t 0)),Oo 3 (.box 28 (.t 1)),Oo 4 (.mv (.c (.b .false)))] (Sr [Of 5 0 2,Ol 6 5,Of 7 0 3,Ol 8 7,Oo 9 (.eqb .false (.t 6) (.t 8)),Om 10 9,Og 11 (.fieldAddr 1 none (.t 2)) 10 true,Og 12 (.load none (.t 11)) 10 true,Og 13 (.fieldAddr 1 none (.t 3)) 10 true,Og 14 (.load none (.t 13)) 10 true,Og 15 (.call (.f 68) [.t 12,.t 14]) 10 true,Oo 16 (.pick (.t 10) (.t 15) (.c (.b .false))),Om 4 16] .ret))
theorem ok_ref02_Same:slimF Tryz.prog Tryz.f18=some (17,sc_ref02_Same,[(.tmp 4)]):=by kernel_rfl
abbrev f_ref02_Norm:Nat:=58
def sc_ref02_Norm:SC:=(Sr [Oo 1 (.box 28 (.t 0)),Oo 2 (.alloc 28 zI)] (Sr [Of 4 1 1,Ol 5 4,Oc 6 116 [.t 5],Om 3 6] (Sr [Of 7 0 1,Ol 8 7,Om 9 8,Oj 10 3 9 true,Og 11 (.len .false (.t 10)) 9 true,Og 12 (.bin .gtr (.t 11) (kI 0)) 9 true,Oo 13 (.pick (.t 9) (.t 12) (.c (.b .false))),Om 14 3,Oo 15 (.build zI [(0,(1,(.t 13))),(1,(1,(.t 14)))]),Ot 2 2 15] .ret)))
theorem ok_ref02_Norm:slimF Tryz.prog Tryz.f58=some (16,sc_ref02_Norm,[(.cell 2 (some 2))]):=by kernel_rfl
abbrev f_zint_Gcd:Nat:=74
def sc_zint_Gcd:SC:=(Sr [Oo 2 (.box 28 (.t 0)),Oo 3 (.box 28 (.t 1)),Oo 4 (.alloc 28 zI)] (.seq (.regD [0,1,3,0,8,31,63,127] [Of 10 1 2,Ol 11 10,Oc 12 124 [.t 11],Of 13 1 3,Ol 14 13,Oc 15 124 [.t 14],Om 5 12,Om 6 15]) (.seq (.block 0 (.loop (.seq (Sr [Om 16 6,Oz 17 16,On 18 .gtr 17 0] (Sx 18 0)) (.block 1 (Sr [Om 20 5,Om 21 6,Oc 22 125 [.t 20,.t 21],Om 19 22,Oe 23 19 0,Oe 24 19 1,Oe 25 19 2,Om 7 23,Om 8 24,Om 9 25] (.reg [Om 26 6,Om 27 8,Om 5 26,Om 6 27])))))) (Sr [Om 28 5,Oc 29 86 [(.c (.b .false)),.t 28],Ot 2 4 29] .ret))))
theorem ok_zint_Gcd:slimF Tryz.prog Tryz.f74=some (30,sc_zint_Gcd,[(.cell 4 (some 2))]):=by kernel_rfl
abbrev f_zint_Add:Nat:=82
def sc_zint_Add:SC:=(Sr [Oo 2 (.box 28 (.t 0)),Oo 3 (.box 28 (.t 1)),Oo 4 (.alloc 28 zI)] (.seq (Sr [Of 7 0 2,Ol 8 7,Of 9 0 3,Ol 10 9,Oo 11 (.eqb .false (.t 8) (.t 10))] (.cond (.t 11) (.seq (.regD [0,1,0,4,0,16,60,127,255] [Of 12 0 2,Ol 13 12,Of 14 1 2,Ol 15 14,Of 16 1 3,Ol 17 16,Oc 18 129 [.t 15,.t 17],Oc 19 86 [.t 13,.t 18],Ot 2 4 19]) .ret) .skip)) (.seq (Sr [Of 20 1 2,Ol 21 20,Of 22 1 3,Ol 23 22,Oc 24 130 [.t 21,.t 23],On 25 .lss 24 0] (.cond (.t 25) (.reg [Oq 26 2 3,Oq 27 2 2,Ot 2 2 26,Ot 2 3 27]) .skip)) (Sr [Of 29 1 2,Ol 30 29,Of 31 1 3,Ol 32 31,Oc 33 131 [.t 30,.t 32],Om 28 33,Oe 34 28 0,Oe 35 28 1,Om 5 34,Om 6 35] (Sr [Of 36 0 2,Ol 37 36,Om 38 5,Oc 39 86 [.t 37,.t 38],Ot 2 4 39] .ret)))))
theorem ok_zint_Add:slimF Tryz.prog Tryz.f82=some (40,sc_zint_Add,[(.cell 4 (some 2))]):=by kernel_rfl
abbrev f_zint_made:Nat:=86
def sc_zint_made:SC:=(Sr [Oo 4 (.alloc 28 zI)] (Sr [Om 5 1,Oc 6 124 [.t 5],Om 1 6] (Sr [Om 7 0,Om 8 7,Oj 9 1 8 true,Og 10 (.len .false (.t 9)) 8 true,Og 11 (.bin .gtr (.t 10) (kI 0)) 8 true,Oo 12 (.pick (.t 8) (.t 11) (.c (.b .false))),Om 13 1,Oo 14 (.build zI [(0,(1,(.t 12))),(1,(1,(.t 13)))]),Ot 2 4 14] .ret)))
theorem ok_zint_made:slimF Tryz.prog Tryz.f86=some (15,sc_zint_made,[(.cell 4 (some 2))]):=by kernel_rfl
abbrev f_ref02_Cmp:Nat:=94
def sc_ref02_Cmp:SC:=(Sr [Oo 2 (.box 28 (.t 0)),Oo 3 (.box 28 (.t 1)),Oo 4 (.mv (kI 0))] (Sr [Oq 5 2 2,Oq 6 2 3,Oc 7 121 [.t 5,.t 6],Oc 8 57 [.t 7],Om 4 8] .ret))
theorem ok_ref02_Cmp:slimF Tryz.prog Tryz.f94=some (9,sc_ref02_Cmp,[(.tmp 4)]):=by kernel_rfl
end Go.Vw
