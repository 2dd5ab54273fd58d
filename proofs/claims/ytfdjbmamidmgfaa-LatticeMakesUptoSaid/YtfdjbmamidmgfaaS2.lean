/- The slim forms of functions, written by a program; each is checked by the kernel. -/
import Derived.Test.YtfdjbmamidmgfaaVB
import Derived.Test.YtfdjbmamidmgfaaProg
import Derived.KernelRfl
set_option maxRecDepth 100000
namespace Go.Vw
open Go.Proofs
abbrev f_zint_Sign:Nat:=11
def sc_zint_Sign:SC:=(Sr [Oo 1 (.box 27 (.t 0)),Oo 2 (.mv (kI 0))] (Sr [Oq 4 2 1,Oc 5 39 [.t 4],Ot 2 1 5] (Sr [Oo 3 (.mv (kI 0))] (.seq (.block 0 (.seq (.block 2 (.seq (.block 1 (.seq (.seq (Sr [Of 7 0 1,Ol 8 7,Om 6 8] (.cond (.t 6) (.exit 1) .skip)) (Sr [Of 10 1 1,Ol 11 10,Oz 12 11,On 13 .gtr 12 0,Om 9 13] (.cond (.t 9) (.exit 2) .skip))) (.exit 0))) (.reg [Om 14 3,On 15 .sub 14 2,Om 3 15]))) (Sr [Om 16 3,On 17 .add 16 1,Om 3 17] (.exit 0)))) (Sr [Om 18 3,Om 2 18] .ret)))))
theorem ok_zint_Sign:slimF Try.prog Try.f11=some (19,sc_zint_Sign,[(.tmp 2)]):=by kernel_rfl
abbrev f_zint_Of:Nat:=15
def sc_zint_Of:SC:=(Sr [Oo 2 (.alloc 27 zI)] (.seq (Sr [Om 3 0,On 4 .lss 3 0] (.cond (.t 4) (Sr [Om 5 0,Oo 6 (.conv .u64 (.t 5)),Oo 7 (.un .neg (.t 6)),Oo 8 (.mkSl 68 none [.t 7]),Oc 9 43 [(.c (.b .true)),.t 8],Ot 2 2 9] .ret) .skip)) (Sr [Om 10 0,Oo 11 (.conv .u64 (.t 10)),Oo 12 (.mkSl 68 none [.t 11]),Oc 13 43 [(.c (.b .false)),.t 12],Ot 2 2 13] .ret)))
theorem ok_zint_Of:slimF Try.prog Try.f15=some (14,sc_zint_Of,[(.cell 2 (some 2))]):=by kernel_rfl
abbrev f_zint_Norm:Nat:=39
def sc_zint_Norm:SC:=(Sr [Oo 1 (.box 27 (.t 0)),Oo 2 (.alloc 27 zI)] (Sr [Of 3 0 1,Ol 4 3,Of 5 1 1,Ol 6 5,Oc 7 43 [.t 4,.t 6],Ot 2 2 7] .ret))
theorem ok_zint_Norm:slimF Try.prog Try.f39=some (8,sc_zint_Norm,[(.cell 2 (some 2))]):=by kernel_rfl
abbrev f_zint_made:Nat:=43
def sc_zint_made:SC:=(Sr [Oo 4 (.alloc 27 zI)] (Sr [Om 5 1,Oc 6 67 [.t 5],Om 1 6] (Sr [Om 7 0,Om 8 7,Oj 9 1 8 true,Og 10 (.len .false (.t 9)) 8 true,Og 11 (.bin .gtr (.t 10) (kI 0)) 8 true,Oo 12 (.pick (.t 8) (.t 11) (.c (.b .false))),Om 13 1,Oo 14 (.build zI [(0,(1,(.t 12))),(1,(1,(.t 13)))]),Ot 2 4 14] .ret)))
theorem ok_zint_made:slimF Try.prog Try.f43=some (15,sc_zint_made,[(.cell 4 (some 2))]):=by kernel_rfl
abbrev f_slices_Reverse_Lstring_string:Nat:=93
def sc_slices_Reverse_Lstring_string:SC:=(Sr [Om 4 0,Oz 5 4,On 6 .sub 5 1,Oo 2 (.mv (kI 0)),Om 3 6] (.block 0 (.loop (.seq (Sr [Om 7 2,Om 8 3,Ob 9 .lss 7 8] (Sx 9 0)) (.seq (.block 1 (.regD [0,0,0,0,0,0,48,112,0,0,768,1792,4083,8179,16383,32767] [Om 14 0,Om 15 2,Om 16 0,Om 17 3,Om 18 0,Om 19 3,Oi 20 18 19,Ol 21 20,Om 22 0,Om 23 2,Oi 24 22 23,Ol 25 24,Oi 26 14 15,Ou (.store none (.t 26) (.t 21)),Oi 27 16 17,Ou (.store none (.t 27) (.t 25))])) (.reg [Om 10 2,On 11 .add 10 1,Om 12 3,On 13 .sub 12 1,Om 2 11,Om 3 13]))))))
theorem ok_slices_Reverse_Lstring_string:slimF Try.prog Try.f93=some (28,sc_slices_Reverse_Lstring_string,[]):=by kernel_rfl
abbrev f_zint_Cmp:Nat:=24
def sc_zint_Cmp:SC:=(Sr [Oo 2 (.box 27 (.t 0)),Oo 3 (.box 27 (.t 1)),Oo 4 (.mv (kI 0))] (Sr [Oq 5 2 2,Oq 6 2 3,Oc 7 56 [.t 5,.t 6],Oc 8 11 [.t 7],Om 4 8] .ret))
theorem ok_zint_Cmp:slimF Try.prog Try.f24=some (9,sc_zint_Cmp,[(.tmp 4)]):=by kernel_rfl
abbrev f_zint_Exact:Nat:=36
def sc_zint_Exact:SC:=(Sr [Oo 2 (.box 27 (.t 0)),Oo 3 (.box 27 (.t 1)),Oo 4 (.alloc 27 zI),Oo 5 (.mv (kI 0))] (Sr [Oq 10 2 2,Oq 11 2 3,Oc 12 66 [.t 10,.t 11],Om 9 12,Oe 13 9 0,Oe 14 9 1,Oe 15 9 2,Oo 6 (.alloc 27 zI),Oo 7 (.alloc 27 zI),Ot 2 6 13,Ot 2 7 14,Om 8 15] (.seq (.block 0 (Sr [Om 17 8,On 18 .neq 17 0,Om 16 18] (.cond (.t 16) (Sr [Oo 19 (.build zI []),Om 20 8,Ot 2 4 19,Om 5 20] .ret) (Sr [Oq 22 2 7,Oc 23 11 [.t 22],On 24 .neq 23 0,Om 21 24] (.cond (.t 21) (Sr [Oo 25 (.build zI []),Ot 2 4 25,Oo 5 (.mv (kI 4))] .ret) .skip))))) (Sr [Oq 26 2 6,Ot 2 4 26,Oo 5 (.mv (kI 0))] .ret))))
theorem ok_zint_Exact:slimF Try.prog Try.f36=some (27,sc_zint_Exact,[(.cell 4 (some 2)),(.tmp 5)]):=by kernel_rfl
abbrev f_zint_Gcd:Nat:=40
def sc_zint_Gcd:SC:=(Sr [Oo 2 (.box 27 (.t 0)),Oo 3 (.box 27 (.t 1)),Oo 4 (.alloc 27 zI)] (.seq (.regD [0,1,3,0,8,31,63,127] [Of 10 1 2,Ol 11 10,Oc 12 67 [.t 11],Of 13 1 3,Ol 14 13,Oc 15 67 [.t 14],Om 5 12,Om 6 15]) (.seq (.block 0 (.loop (.seq (Sr [Om 16 6,Oz 17 16,On 18 .gtr 17 0] (Sx 18 0)) (.block 1 (Sr [Om 20 5,Om 21 6,Oc 22 68 [.t 20,.t 21],Om 19 22,Oe 23 19 0,Oe 24 19 1,Oe 25 19 2,Om 7 23,Om 8 24,Om 9 25] (.reg [Om 26 6,Om 27 8,Om 5 26,Om 6 27])))))) (Sr [Om 28 5,Oc 29 43 [(.c (.b .false)),.t 28],Ot 2 4 29] .ret))))
theorem ok_zint_Gcd:slimF Try.prog Try.f40=some (30,sc_zint_Gcd,[(.cell 4 (some 2))]):=by kernel_rfl
abbrev f_zint_Sub:Nat:=56
def sc_zint_Sub:SC:=(Sr [Oo 2 (.box 27 (.t 0)),Oo 3 (.box 27 (.t 1)),Oo 4 (.alloc 27 zI)] (.seq (.regD [0,0,2,7,15] [Oq 5 2 2,Oq 6 2 3,Oc 7 14 [.t 6],Oc 8 22 [.t 5,.t 7],Ot 2 4 8]) .ret))
theorem ok_zint_Sub:slimF Try.prog Try.f56=some (9,sc_zint_Sub,[(.cell 4 (some 2))]):=by kernel_rfl
abbrev f_strings_Join:Nat:=94
def sc_strings_Join:SC:=(Sr [Oo 4 (.mv (.c (.s ⟨⟨[]⟩⟩)))] (.seq (Sr [Om 11 0,Oz 12 11] (.block 0 (Sr [On 14 .eql 12 0,Om 13 14] (.cond (.t 13) (Sr [Oo 4 (.mv (.c (.s ⟨⟨[]⟩⟩)))] .ret) (Sr [On 16 .eql 12 1,Om 15 16] (.cond (.t 15) (Sr [Om 17 0,Oo 18 (.indexAddr none (.t 17) (kI 0)),Ol 19 18,Om 4 19] .ret) .skip)))))) (Sr [Oo 5 (.mv (kI 0))] (.seq (Sr [Om 20 1,Oo 21 (.len .true (.t 20)),On 22 .gtr 21 0] (.cond (.t 22) (.seq (Sr [Om 23 1,Oo 24 (.len .true (.t 23)),Om 25 0,Oz 26 25,On 27 .sub 26 1,Oo 28 (.bin .quo (kI 9223372036854775807) (.t 27)),Ob 29 .geq 24 28] (.cond (.t 29) (.reg [⟨(some 30),.bad,none⟩,⟨none,.bad,none⟩]) .skip)) (.reg [Om 31 5,Om 32 1,Oo 33 (.len .true (.t 32)),Om 34 0,Oz 35 34,On 36 .sub 35 1,Ob 37 .mul 33 36,Ob 38 .add 31 37,Om 5 38])) .skip)) (.seq (Sr [Om 39 0,Oz 40 39,Oo 41 (.mv (kI 0))] (.block 1 (.loop (Sr [Ob 42 .lss 41 40] (.seq (Sx 42 1) (.seq (.block 2 (Sr [Oi 43 39 41,Ol 44 43,Om 7 44] (.seq (Sr [Om 45 7,Oo 46 (.len .true (.t 45)),Om 47 5,Oo 48 (.bin .sub (kI 9223372036854775807) (.t 47)),Ob 49 .gtr 46 48] (.cond (.t 49) (.reg [⟨(some 50),.bad,none⟩,⟨none,.bad,none⟩]) .skip)) (.reg [Om 51 5,Om 52 7,Oo 53 (.len .true (.t 52)),Ob 54 .add 51 53,Om 5 54])))) (.reg [On 55 .add 41 1,Om 41 55]))))))) (Sr [⟨(some 8),.bad,none⟩] (Sr [Om 56 5,Oc 57 111 [.t 8,.t 56]] (Sr [Om 58 0,Oo 59 (.indexAddr none (.t 58) (kI 0)),Ol 60 59,Oc 61 112 [.t 8,.t 60]] (.seq (Sr [Om 62 0,Oo 63 (.slice (some none) (.t 62) (some (kI 1)) none),Oz 64 63,Oo 65 (.mv (kI 0))] (.block 3 (.loop (Sr [Ob 66 .lss 65 64] (.seq (Sx 66 3) (.seq (.block 4 (Sr [Oi 67 63 65,Ol 68 67,Om 10 68] (Sr [Om 69 1,Oc 70 112 [.t 8,.t 69]] (.reg [Om 71 10,Oc 72 112 [.t 8,.t 71]])))) (.reg [On 73 .add 65 1,Om 65 73]))))))) (Sr [Oc 74 113 [.t 8],Om 4 74] .ret))))))))))
theorem ok_strings_Join:slimF Try.prog Try.f94=some (75,sc_strings_Join,[(.tmp 4)]):=by kernel_rfl
abbrev f_zint_Mul:Nat:=17
def sc_zint_Mul:SC:=(Sr [Oo 2 (.box 27 (.t 0)),Oo 3 (.box 27 (.t 1)),Oo 4 (.alloc 27 zI)] (.seq (.regD [0,1,0,4,15,0,32,0,128,480,1023,2047] [Of 5 0 2,Ol 6 5,Of 7 0 3,Ol 8 7,Oo 9 (.eqb .true (.t 6) (.t 8)),Of 10 1 2,Ol 11 10,Of 12 1 3,Ol 13 12,Oc 14 45 [.t 11,.t 13],Oc 15 43 [.t 9,.t 14],Ot 2 4 15]) .ret))
theorem ok_zint_Mul:slimF Try.prog Try.f17=some (16,sc_zint_Mul,[(.cell 4 (some 2))]):=by kernel_rfl
abbrev f_zint_Text:Nat:=29
def sc_zint_Text:SC:=(Sr [Oo 1 (.box 27 (.t 0)),Oo 2 (.mv (.c (.s ⟨⟨[]⟩⟩)))] (.seq (Sr [Oq 3 2 1,Oc 4 11 [.t 3],On 5 .lss 4 0] (.cond (.t 5) (Sr [Of 6 1 1,Ol 7 6,Oc 8 62 [.t 7],Oo 9 (.bin .add (.c (.s ⟨⟨[45]⟩⟩)) (.t 8)),Om 2 9] .ret) .skip)) (Sr [Of 10 1 1,Ol 11 10,Oc 12 62 [.t 11],Om 2 12] .ret)))
theorem ok_zint_Text:slimF Try.prog Try.f29=some (13,sc_zint_Text,[(.tmp 2)]):=by kernel_rfl
abbrev f_zint_Neg:Nat:=14
def sc_zint_Neg:SC:=(Sr [Oo 1 (.box 27 (.t 0)),Oo 2 (.alloc 27 zI)] (Sr [Of 3 0 1,Ol 4 3,Oo 5 (.un .not (.t 4)),Of 6 1 1,Ol 7 6,Oc 8 43 [.t 5,.t 7],Ot 2 2 8] .ret))
theorem ok_zint_Neg:slimF Try.prog Try.f14=some (9,sc_zint_Neg,[(.cell 2 (some 2))]):=by kernel_rfl
abbrev f_zint_Add:Nat:=22
def sc_zint_Add:SC:=(Sr [Oo 2 (.box 27 (.t 0)),Oo 3 (.box 27 (.t 1)),Oo 4 (.alloc 27 zI)] (.seq (Sr [Of 7 0 2,Ol 8 7,Of 9 0 3,Ol 10 9,Oo 11 (.eqb .false (.t 8) (.t 10))] (.cond (.t 11) (.seq (.regD [0,1,0,4,0,16,60,127,255] [Of 12 0 2,Ol 13 12,Of 14 1 2,Ol 15 14,Of 16 1 3,Ol 17 16,Oc 18 52 [.t 15,.t 17],Oc 19 43 [.t 13,.t 18],Ot 2 4 19]) .ret) .skip)) (.seq (Sr [Of 20 1 2,Ol 21 20,Of 22 1 3,Ol 23 22,Oc 24 53 [.t 21,.t 23],On 25 .lss 24 0] (.cond (.t 25) (.reg [Oq 26 2 3,Oq 27 2 2,Ot 2 2 26,Ot 2 3 27]) .skip)) (Sr [Of 29 1 2,Ol 30 29,Of 31 1 3,Ol 32 31,Oc 33 54 [.t 30,.t 32],Om 28 33,Oe 34 28 0,Oe 35 28 1,Om 5 34,Om 6 35] (Sr [Of 36 0 2,Ol 37 36,Om 38 5,Oc 39 43 [.t 37,.t 38],Ot 2 4 39] .ret)))))
theorem ok_zint_Add:slimF Try.prog Try.f22=some (40,sc_zint_Add,[(.cell 4 (some 2))]):=by kernel_rfl
abbrev f_zint_Div:Nat:=66
def sc_zint_Div:SC:=(Sr [Oo 2 (.box 27 (.t 0)),Oo 3 (.box 27 (.t 1)),Oo 4 (.alloc 27 zI),Oo 5 (.alloc 27 zI),Oo 6 (.mv (kI 0))] (Sr [Of 11 1 2,Ol 12 11,Of 13 1 3,Ol 14 13,Oc 15 68 [.t 12,.t 14],Om 10 15,Oe 16 10 0,Oe 17 10 1,Oe 18 10 2,Om 7 16,Om 8 17,Om 9 18] (.seq (Sr [Om 19 9,On 20 .neq 19 0] (.cond (.t 20) (Sr [Oo 21 (.build zI []),Oo 22 (.build zI []),Om 23 9,Ot 2 4 21,Ot 2 5 22,Om 6 23] .ret) .skip)) (.seq (Sr [Of 24 0 2,Ol 25 24,Om 26 25,Oj 27 8 26 true,Og 28 (.len .false (.t 27)) 26 true,Og 29 (.bin .gtr (.t 28) (kI 0)) 26 true,Oo 30 (.pick (.t 26) (.t 29) (.c (.b .false)))] (.cond (.t 30) (Sr [Om 31 7,Oo 32 (.mkSl 68 none [(.c (.i .u64 1))]),Oc 33 52 [.t 31,.t 32],Om 7 33] (.reg [Of 35 1 3,Ol 36 35,Om 37 8,Oc 38 54 [.t 36,.t 37],Om 34 38,Oe 39 34 0,Oe 40 34 1,Om 8 39])) .skip)) (Sr [Of 41 0 2,Ol 42 41,Of 43 0 3,Ol 44 43,Oo 45 (.eqb .true (.t 42) (.t 44)),Om 46 7,Oc 47 43 [.t 45,.t 46],Om 48 8,Oc 49 43 [(.c (.b .false)),.t 48],Ot 2 4 47,Ot 2 5 49,Oo 6 (.mv (kI 0))] .ret)))))
theorem ok_zint_Div:slimF Try.prog Try.f66=some (50,sc_zint_Div,[(.cell 4 (some 2)),(.cell 5 (some 2)),(.tmp 6)]):=by kernel_rfl
end Go.Vw
