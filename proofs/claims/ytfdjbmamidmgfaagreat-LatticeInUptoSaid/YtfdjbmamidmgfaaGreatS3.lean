/- The slim forms of functions, written by a program; each is checked by the kernel. -/
import Derived.Test.YtfdjbmamidmgfaaGreatVB
import Derived.Test.YtfdjbmamidmgfaaGreatProg
import Derived.KernelRfl
set_option maxRecDepth 100000
namespace Go.Vw
open Go.Proofs
abbrev f_rat_Mul:Nat:=163
def sc_rat_Mul:SC:=(Sr [Oo 2 (.box 114 (.t 0)),Oo 3 (.box 114 (.t 1)),Oo 4 (.alloc 114 [(.b .false),(.sl none []),(.sl none [])])] (.seq (.regD [0,1,0,7,15,31] [Oq 5 3 2,Oc 6 164 [.t 5],Oq 7 3 3,Oc 8 164 [.t 7],Ot 3 2 6,Ot 3 3 8]) (.seq (.regD [0,1,0,4,15,0,32,0,128,511,1023,2047,4095] [Oo 9 (.fieldAddr 0 (some 2) (.t 2)),Oq 10 2 9,Oo 11 (.fieldAddr 0 (some 2) (.t 3)),Oq 12 2 11,Oc 13 60 [.t 10,.t 12],Of 14 2 2,Ol 15 14,Of 16 2 3,Ol 17 16,Oc 18 117 [.t 15,.t 17],Oo 19 (.build [(.b .false),(.sl none []),(.sl none [])] [(0,(2,(.t 13))),(2,(1,(.t 18)))]),Oc 20 164 [.t 19],Ot 3 4 20]) .ret)))
theorem ok_rat_Mul:slimF Tryz.prog Tryz.f163=some (21,sc_rat_Mul,[(.cell 4 (some 3))]):=by kernel_rfl
abbrev f_rat_Make:Nat:=197
def sc_rat_Make:SC:=(Sr [Oo 2 (.box 28 (.t 0)),Oo 3 (.box 28 (.t 1)),Oo 4 (.alloc 114 [(.b .false),(.sl none []),(.sl none [])]),Oo 5 (.mv (kI 0))] (.seq (Sr [Oq 11 2 3,Oc 12 79 [.t 11],On 13 .eql 12 0] (.cond (.t 13) (Sr [Oo 14 (.build [(.b .false),(.sl none []),(.sl none [])] []),Ot 3 4 14,Oo 5 (.mv (kI 3))] .ret) .skip)) (Sr [Oq 15 2 2,Oq 16 2 3,Oc 17 74 [.t 15,.t 16],Oo 6 (.alloc 28 zI),Ot 2 6 17] (Sr [Oq 19 2 2,Oq 20 2 6,Oc 21 64 [.t 19,.t 20],Om 18 21,Oe 22 18 0,Oe 23 18 1,Oo 7 (.alloc 28 zI),Ot 2 7 22,Om 8 23] (Sr [Oq 25 2 3,Oq 26 2 6,Oc 27 64 [.t 25,.t 26],Om 24 27,Oe 28 24 0,Oe 29 24 1,Oo 9 (.alloc 28 zI),Ot 2 9 28,Om 10 29] (.seq (Sr [Of 30 0 9,Ol 31 30] (.cond (.t 31) (.reg [Oq 32 2 7,Oc 33 33 [.t 32],Ot 2 7 33]) .skip)) (Sr [Oq 34 2 7,Of 35 1 9,Ol 36 35,Oo 37 (.build [(.b .false),(.sl none []),(.sl none [])] [(0,(2,(.t 34))),(2,(1,(.t 36)))]),Ot 3 4 37,Oo 5 (.mv (kI 0))] .ret)))))))
theorem ok_rat_Make:slimF Tryz.prog Tryz.f197=some (38,sc_rat_Make,[(.cell 4 (some 3)),(.tmp 5)]):=by kernel_rfl
abbrev f_rat_crossed:Nat:=213
def sc_rat_crossed:SC:=(Sr [Oo 3 (.box 114 (.t 0)),Oo 4 (.box 114 (.t 1)),Oo 6 (.alloc 114 [(.b .false),(.sl none []),(.sl none [])])] (.seq (.regD [0,1,0,7,15,31] [Oq 8 3 3,Oc 9 164 [.t 8],Oq 10 3 4,Oc 11 164 [.t 10],Ot 3 3 9,Ot 3 4 11]) (.seq (.regD [0,0,2,0,8,30,0,64,0,318,1022,2047,0,8191] [Om 12 2,Oo 13 (.fieldAddr 0 (some 2) (.t 3)),Oq 14 2 13,Oq 15 3 4,Oc 16 198 [.t 15],Oc 17 60 [.t 14,.t 16],Oo 18 (.fieldAddr 0 (some 2) (.t 4)),Oq 19 2 18,Oq 20 3 3,Oc 21 198 [.t 20],Oc 22 60 [.t 19,.t 21],Oo 23 (.call (.t 12) [.t 17,.t 22]),Oo 7 (.alloc 28 zI),Ot 2 7 23]) (.seq (.regD [0,0,2,0,8,30,63,127,255] [Oq 24 2 7,Of 25 2 3,Ol 26 25,Of 27 2 4,Ol 28 27,Oc 29 117 [.t 26,.t 28],Oo 30 (.build [(.b .false),(.sl none []),(.sl none [])] [(0,(2,(.t 24))),(2,(1,(.t 29)))]),Oc 31 164 [.t 30],Ot 3 6 31]) .ret))))
theorem ok_rat_crossed:slimF Tryz.prog Tryz.f213=some (32,sc_rat_crossed,[(.cell 6 (some 3))]):=by kernel_rfl
abbrev f_rat_Whole:Nat:=112
def sc_rat_Whole:SC:=(Sr [Oo 1 (.box 114 (.t 0)),Oo 2 (.alloc 28 zI),Oo 3 (.mv (.c (.b .false)))] (Sr [Oq 4 3 1,Oc 5 164 [.t 4],Ot 3 1 5] (.seq (Sr [Of 6 2 1,Ol 7 6,Oo 8 (.mkSl 118 none [(.c (.i .u64 1))]),Oc 9 130 [.t 7,.t 8],On 10 .neq 9 0] (.cond (.t 10) (Sr [Oo 11 (.build zI []),Ot 2 2 11,Oo 3 (.mv (.c (.b .false)))] .ret) .skip)) (Sr [Oo 12 (.fieldAddr 0 (some 2) (.t 1)),Oq 13 2 12,Ot 2 2 13,Oo 3 (.mv (.c (.b .true)))] .ret))))
theorem ok_rat_Whole:slimF Tryz.prog Tryz.f112=some (14,sc_rat_Whole,[(.cell 2 (some 2)),(.tmp 3)]):=by kernel_rfl
abbrev f_rat_Norm:Nat:=164
def sc_rat_Norm:SC:=(Sr [Oo 1 (.box 114 (.t 0)),Oo 2 (.alloc 114 [(.b .false),(.sl none []),(.sl none [])])] (.seq (.regD [0,1,0,4,15,31,63,63,0,383,1023] [Oo 6 (.fieldAddr 0 (some 2) (.t 1)),Oq 7 2 6,Oq 8 3 1,Oc 9 198 [.t 8],Oc 10 197 [.t 7,.t 9],Om 5 10,Oe 11 5 0,Oe 12 5 1,Oo 3 (.alloc 114 [(.b .false),(.sl none []),(.sl none [])]),Ot 3 3 11,Om 4 12]) (.seq (Sr [Om 13 4,On 14 .neq 13 0] (.cond (.t 14) (Sr [Oc 15 200 [(kI 0)],Ot 3 2 15] .ret) .skip)) (Sr [Oq 16 3 3,Ot 3 2 16] .ret))))
theorem ok_rat_Norm:slimF Tryz.prog Tryz.f164=some (17,sc_rat_Norm,[(.cell 2 (some 3))]):=by kernel_rfl
abbrev f_rat_den:Nat:=198
def sc_rat_den:SC:=(Sr [Oo 1 (.box 114 (.t 0)),Oo 2 (.alloc 28 zI)] (Sr [Of 3 2 1,Ol 4 3,Oo 5 (.build zI [(1,(1,(.t 4)))]),Oc 6 81 [.t 5],Ot 2 2 6] .ret))
theorem ok_rat_den:slimF Tryz.prog Tryz.f198=some (7,sc_rat_den,[(.cell 2 (some 2))]):=by kernel_rfl
abbrev f_rat_joined_1:Nat:=214
def sc_rat_joined_1:SC:=(Sr [Oo 3 (.box 28 (.t 0)),Oo 4 (.box 28 (.t 1)),Oo 5 (.alloc 28 zI)] (.seq (Sr [Ol 6 2] (.cond (.t 6) (Sr [Oq 7 2 3,Oq 8 2 4,Oc 9 85 [.t 7,.t 8],Ot 2 5 9] .ret) .skip)) (Sr [Oq 10 2 3,Oq 11 2 4,Oc 12 82 [.t 10,.t 11],Ot 2 5 12] .ret)))
theorem ok_rat_joined_1:slimF Tryz.prog Tryz.f214=some (13,sc_rat_joined_1,[(.cell 5 (some 2))]):=by kernel_rfl
abbrev f_ref03_Of:Nat:=105
def sc_ref03_Of:SC:=(Sr [Oo 2 (.alloc 114 [(.b .false),(.sl none []),(.sl none [])])] (Sr [Om 3 0,Oc 4 65 [.t 3],Oo 5 (.mkSl 118 none [(.c (.i .u64 1))]),Oo 6 (.build [(.b .false),(.sl none []),(.sl none [])] [(0,(2,(.t 4))),(2,(1,(.t 5)))]),Ot 3 2 6] .ret))
theorem ok_ref03_Of:slimF Tryz.prog Tryz.f105=some (7,sc_ref03_Of,[(.cell 2 (some 3))]):=by kernel_rfl
abbrev f_rat_Sign:Nat:=113
def sc_rat_Sign:SC:=(Sr [Oo 1 (.box 114 (.t 0)),Oo 2 (.mv (kI 0))] (Sr [Oq 3 3 1,Oc 4 164 [.t 3],Oo 5 (.field 0 (some 2) (.t 4)),Oc 6 79 [.t 5],Om 2 6] .ret))
theorem ok_rat_Sign:slimF Tryz.prog Tryz.f113=some (7,sc_rat_Sign,[(.tmp 2)]):=by kernel_rfl
abbrev f_rat_Div:Nat:=161
def sc_rat_Div:SC:=(Sr [Oo 2 (.box 114 (.t 0)),Oo 3 (.box 114 (.t 1)),Oo 4 (.alloc 114 [(.b .false),(.sl none []),(.sl none [])]),Oo 5 (.mv (kI 0))] (.seq (.regD [0,1,0,7,15,31] [Oq 6 3 2,Oc 7 164 [.t 6],Oq 8 3 3,Oc 9 164 [.t 8],Ot 3 2 7,Ot 3 3 9]) (.seq (.regD [0,1,0,4,15,0,32,0,159,511,1023,2047,2047,8191,16383] [Oo 10 (.fieldAddr 0 (some 2) (.t 2)),Oq 11 2 10,Oq 12 3 3,Oc 13 198 [.t 12],Oc 14 60 [.t 11,.t 13],Oo 15 (.fieldAddr 0 (some 2) (.t 3)),Oq 16 2 15,Oq 17 3 2,Oc 18 198 [.t 17],Oc 19 60 [.t 16,.t 18],Oc 20 197 [.t 14,.t 19],Oe 21 20 0,Oe 22 20 1,Ot 3 4 21,Om 5 22]) .ret)))
theorem ok_rat_Div:slimF Tryz.prog Tryz.f161=some (23,sc_rat_Div,[(.cell 4 (some 3)),(.tmp 5)]):=by kernel_rfl
abbrev f_ref03_Make:Nat:=195
def sc_ref03_Make:SC:=(Sr [Oo 2 (.box 28 (.t 0)),Oo 3 (.box 28 (.t 1)),Oo 4 (.alloc 114 [(.b .false),(.sl none []),(.sl none [])]),Oo 5 (.mv (kI 0))] (.seq (Sr [Oq 13 2 3,Oc 14 57 [.t 13],On 15 .eql 14 0] (.cond (.t 15) (Sr [Oo 16 (.build [(.b .false),(.sl none []),(.sl none [])] []),Ot 3 4 16,Oo 5 (.mv (kI 3))] .ret) .skip)) (Sr [Oq 17 2 2,Oq 18 2 3,Oc 19 185 [.t 17,.t 18],Oo 6 (.alloc 28 zI),Ot 2 6 19] (Sr [Oq 21 2 2,Oq 22 2 6,Oc 23 160 [.t 21,.t 22],Om 20 23,Oe 24 20 0,Oe 25 20 1,Oe 26 20 2,Oo 7 (.alloc 28 zI),Oo 8 (.alloc 28 zI),Ot 2 7 24,Ot 2 8 25,Om 9 26] (Sr [Oq 28 2 3,Oq 29 2 6,Oc 30 160 [.t 28,.t 29],Om 27 30,Oe 31 27 0,Oe 32 27 1,Oe 33 27 2,Oo 10 (.alloc 28 zI),Oo 11 (.alloc 28 zI),Ot 2 10 31,Ot 2 11 32,Om 12 33] (.seq (Sr [Of 34 0 10,Ol 35 34] (.cond (.t 35) (.reg [Oq 36 2 7,Oc 37 120 [.t 36],Ot 2 7 37]) .skip)) (Sr [Oq 38 2 7,Of 39 1 10,Ol 40 39,Oo 41 (.build [(.b .false),(.sl none []),(.sl none [])] [(0,(2,(.t 38))),(2,(1,(.t 40)))]),Ot 3 4 41,Oo 5 (.mv (kI 0))] .ret)))))))
theorem ok_ref03_Make:slimF Tryz.prog Tryz.f195=some (42,sc_ref03_Make,[(.cell 4 (some 3)),(.tmp 5)]):=by kernel_rfl
abbrev f_rat_joined:Nat:=199
def sc_rat_joined:SC:=(Sr [Oo 3 (.box 114 (.t 0)),Oo 4 (.box 114 (.t 1)),Oo 5 (.box 4 (.t 2)),Oo 6 (.alloc 114 [(.b .false),(.sl none []),(.sl none [])])] (Sr [Oq 7 3 3,Oq 8 3 4,Oo 9 (.makeFn 214 [.t 5]),Oc 10 213 [.t 7,.t 8,.t 9],Ot 3 6 10] .ret))
theorem ok_rat_joined:slimF Tryz.prog Tryz.f199=some (11,sc_rat_joined,[(.cell 6 (some 3))]):=by kernel_rfl
abbrev f_rat_Sub:Nat:=162
def sc_rat_Sub:SC:=(Sr [Oo 2 (.box 114 (.t 0)),Oo 3 (.box 114 (.t 1)),Oo 4 (.alloc 114 [(.b .false),(.sl none []),(.sl none [])])] (Sr [Oq 5 3 2,Oq 6 3 3,Oc 7 199 [.t 5,.t 6,(.c (.b .true))],Ot 3 4 7] .ret))
theorem ok_rat_Sub:slimF Tryz.prog Tryz.f162=some (8,sc_rat_Sub,[(.cell 4 (some 3))]):=by kernel_rfl
abbrev f_rat_Of:Nat:=200
def sc_rat_Of:SC:=(Sr [Oo 2 (.alloc 114 [(.b .false),(.sl none []),(.sl none [])])] (Sr [Om 3 0,Oc 4 59 [.t 3],Oo 5 (.mkSl 118 none [(.c (.i .u64 1))]),Oo 6 (.build [(.b .false),(.sl none []),(.sl none [])] [(0,(2,(.t 4))),(2,(1,(.t 5)))]),Ot 3 2 6] .ret))
theorem ok_rat_Of:slimF Tryz.prog Tryz.f200=some (7,sc_rat_Of,[(.cell 2 (some 3))]):=by kernel_rfl
end Go.Vw
