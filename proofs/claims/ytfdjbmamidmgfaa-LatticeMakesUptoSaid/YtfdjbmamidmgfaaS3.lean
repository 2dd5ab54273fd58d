/- The slim forms of functions, written by a program; each is checked by the kernel. -/
import Derived.Test.YtfdjbmamidmgfaaVB
import Derived.Test.YtfdjbmamidmgfaaProg
import Derived.KernelRfl
set_option maxRecDepth 100000
namespace Go.Vw
open Go.Proofs
abbrev f_rat_Sign:Nat:=59
def sc_rat_Sign:SC:=(Sr [Oo 1 (.box 90 (.t 0)),Oo 2 (.mv (kI 0))] (Sr [Oq 3 3 1,Oc 4 88 [.t 3],Oo 5 (.field 0 (some 2) (.t 4)),Oc 6 11 [.t 5],Om 2 6] .ret))
theorem ok_rat_Sign:slimF Try.prog Try.f59=some (7,sc_rat_Sign,[(.tmp 2)]):=by kernel_rfl
abbrev f_rat_Div:Nat:=85
def sc_rat_Div:SC:=(Sr [Oo 2 (.box 90 (.t 0)),Oo 3 (.box 90 (.t 1)),Oo 4 (.alloc 90 [(.b .false),(.sl none []),(.sl none [])]),Oo 5 (.mv (kI 0))] (.seq (.regD [0,1,0,7,15,31] [Oq 6 3 2,Oc 7 88 [.t 6],Oq 8 3 3,Oc 9 88 [.t 8],Ot 3 2 7,Ot 3 3 9]) (.seq (.regD [0,1,0,4,15,0,32,0,159,511,1023,2047,2047,8191,16383] [Oo 10 (.fieldAddr 0 (some 2) (.t 2)),Oq 11 2 10,Oq 12 3 3,Oc 13 106 [.t 12],Oc 14 17 [.t 11,.t 13],Oo 15 (.fieldAddr 0 (some 2) (.t 3)),Oq 16 2 15,Oq 17 3 2,Oc 18 106 [.t 17],Oc 19 17 [.t 16,.t 18],Oc 20 105 [.t 14,.t 19],Oe 21 20 0,Oe 22 20 1,Ot 3 4 21,Om 5 22]) .ret)))
theorem ok_rat_Div:slimF Try.prog Try.f85=some (23,sc_rat_Div,[(.cell 4 (some 3)),(.tmp 5)]):=by kernel_rfl
abbrev f_rat_Make:Nat:=105
def sc_rat_Make:SC:=(Sr [Oo 2 (.box 27 (.t 0)),Oo 3 (.box 27 (.t 1)),Oo 4 (.alloc 90 [(.b .false),(.sl none []),(.sl none [])]),Oo 5 (.mv (kI 0))] (.seq (Sr [Oq 11 2 3,Oc 12 11 [.t 11],On 13 .eql 12 0] (.cond (.t 13) (Sr [Oo 14 (.build [(.b .false),(.sl none []),(.sl none [])] []),Ot 3 4 14,Oo 5 (.mv (kI 3))] .ret) .skip)) (Sr [Oq 15 2 2,Oq 16 2 3,Oc 17 40 [.t 15,.t 16],Oo 6 (.alloc 27 zI),Ot 2 6 17] (Sr [Oq 19 2 2,Oq 20 2 6,Oc 21 36 [.t 19,.t 20],Om 18 21,Oe 22 18 0,Oe 23 18 1,Oo 7 (.alloc 27 zI),Ot 2 7 22,Om 8 23] (Sr [Oq 25 2 3,Oq 26 2 6,Oc 27 36 [.t 25,.t 26],Om 24 27,Oe 28 24 0,Oe 29 24 1,Oo 9 (.alloc 27 zI),Ot 2 9 28,Om 10 29] (.seq (Sr [Of 30 0 9,Ol 31 30] (.cond (.t 31) (.reg [Oq 32 2 7,Oc 33 14 [.t 32],Ot 2 7 33]) .skip)) (Sr [Oq 34 2 7,Of 35 1 9,Ol 36 35,Oo 37 (.build [(.b .false),(.sl none []),(.sl none [])] [(0,(2,(.t 34))),(2,(1,(.t 36)))]),Ot 3 4 37,Oo 5 (.mv (kI 0))] .ret)))))))
theorem ok_rat_Make:slimF Try.prog Try.f105=some (38,sc_rat_Make,[(.cell 4 (some 3)),(.tmp 5)]):=by kernel_rfl
abbrev f_rat_joined_1:Nat:=121
def sc_rat_joined_1:SC:=(Sr [Oo 3 (.box 27 (.t 0)),Oo 4 (.box 27 (.t 1)),Oo 5 (.alloc 27 zI)] (.seq (Sr [Ol 6 2] (.cond (.t 6) (Sr [Oq 7 2 3,Oq 8 2 4,Oc 9 56 [.t 7,.t 8],Ot 2 5 9] .ret) .skip)) (Sr [Oq 10 2 3,Oq 11 2 4,Oc 12 22 [.t 10,.t 11],Ot 2 5 12] .ret)))
theorem ok_rat_joined_1:slimF Try.prog Try.f121=some (13,sc_rat_joined_1,[(.cell 5 (some 2))]):=by kernel_rfl
abbrev f_rat_Sub:Nat:=86
def sc_rat_Sub:SC:=(Sr [Oo 2 (.box 90 (.t 0)),Oo 3 (.box 90 (.t 1)),Oo 4 (.alloc 90 [(.b .false),(.sl none []),(.sl none [])])] (Sr [Oq 5 3 2,Oq 6 3 3,Oc 7 107 [.t 5,.t 6,(.c (.b .true))],Ot 3 4 7] .ret))
theorem ok_rat_Sub:slimF Try.prog Try.f86=some (8,sc_rat_Sub,[(.cell 4 (some 3))]):=by kernel_rfl
abbrev f_rat_den:Nat:=106
def sc_rat_den:SC:=(Sr [Oo 1 (.box 90 (.t 0)),Oo 2 (.alloc 27 zI)] (Sr [Of 3 2 1,Ol 4 3,Oo 5 (.build zI [(1,(1,(.t 4)))]),Oc 6 39 [.t 5],Ot 2 2 6] .ret))
theorem ok_rat_den:slimF Try.prog Try.f106=some (7,sc_rat_den,[(.cell 2 (some 2))]):=by kernel_rfl
abbrev f_rat_Mul:Nat:=87
def sc_rat_Mul:SC:=(Sr [Oo 2 (.box 90 (.t 0)),Oo 3 (.box 90 (.t 1)),Oo 4 (.alloc 90 [(.b .false),(.sl none []),(.sl none [])])] (.seq (.regD [0,1,0,7,15,31] [Oq 5 3 2,Oc 6 88 [.t 5],Oq 7 3 3,Oc 8 88 [.t 7],Ot 3 2 6,Ot 3 3 8]) (.seq (.regD [0,1,0,4,15,0,32,0,128,511,1023,2047,4095] [Oo 9 (.fieldAddr 0 (some 2) (.t 2)),Oq 10 2 9,Oo 11 (.fieldAddr 0 (some 2) (.t 3)),Oq 12 2 11,Oc 13 17 [.t 10,.t 12],Of 14 2 2,Ol 15 14,Of 16 2 3,Ol 17 16,Oc 18 45 [.t 15,.t 17],Oo 19 (.build [(.b .false),(.sl none []),(.sl none [])] [(0,(2,(.t 13))),(2,(1,(.t 18)))]),Oc 20 88 [.t 19],Ot 3 4 20]) .ret)))
theorem ok_rat_Mul:slimF Try.prog Try.f87=some (21,sc_rat_Mul,[(.cell 4 (some 3))]):=by kernel_rfl
abbrev f_rat_joined:Nat:=107
def sc_rat_joined:SC:=(Sr [Oo 3 (.box 90 (.t 0)),Oo 4 (.box 90 (.t 1)),Oo 5 (.box 4 (.t 2)),Oo 6 (.alloc 90 [(.b .false),(.sl none []),(.sl none [])])] (Sr [Oq 7 3 3,Oq 8 3 4,Oo 9 (.makeFn 121 [.t 5]),Oc 10 120 [.t 7,.t 8,.t 9],Ot 3 6 10] .ret))
theorem ok_rat_joined:slimF Try.prog Try.f107=some (11,sc_rat_joined,[(.cell 6 (some 3))]):=by kernel_rfl
abbrev f_rat_Whole:Nat:=58
def sc_rat_Whole:SC:=(Sr [Oo 1 (.box 90 (.t 0)),Oo 2 (.alloc 27 zI),Oo 3 (.mv (.c (.b .false)))] (Sr [Oq 4 3 1,Oc 5 88 [.t 4],Ot 3 1 5] (.seq (Sr [Of 6 2 1,Ol 7 6,Oo 8 (.mkSl 68 none [(.c (.i .u64 1))]),Oc 9 53 [.t 7,.t 8],On 10 .neq 9 0] (.cond (.t 10) (Sr [Oo 11 (.build zI []),Ot 2 2 11,Oo 3 (.mv (.c (.b .false)))] .ret) .skip)) (Sr [Oo 12 (.fieldAddr 0 (some 2) (.t 1)),Oq 13 2 12,Ot 2 2 13,Oo 3 (.mv (.c (.b .true)))] .ret))))
theorem ok_rat_Whole:slimF Try.prog Try.f58=some (14,sc_rat_Whole,[(.cell 2 (some 2)),(.tmp 3)]):=by kernel_rfl
abbrev f_rat_Norm:Nat:=88
def sc_rat_Norm:SC:=(Sr [Oo 1 (.box 90 (.t 0)),Oo 2 (.alloc 90 [(.b .false),(.sl none []),(.sl none [])])] (.seq (.regD [0,1,0,4,15,31,63,63,0,383,1023] [Oo 6 (.fieldAddr 0 (some 2) (.t 1)),Oq 7 2 6,Oq 8 3 1,Oc 9 106 [.t 8],Oc 10 105 [.t 7,.t 9],Om 5 10,Oe 11 5 0,Oe 12 5 1,Oo 3 (.alloc 90 [(.b .false),(.sl none []),(.sl none [])]),Ot 3 3 11,Om 4 12]) (.seq (Sr [Om 13 4,On 14 .neq 13 0] (.cond (.t 14) (Sr [Oc 15 108 [(kI 0)],Ot 3 2 15] .ret) .skip)) (Sr [Oq 16 3 3,Ot 3 2 16] .ret))))
theorem ok_rat_Norm:slimF Try.prog Try.f88=some (17,sc_rat_Norm,[(.cell 2 (some 3))]):=by kernel_rfl
abbrev f_rat_Of:Nat:=108
def sc_rat_Of:SC:=(Sr [Oo 2 (.alloc 90 [(.b .false),(.sl none []),(.sl none [])])] (Sr [Om 3 0,Oc 4 15 [.t 3],Oo 5 (.mkSl 68 none [(.c (.i .u64 1))]),Oo 6 (.build [(.b .false),(.sl none []),(.sl none [])] [(0,(2,(.t 4))),(2,(1,(.t 5)))]),Ot 3 2 6] .ret))
theorem ok_rat_Of:slimF Try.prog Try.f108=some (7,sc_rat_Of,[(.cell 2 (some 3))]):=by kernel_rfl
abbrev f_rat_crossed:Nat:=120
def sc_rat_crossed:SC:=(Sr [Oo 3 (.box 90 (.t 0)),Oo 4 (.box 90 (.t 1)),Oo 6 (.alloc 90 [(.b .false),(.sl none []),(.sl none [])])] (.seq (.regD [0,1,0,7,15,31] [Oq 8 3 3,Oc 9 88 [.t 8],Oq 10 3 4,Oc 11 88 [.t 10],Ot 3 3 9,Ot 3 4 11]) (.seq (.regD [0,0,2,0,8,30,0,64,0,318,1022,2047,0,8191] [Om 12 2,Oo 13 (.fieldAddr 0 (some 2) (.t 3)),Oq 14 2 13,Oq 15 3 4,Oc 16 106 [.t 15],Oc 17 17 [.t 14,.t 16],Oo 18 (.fieldAddr 0 (some 2) (.t 4)),Oq 19 2 18,Oq 20 3 3,Oc 21 106 [.t 20],Oc 22 17 [.t 19,.t 21],Oo 23 (.call (.t 12) [.t 17,.t 22]),Oo 7 (.alloc 27 zI),Ot 2 7 23]) (.seq (.regD [0,0,2,0,8,30,63,127,255] [Oq 24 2 7,Of 25 2 3,Ol 26 25,Of 27 2 4,Ol 28 27,Oc 29 45 [.t 26,.t 28],Oo 30 (.build [(.b .false),(.sl none []),(.sl none [])] [(0,(2,(.t 24))),(2,(1,(.t 29)))]),Oc 31 88 [.t 30],Ot 3 6 31]) .ret))))
theorem ok_rat_crossed:slimF Try.prog Try.f120=some (32,sc_rat_crossed,[(.cell 6 (some 3))]):=by kernel_rfl
end Go.Vw
