/- The slim forms of functions, written by a program; each is checked by the kernel. -/
import Derived.Test.YtfdjbmamidmgfaaGreatVB
import Derived.Test.YtfdjbmamidmgfaaGreatProg
import Derived.KernelRfl
set_option maxRecDepth 100000
namespace Go.Vw
open Go.Proofs
abbrev f_zpoly_Norm:Nat:=28
def sc_zpoly_Norm:SC:=(Sr [Oo 2 (.nilSl 28 (some 2))] (.seq (.block 0 (.loop (.seq (Sr [Om 3 0,Oz 4 3,On 5 .gtr 4 0,Om 6 5,Oj 7 0 6 true,Oj 8 0 6 true,Og 9 (.len .false (.t 8)) 6 true,Og 10 (.bin .sub (.t 9) (kI 1)) 6 true,Og 11 (.indexAddr (some 2) (.t 7) (.t 10)) 6 true,Og 12 (.load (some 2) (.t 11)) 6 true,Og 13 (.call (.f 79) [.t 12]) 6 true,Og 14 (.bin .eql (.t 13) (kI 0)) 6 true,Oo 15 (.pick (.t 6) (.t 14) (.c (.b .false)))] (Sx 15 0)) (.block 1 (.reg [Om 16 0,Om 17 0,Oz 18 17,On 19 .sub 18 1,Oo 20 (.slice (some (some 2)) (.t 16) none (some (.t 19))),Om 0 20]))))) (Sr [Om 21 0,Oc 22 72 [.t 21,(.f 80)],Om 2 22] .ret)))
theorem ok_zpoly_Norm:slimF Tryz.prog Tryz.f28=some (23,sc_zpoly_Norm,[(.tmp 2)]):=by kernel_rfl
abbrev f_zpoly_each_api_Int_api_Int:Nat:=72
def sc_zpoly_each_api_Int_api_Int:SC:=(Sr [Oo 4 (.nilSl 28 (some 2))] (Sr [Om 8 0,Oz 9 8,Oo 10 (.make 28 (some 2) (.agg zI) 32 (.t 9)),Om 5 10] (.seq (Sr [Om 11 0,Oz 12 11,Oo 13 (.mv (kI 0))] (.block 0 (.loop (Sr [Ob 14 .lss 13 12] (.seq (Sx 14 0) (.seq (.block 1 (Sr [Om 15 13,Oy 16 2 11 13,Oq 17 2 16,Oo 7 (.alloc 28 zI),Om 6 15,Ot 2 7 17] (.reg [Om 18 5,Om 19 6,Om 20 1,Om 21 6,Oq 22 2 7,Oo 23 (.call (.t 20) [.t 21,.t 22]),Oy 24 2 18 19,Ot 2 24 23]))) (.reg [On 25 .add 13 1,Om 13 25]))))))) (Sr [Om 26 5,Om 4 26] .ret))))
theorem ok_zpoly_each_api_Int_api_Int:slimF Tryz.prog Tryz.f72=some (27,sc_zpoly_each_api_Int_api_Int,[(.tmp 4)]):=by kernel_rfl
abbrev f_zpoly_Norm_1:Nat:=80
def sc_zpoly_Norm_1:SC:=(Sr [Oo 3 (.box 28 (.t 1)),Oo 4 (.alloc 28 zI)] (Sr [Oq 5 2 3,Oc 6 81 [.t 5],Ot 2 4 6] .ret))
theorem ok_zpoly_Norm_1:slimF Tryz.prog Tryz.f80=some (7,sc_zpoly_Norm_1,[(.cell 4 (some 2))]):=by kernel_rfl
abbrev f_ref10_Same:Nat:=53
def sc_ref10_Same:SC:=(Sr [Oo 4 (.mv (.c (.b .false)))] (.seq (Sr [Om 6 0,Oz 7 6,Om 8 1,Oz 9 8,Ob 10 .neq 7 9] (.cond (.t 10) (Sr [Oo 4 (.mv (.c (.b .false)))] .ret) .skip)) (.seq (Sr [Oo 5 (.mv (kI 0))] (.block 0 (.loop (.seq (Sr [Om 11 5,Om 12 0,Oz 13 12,Ob 14 .lss 11 13] (Sx 14 0)) (.seq (.block 1 (.seq (.regD [0,0,3,7,0,0,48,112,255,511] [Om 17 0,Om 18 5,Oy 19 2 17 18,Oq 20 2 19,Om 21 1,Om 22 5,Oy 23 2 21 22,Oq 24 2 23,Oc 25 18 [.t 20,.t 24],Oo 26 (.un .not (.t 25))]) (.cond (.t 26) (Sr [Oo 4 (.mv (.c (.b .false)))] .ret) .skip))) (.reg [Om 15 5,On 16 .add 15 1,Om 5 16])))))) (Sr [Oo 4 (.mv (.c (.b .true)))] .ret))))
theorem ok_ref10_Same:slimF Tryz.prog Tryz.f53=some (27,sc_ref10_Same,[(.tmp 4)]):=by kernel_rfl
end Go.Vw
