/- Facts: calls of the program, reckoned. Part 7. -/
import Derived.Test.YtimgjgookgenoaaGreatDoorFA0
import Derived.Test.YtimgjgookgenoaaGreatDoorFA1
import Derived.Test.YtimgjgookgenoaaGreatDoorFA2
import Derived.Test.YtimgjgookgenoaaGreatDoorFA5
import Derived.Test.YtimgjgookgenoaaGreatDoorFA4
set_option linter.unusedVariables false
set_option linter.unusedSimpArgs false
set_option linter.unusedSectionVars false
namespace Go.Proofs.YtimgjgookgenoaaGreatDoor
open Go Go.Zw
set_option maxRecDepth 1000000
def f332 : Fact := .mk [(.ob 152 true [zF,(.sl 1 0 1 1),(.sl 2 0 1 1),zF,(.sl 3 0 1 1),(.sl 4 0 1 1)]),(.ob 68 false [(zU 1)]),(.ob 3 false [(zJ 1)]),(.ob 68 false [(zU 1)]),(.ob 3 false [(zJ 0)])] [(zJ 1),(.sl 0 0 2 3),.nil] [(.agg [zF,(.sl 5 0 1 1)]),(.sl 6 0 1 2),(zJ 0)] [] [(.ob 68 false [(zU 1)]),(.ob 103 false [(.sl 7 0 2 3),(zJ 1)]),(.ob 152 false [zF,(.sl 8 0 1 1),(.sl 9 0 1 1),zF,(.sl 10 0 1 1),(.sl 11 0 1 1)]),(.ob 68 false [(zU 1)]),(.ob 3 false [(zJ 1)]),(.ob 68 false [(zU 1)]),(.ob 3 false [(zJ 0)])]
def f274 : Fact := .mk [(.ob 32 true [zF,.nil,zT,(.sl 1 0 1 1),zF,.nil,zF,.nil,zF,.nil,zF,(.sl 2 0 1 1)]),(.ob 68 false [(zU 1)]),(.ob 68 false [(zU 1)])] [(.sl 0 0 6 2),.nil] [(.sl 3 0 4 1),zT] [] [(.ob 42 false [(.sl 4 0 2 2),(.sl 7 0 2 2),(.sl 9 0 2 2),(.sl 12 0 3 2)]),(.ob 32 true [zT,(.sl 5 0 1 1),zF,(.sl 6 0 1 1)]),(.ob 68 false [(zU 1)]),(.ob 68 false [(zU 1)]),(.ob 32 true [zF,.nil,zF,(.sl 8 0 1 1)]),(.ob 68 false [(zU 1)]),(.ob 32 true [zF,(.sl 10 0 1 1),zF,(.sl 11 0 1 1)]),(.ob 68 false [(zU 1)]),(.ob 68 false [(zU 1)]),(.ob 32 true [zF,(.sl 13 0 1 1),zF,.nil,zF,(.sl 14 0 1 1)]),(.ob 68 false [(zU 1)]),(.ob 68 false [(zU 1)])]
theorem g42 : chk [(268, [f4]), (29, [f62, f65]), (218, [f73]), (146, [f218]), (150, [f266]), (234, [f267, f269, f271]), (154, [f268, f270, f272]), (343, [f273]), (176, [f311]), (97, [f331])] [(47, f332), (76, f274)] = true := by kernel_rfl
theorem q42 : allOK Tryz.prog [(47, f332), (76, f274)] := chk_ok (deps := [(268, [f4]), (29, [f62, f65]), (218, [f73]), (146, [f218]), (150, [f266]), (234, [f267, f269, f271]), (154, [f268, f270, f272]), (343, [f273]), (176, [f311]), (97, [f331])]) ⟨⟨o4, trivial⟩, ⟨o62, o65, trivial⟩, ⟨o73, trivial⟩, ⟨o218, trivial⟩, ⟨o266, trivial⟩, ⟨o267, o269, o271, trivial⟩, ⟨o268, o270, o272, trivial⟩, ⟨o273, trivial⟩, ⟨o311, trivial⟩, ⟨o331, trivial⟩, trivial⟩ g42
theorem o332 : FactOK Tryz.prog 47 f332 := q42.1
theorem o274 : FactOK Tryz.prog 76 f274 := q42.2.1
end Go.Proofs.YtimgjgookgenoaaGreatDoor
namespace Go.Proofs.YtimgjgookgenoaaGreatDoor
open Go Go.Zw
set_option maxRecDepth 1000000
def f303 : Fact := .mk [(.ob 152 false [zF,(.sl 1 0 1 1),(.sl 2 0 2 1),zT,(.sl 3 0 1 1),(.sl 4 0 2 1)]),(.ob 68 false [(zU 1)]),(.ob 3 false [(zJ 2),(zJ 0)]),(.ob 68 false [(zU 1)]),(.ob 3 false [(zJ 0),(zJ 2)])] [(zJ 2),(.sl 0 0 2 3),.nil] [(.sl 5 0 2 1),(zJ 0)] [] [(.ob 48 false [(.sl 6 0 2 3),(.sl 11 0 2 3)]),(.ob 152 false [zF,(.sl 7 0 1 1),(.sl 8 0 2 1),zF,(.sl 9 0 1 1),(.sl 10 0 2 1)]),(.ob 68 false [(zU 1)]),(.ob 3 false [(zJ 1),(zJ 0)]),(.ob 68 false [(zU 1)]),(.ob 3 false [(zJ 0),(zJ 1)]),(.ob 152 false [zF,(.sl 12 0 1 1),(.sl 13 0 2 1),zT,(.sl 14 0 1 1),(.sl 15 0 2 1)]),(.ob 68 false [(zU 1)]),(.ob 3 false [(zJ 1),(zJ 0)]),(.ob 68 false [(zU 1)]),(.ob 3 false [(zJ 0),(zJ 1)])]
theorem g43 : chk [(178, [f66]), (75, [f72]), (154, [f268, f275, f276, f277, f278, f279, f280, f281, f282]), (76, [f274]), (266, [f286]), (267, [f287, f288, f289, f298, f299, f300, f302])] [(97, f303)] = true := by kernel_rfl
theorem q43 : allOK Tryz.prog [(97, f303)] := chk_ok (deps := [(178, [f66]), (75, [f72]), (154, [f268, f275, f276, f277, f278, f279, f280, f281, f282]), (76, [f274]), (266, [f286]), (267, [f287, f288, f289, f298, f299, f300, f302])]) ⟨⟨o66, trivial⟩, ⟨o72, trivial⟩, ⟨o268, o275, o276, o277, o278, o279, o280, o281, o282, trivial⟩, ⟨o274, trivial⟩, ⟨o286, trivial⟩, ⟨o287, o288, o289, o298, o299, o300, o302, trivial⟩, trivial⟩ g43
theorem o303 : FactOK Tryz.prog 97 f303 := q43.1
end Go.Proofs.YtimgjgookgenoaaGreatDoor
namespace Go.Proofs.YtimgjgookgenoaaGreatDoor
open Go Go.Zw
set_option maxRecDepth 1000000
def f305 : Fact := .mk [(.ob 152 true [zF,(.sl 1 0 1 1),(.sl 2 0 2 1),zT,(.sl 3 0 1 1),(.sl 4 0 2 1)]),(.ob 68 false [(zU 1)]),(.ob 3 false [(zJ 2),(zJ 0)]),(.ob 68 false [(zU 1)]),(.ob 3 false [(zJ 0),(zJ 2)])] [(zJ 2),(.sl 0 0 2 3),.nil] [(.agg [zF,(.sl 5 0 1 1)]),(.sl 6 0 2 2),(zJ 0)] [] [(.ob 68 false [(zU 1)]),(.ob 103 false [(.sl 7 0 2 3),(zJ 1),(.sl 12 0 2 3),(zJ 1)]),(.ob 152 false [zF,(.sl 8 0 1 1),(.sl 9 0 2 1),zT,(.sl 10 0 1 1),(.sl 11 0 2 1)]),(.ob 68 false [(zU 1)]),(.ob 3 false [(zJ 1),(zJ 0)]),(.ob 68 false [(zU 1)]),(.ob 3 false [(zJ 0),(zJ 1)]),(.ob 152 false [zF,(.sl 13 0 1 1),(.sl 14 0 2 1),zF,(.sl 15 0 1 1),(.sl 16 0 2 1)]),(.ob 68 false [(zU 1)]),(.ob 3 false [(zJ 1),(zJ 0)]),(.ob 68 false [(zU 1)]),(.ob 3 false [(zJ 0),(zJ 1)])]
theorem g44 : chk [(268, [f9]), (176, [f61]), (29, [f62, f63, f65, f293, f295]), (99, [f301, f304]), (97, [f303])] [(47, f305)] = true := by kernel_rfl
theorem q44 : allOK Tryz.prog [(47, f305)] := chk_ok (deps := [(268, [f9]), (176, [f61]), (29, [f62, f63, f65, f293, f295]), (99, [f301, f304]), (97, [f303])]) ⟨⟨o9, trivial⟩, ⟨o61, trivial⟩, ⟨o62, o63, o65, o293, o295, trivial⟩, ⟨o301, o304, trivial⟩, ⟨o303, trivial⟩, trivial⟩ g44
theorem o305 : FactOK Tryz.prog 47 f305 := q44.1
end Go.Proofs.YtimgjgookgenoaaGreatDoor
namespace Go.Proofs.YtimgjgookgenoaaGreatDoor
open Go Go.Zw
set_option maxRecDepth 1000000
def f308 : Fact := .mk [] [] [zT] [] []
theorem g45 : chk [(20, [f47]), (47, [f305]), (45, [f306, f307])] [(6, f308)] = true := by kernel_rfl
theorem q45 : allOK Tryz.prog [(6, f308)] := chk_ok (deps := [(20, [f47]), (47, [f305]), (45, [f306, f307])]) ⟨⟨o47, trivial⟩, ⟨o305, trivial⟩, ⟨o306, o307, trivial⟩, trivial⟩ g45
theorem o308 : FactOK Tryz.prog 6 f308 := q45.1
end Go.Proofs.YtimgjgookgenoaaGreatDoor
