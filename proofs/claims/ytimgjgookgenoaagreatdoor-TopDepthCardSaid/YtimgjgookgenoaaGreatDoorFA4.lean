/- Facts: calls of the program, reckoned. Part 5. -/
import Derived.Test.YtimgjgookgenoaaGreatDoorFA0
import Derived.Test.YtimgjgookgenoaaGreatDoorFA1
import Derived.Test.YtimgjgookgenoaaGreatDoorFA2
set_option linter.unusedVariables false
set_option linter.unusedSimpArgs false
set_option linter.unusedSectionVars false
namespace Go.Proofs.YtimgjgookgenoaaGreatDoor
open Go Go.Zw
set_option maxRecDepth 1000000
def f304 : Fact := .mk [(.ob 152 false [zF,(.sl 1 0 1 1),(.sl 2 0 2 1),zT,(.sl 3 0 1 1),(.sl 4 0 2 1)]),(.ob 68 false [(zU 1)]),(.ob 3 false [(zJ 2),(zJ 0)]),(.ob 68 false [(zU 1)]),(.ob 3 false [(zJ 0),(zJ 2)]),(.ob 152 false [zF,(.sl 6 0 1 1),(.sl 7 0 2 1),zT,(.sl 8 0 1 1),(.sl 9 0 2 1)]),(.ob 68 false [(zU 1)]),(.ob 3 false [(zJ 1),(zJ 0)]),(.ob 68 false [(zU 1)]),(.ob 3 false [(zJ 0),(zJ 1)])] [(zJ 2),(.sl 0 0 2 3),(.sl 5 0 2 3)] [(.sl 10 0 2 3),(zJ 0)] [] [(.ob 152 false [zF,(.sl 11 0 1 1),(.sl 12 0 2 1),zF,(.sl 13 0 1 1),(.sl 14 0 2 1)]),(.ob 68 false [(zU 1)]),(.ob 3 false [(zJ 1),(zJ 0)]),(.ob 68 false [(zU 1)]),(.ob 3 false [(zJ 0),(zJ 1)])]
theorem g28 : chk [(268, [f9, f36, f64]), (29, [f62, f63, f65])] [(99, f304)] = true := by kernel_rfl
theorem q28 : allOK Tryz.prog [(99, f304)] := chk_ok (deps := [(268, [f9, f36, f64]), (29, [f62, f63, f65])]) ⟨⟨o9, o36, o64, trivial⟩, ⟨o62, o63, o65, trivial⟩, trivial⟩ g28
theorem o304 : FactOK Tryz.prog 99 f304 := q28.1
end Go.Proofs.YtimgjgookgenoaaGreatDoor
namespace Go.Proofs.YtimgjgookgenoaaGreatDoor
open Go Go.Zw
set_option maxRecDepth 1000000
def f301 : Fact := .mk [(.ob 152 false [zF,(.sl 1 0 1 1),(.sl 2 0 2 1),zT,(.sl 3 0 1 1),(.sl 4 0 2 1)]),(.ob 68 false [(zU 1)]),(.ob 3 false [(zJ 2),(zJ 0)]),(.ob 68 false [(zU 1)]),(.ob 3 false [(zJ 0),(zJ 2)]),(.ob 152 false [zF,(.sl 6 0 1 1),(.sl 7 0 2 1),zF,(.sl 8 0 1 1),(.sl 9 0 2 1)]),(.ob 68 false [(zU 1)]),(.ob 3 false [(zJ 1),(zJ 0)]),(.ob 68 false [(zU 1)]),(.ob 3 false [(zJ 0),(zJ 1)])] [(zJ 2),(.sl 0 0 2 3),(.sl 5 0 2 3)] [(.sl 10 0 2 3),(zJ 0)] [] [(.ob 152 false [zF,(.sl 11 0 1 1),(.sl 12 0 2 1),zT,(.sl 13 0 1 1),(.sl 14 0 2 1)]),(.ob 68 false [(zU 1)]),(.ob 3 false [(zJ 1),(zJ 0)]),(.ob 68 false [(zU 1)]),(.ob 3 false [(zJ 0),(zJ 1)])]
theorem g29 : chk [(268, [f9, f36, f64]), (29, [f62, f63, f65])] [(99, f301)] = true := by kernel_rfl
theorem q29 : allOK Tryz.prog [(99, f301)] := chk_ok (deps := [(268, [f9, f36, f64]), (29, [f62, f63, f65])]) ⟨⟨o9, o36, o64, trivial⟩, ⟨o62, o63, o65, trivial⟩, trivial⟩ g29
theorem o301 : FactOK Tryz.prog 99 f301 := q29.1
end Go.Proofs.YtimgjgookgenoaaGreatDoor
namespace Go.Proofs.YtimgjgookgenoaaGreatDoor
open Go Go.Zw
set_option maxRecDepth 1000000
def f245 : Fact := .mk [(.ob 32 true [zF,(.sl 1 0 0 1),zF,(.sl 2 0 1 1),zF,(.sl 3 0 1 1)]),(.ob 68 true []),(.ob 68 false [(zU 1)]),(.ob 68 false [(zU 1)]),(.ob 32 true [zF,(.sl 5 0 1 1),zF,(.sl 6 0 1 1),zF,(.sl 7 0 1 1),zF,(.sl 8 0 1 1)]),(.ob 68 false [(zU 80)]),(.ob 68 false [(zU 1)]),(.ob 68 false [(zU 80)]),(.ob 68 false [(zU 1)]),(.ob 32 true [zF,(.sl 10 0 1 1),zF,(.sl 11 0 1 1),zF,(.sl 12 0 1 1)]),(.ob 68 false [(zU 61)]),(.ob 68 false [(zU 40)]),(.ob 68 false [(zU 21)]),(.ob 32 true [zF,(.sl 14 0 1 1),zF,(.sl 15 0 1 1)]),(.ob 68 false [(zU 80)]),(.ob 68 false [(zU 60)]),(.ob 32 true [zF,.nil,zF,(.sl 17 0 1 1),zF,.nil,zF,.nil,zF,.nil,zF,(.sl 18 0 1 1)]),(.ob 68 false [(zU 242)]),(.ob 68 false [(zU 1)]),(.ob 68 false [(zU 243)])] [(.agg [(.sl 0 0 3 2),(.sl 4 0 4 2),(.sl 9 0 3 2),(.sl 13 0 2 2)]),(.sl 16 0 6 2),(.agg [zF,(.sl 19 0 1 1)])] [(.agg [(.sl 20 0 3 2),(.sl 24 0 4 2),(.sl 29 0 3 2),(.sl 33 0 2 2)])] [] [(.ob 32 true [zF,(.sl 21 0 0 1),zF,(.sl 22 0 1 1),zF,(.sl 23 0 1 1)]),(.ob 68 true []),(.ob 68 false [(zU 1)]),(.ob 68 false [(zU 1)]),(.ob 32 true [zF,(.sl 25 0 1 1),zF,(.sl 26 0 1 1),zF,(.sl 27 0 1 1),zF,(.sl 28 0 1 1)]),(.ob 68 false [(zU 242)]),(.ob 68 false [(zU 1)]),(.ob 68 false [(zU 242)]),(.ob 68 false [(zU 1)]),(.ob 32 true [zF,(.sl 30 0 1 1),zF,(.sl 31 0 1 1),zF,(.sl 32 0 1 1)]),(.ob 68 false [(zU 61)]),(.ob 68 false [(zU 121)]),(.ob 68 false [(zU 183)]),(.ob 32 true [zF,(.sl 34 0 1 1),zF,(.sl 35 0 1 1)]),(.ob 68 false [(zU 242)]),(.ob 68 false [(zU 60)])]
theorem g30 : chk [(385, [f237, f238, f240, f241, f242, f244]), (436, [f239, f243])] [(337, f245)] = true := by kernel_rfl
theorem q30 : allOK Tryz.prog [(337, f245)] := chk_ok (deps := [(385, [f237, f238, f240, f241, f242, f244]), (436, [f239, f243])]) ⟨⟨o237, o238, o240, o241, o242, o244, trivial⟩, ⟨o239, o243, trivial⟩, trivial⟩ g30
theorem o245 : FactOK Tryz.prog 337 f245 := q30.1
end Go.Proofs.YtimgjgookgenoaaGreatDoor
namespace Go.Proofs.YtimgjgookgenoaaGreatDoor
open Go Go.Zw
set_option maxRecDepth 1000000
def f225 : Fact := .mk [(.ob 32 true [zF,(.sl 1 0 0 1),zF,(.sl 2 0 1 1),zF,(.sl 3 0 1 1)]),(.ob 68 true []),(.ob 68 false [(zU 1)]),(.ob 68 false [(zU 1)]),(.ob 32 true [zF,(.sl 5 0 1 1),zF,(.sl 6 0 1 1),zF,(.sl 7 0 1 1),zF,(.sl 8 0 1 1)]),(.ob 68 false [(zU 2)]),(.ob 68 false [(zU 1)]),(.ob 68 false [(zU 2)]),(.ob 68 false [(zU 1)]),(.ob 32 true [zF,(.sl 10 0 1 1),zF,(.sl 11 0 1 1)]),(.ob 68 false [(zU 1)]),(.ob 68 false [(zU 1)]),(.ob 32 true [zF,(.sl 13 0 1 1)]),(.ob 68 false [(zU 2)]),(.ob 32 true [zF,.nil,zF,(.sl 15 0 1 1),zF,.nil,zF,.nil,zF,.nil,zF,(.sl 16 0 1 1)]),(.ob 68 false [(zU 242)]),(.ob 68 false [(zU 1)]),(.ob 68 false [(zU 9)])] [(.agg [(.sl 0 0 3 2),(.sl 4 0 4 2),(.sl 9 0 2 2),(.sl 12 0 1 2)]),(.sl 14 0 6 2),(.agg [zF,(.sl 17 0 1 1)])] [(.agg [(.sl 18 0 3 2),(.sl 22 0 4 2),(.sl 27 0 3 2),(.sl 31 0 2 2)])] [] [(.ob 32 true [zF,(.sl 19 0 0 1),zF,(.sl 20 0 1 1),zF,(.sl 21 0 1 1)]),(.ob 68 true []),(.ob 68 false [(zU 1)]),(.ob 68 false [(zU 1)]),(.ob 32 true [zF,(.sl 23 0 1 1),zF,(.sl 24 0 1 1),zF,(.sl 25 0 1 1),zF,(.sl 26 0 1 1)]),(.ob 68 false [(zU 8)]),(.ob 68 false [(zU 1)]),(.ob 68 false [(zU 8)]),(.ob 68 false [(zU 1)]),(.ob 32 true [zF,(.sl 28 0 1 1),zF,(.sl 29 0 1 1),zF,(.sl 30 0 1 1)]),(.ob 68 false [(zU 7)]),(.ob 68 false [(zU 4)]),(.ob 68 false [(zU 3)]),(.ob 32 true [zF,(.sl 32 0 1 1),zF,(.sl 33 0 1 1)]),(.ob 68 false [(zU 8)]),(.ob 68 false [(zU 6)])]
theorem g31 : chk [(385, [f221, f222]), (436, [f223, f224])] [(337, f225)] = true := by kernel_rfl
theorem q31 : allOK Tryz.prog [(337, f225)] := chk_ok (deps := [(385, [f221, f222]), (436, [f223, f224])]) ⟨⟨o221, o222, trivial⟩, ⟨o223, o224, trivial⟩, trivial⟩ g31
theorem o225 : FactOK Tryz.prog 337 f225 := q31.1
end Go.Proofs.YtimgjgookgenoaaGreatDoor
namespace Go.Proofs.YtimgjgookgenoaaGreatDoor
open Go Go.Zw
set_option maxRecDepth 1000000
def f290 : Fact := .mk [(.mp [((.agg [(zJ 1),(zJ 0),(zJ 0),(zJ 0),(zJ 0),(zJ 0)]),(.agg [zF,(.sl 1 0 1 1)]),0),((.agg [(zJ 0),(zJ 2),(zJ 0),(zJ 0),(zJ 0),(zJ 0)]),(.agg [zT,(.sl 2 0 1 1)]),1),((.agg [(zJ 0),(zJ 1),(zJ 0),(zJ 0),(zJ 0),(zJ 0)]),(.agg [zF,(.sl 3 0 1 1)]),2),((.agg [(zJ 0),(zJ 0),(zJ 0),(zJ 0),(zJ 0),(zJ 0)]),(.agg [zT,(.sl 4 0 1 1)]),3)] 4),(.ob 68 false [(zU 1)]),(.ob 68 false [(zU 1)]),(.ob 68 false [(zU 1)]),(.ob 68 false [(zU 1)])] [(.mp 0)] [(.agg [(zJ 1),(zJ 0),(zJ 0),(zJ 0),(zJ 0),(zJ 0)]),(.agg [zF,(.sl 1 0 1 1)]),zT] [] []
theorem g32 : chk [(268, [f0, f1, f4, f5, f6, f9, f10, f11, f14, f29, f30, f31]), (29, [f62, f63])] [(185, f290)] = true := by kernel_rfl
theorem q32 : allOK Tryz.prog [(185, f290)] := chk_ok (deps := [(268, [f0, f1, f4, f5, f6, f9, f10, f11, f14, f29, f30, f31]), (29, [f62, f63])]) ⟨⟨o0, o1, o4, o5, o6, o9, o10, o11, o14, o29, o30, o31, trivial⟩, ⟨o62, o63, trivial⟩, trivial⟩ g32
theorem o290 : FactOK Tryz.prog 185 f290 := q32.1
end Go.Proofs.YtimgjgookgenoaaGreatDoor
namespace Go.Proofs.YtimgjgookgenoaaGreatDoor
open Go Go.Zw
set_option maxRecDepth 1000000
def f291 : Fact := .mk [(.mp [((.agg [(zJ 2),(zJ 0),(zJ 0),(zJ 0),(zJ 0),(zJ 0)]),(.agg [zF,(.sl 1 0 0 1)]),0),((.agg [(zJ 0),(zJ 2),(zJ 0),(zJ 0),(zJ 0),(zJ 0)]),(.agg [zT,(.sl 2 0 1 1)]),1),((.agg [(zJ 1),(zJ 2),(zJ 0),(zJ 0),(zJ 0),(zJ 0)]),(.agg [zF,(.sl 3 0 1 1)]),2),((.agg [(zJ 1),(zJ 1),(zJ 0),(zJ 0),(zJ 0),(zJ 0)]),(.agg [zT,(.sl 4 0 1 1)]),3),((.agg [(zJ 1),(zJ 0),(zJ 0),(zJ 0),(zJ 0),(zJ 0)]),(.agg [zF,(.sl 5 0 1 1)]),4)] 5),(.ob 68 true []),(.ob 68 false [(zU 1)]),(.ob 68 false [(zU 1)]),(.ob 68 false [(zU 1)]),(.ob 68 false [(zU 1)])] [(.mp 0)] [(.agg [(zJ 1),(zJ 2),(zJ 0),(zJ 0),(zJ 0),(zJ 0)]),(.agg [zF,(.sl 3 0 1 1)]),zT] [(0,some (.mp [((.agg [(zJ 0),(zJ 2),(zJ 0),(zJ 0),(zJ 0),(zJ 0)]),(.agg [zT,(.sl 2 0 1 1)]),1),((.agg [(zJ 1),(zJ 2),(zJ 0),(zJ 0),(zJ 0),(zJ 0)]),(.agg [zF,(.sl 3 0 1 1)]),2),((.agg [(zJ 1),(zJ 1),(zJ 0),(zJ 0),(zJ 0),(zJ 0)]),(.agg [zT,(.sl 4 0 1 1)]),3),((.agg [(zJ 1),(zJ 0),(zJ 0),(zJ 0),(zJ 0),(zJ 0)]),(.agg [zF,(.sl 5 0 1 1)]),4)] 5))] []
theorem g33 : chk [(268, [f14, f15, f16, f31, f34, f35, f36, f39, f40, f41, f42, f43]), (29, [f62, f63, f65])] [(185, f291)] = true := by kernel_rfl
theorem q33 : allOK Tryz.prog [(185, f291)] := chk_ok (deps := [(268, [f14, f15, f16, f31, f34, f35, f36, f39, f40, f41, f42, f43]), (29, [f62, f63, f65])]) ⟨⟨o14, o15, o16, o31, o34, o35, o36, o39, o40, o41, o42, o43, trivial⟩, ⟨o62, o63, o65, trivial⟩, trivial⟩ g33
theorem o291 : FactOK Tryz.prog 185 f291 := q33.1
end Go.Proofs.YtimgjgookgenoaaGreatDoor
namespace Go.Proofs.YtimgjgookgenoaaGreatDoor
open Go Go.Zw
set_option maxRecDepth 1000000
def f292 : Fact := .mk [(.mp [((.agg [(zJ 0),(zJ 2),(zJ 0),(zJ 0),(zJ 0),(zJ 0)]),(.agg [zF,(.sl 1 0 0 1)]),1),((.agg [(zJ 1),(zJ 2),(zJ 0),(zJ 0),(zJ 0),(zJ 0)]),(.agg [zF,(.sl 2 0 0 1)]),2),((.agg [(zJ 1),(zJ 1),(zJ 0),(zJ 0),(zJ 0),(zJ 0)]),(.agg [zT,(.sl 3 0 1 1)]),3),((.agg [(zJ 1),(zJ 0),(zJ 0),(zJ 0),(zJ 0),(zJ 0)]),(.agg [zF,(.sl 4 0 1 1)]),4),((.agg [(zJ 0),(zJ 4),(zJ 0),(zJ 0),(zJ 0),(zJ 0)]),(.agg [zF,(.sl 5 0 1 1)]),5),((.agg [(zJ 0),(zJ 3),(zJ 0),(zJ 0),(zJ 0),(zJ 0)]),(.agg [zT,(.sl 6 0 1 1)]),6)] 7),(.ob 68 true []),(.ob 68 true []),(.ob 68 false [(zU 1)]),(.ob 68 false [(zU 1)]),(.ob 68 false [(zU 1)]),(.ob 68 false [(zU 1)])] [(.mp 0)] [(.agg [(zJ 1),(zJ 1),(zJ 0),(zJ 0),(zJ 0),(zJ 0)]),(.agg [zT,(.sl 3 0 1 1)]),zT] [(0,some (.mp [((.agg [(zJ 1),(zJ 1),(zJ 0),(zJ 0),(zJ 0),(zJ 0)]),(.agg [zT,(.sl 3 0 1 1)]),3),((.agg [(zJ 1),(zJ 0),(zJ 0),(zJ 0),(zJ 0),(zJ 0)]),(.agg [zF,(.sl 4 0 1 1)]),4),((.agg [(zJ 0),(zJ 4),(zJ 0),(zJ 0),(zJ 0),(zJ 0)]),(.agg [zF,(.sl 5 0 1 1)]),5),((.agg [(zJ 0),(zJ 3),(zJ 0),(zJ 0),(zJ 0),(zJ 0)]),(.agg [zT,(.sl 6 0 1 1)]),6)] 7))] []
theorem g34 : chk [(268, [f20, f21, f22, f26, f27, f28, f32, f33, f34, f37, f38, f39]), (29, [f62, f63, f65])] [(185, f292)] = true := by kernel_rfl
theorem q34 : allOK Tryz.prog [(185, f292)] := chk_ok (deps := [(268, [f20, f21, f22, f26, f27, f28, f32, f33, f34, f37, f38, f39]), (29, [f62, f63, f65])]) ⟨⟨o20, o21, o22, o26, o27, o28, o32, o33, o34, o37, o38, o39, trivial⟩, ⟨o62, o63, o65, trivial⟩, trivial⟩ g34
theorem o292 : FactOK Tryz.prog 185 f292 := q34.1
end Go.Proofs.YtimgjgookgenoaaGreatDoor
