/- Facts: calls of the program, reckoned. Part 1. -/
import Derived.Test.YtimgjgookgenoaaGreatDoorSA
set_option linter.unusedVariables false
set_option linter.unusedSimpArgs false
set_option linter.unusedSectionVars false
namespace Go.Proofs.YtimgjgookgenoaaGreatDoor
open Go Go.Zw
set_option maxRecDepth 1000000
def f4 : Fact := .mk [(.ob 280 true [(zJ 0),(zJ 0),(zJ 0),(zJ 0),(zJ 0),(zJ 0)]),(.ob 280 true [(zJ 1),(zJ 0),(zJ 0),(zJ 0),(zJ 0),(zJ 0)])] [(.sl 0 0 6 1),(.sl 1 0 6 1)] [(zM 0)] [] []
def f9 : Fact := .mk [(.ob 280 true [(zJ 0),(zJ 1),(zJ 0),(zJ 0),(zJ 0),(zJ 0)]),(.ob 280 true [(zJ 1),(zJ 0),(zJ 0),(zJ 0),(zJ 0),(zJ 0)])] [(.sl 0 0 6 1),(.sl 1 0 6 1)] [(zM 0)] [] []
def f14 : Fact := .mk [(.ob 280 true [(zJ 0),(zJ 2),(zJ 0),(zJ 0),(zJ 0),(zJ 0)]),(.ob 280 true [(zJ 1),(zJ 0),(zJ 0),(zJ 0),(zJ 0),(zJ 0)])] [(.sl 0 0 6 1),(.sl 1 0 6 1)] [(zM 0)] [] []
def f15 : Fact := .mk [(.ob 280 true [(zJ 0),(zJ 2),(zJ 0),(zJ 0),(zJ 0),(zJ 0)]),(.ob 280 true [(zJ 1),(zJ 1),(zJ 0),(zJ 0),(zJ 0),(zJ 0)])] [(.sl 0 0 6 1),(.sl 1 0 6 1)] [(zM 0)] [] []
def f16 : Fact := .mk [(.ob 280 true [(zJ 0),(zJ 2),(zJ 0),(zJ 0),(zJ 0),(zJ 0)]),(.ob 280 true [(zJ 1),(zJ 2),(zJ 0),(zJ 0),(zJ 0),(zJ 0)])] [(.sl 0 0 6 1),(.sl 1 0 6 1)] [(zM 0)] [] []
def f21 : Fact := .mk [(.ob 280 true [(zJ 0),(zJ 3),(zJ 0),(zJ 0),(zJ 0),(zJ 0)]),(.ob 280 true [(zJ 1),(zJ 0),(zJ 0),(zJ 0),(zJ 0),(zJ 0)])] [(.sl 0 0 6 1),(.sl 1 0 6 1)] [(zM 0)] [] []
def f22 : Fact := .mk [(.ob 280 true [(zJ 0),(zJ 3),(zJ 0),(zJ 0),(zJ 0),(zJ 0)]),(.ob 280 true [(zJ 1),(zJ 1),(zJ 0),(zJ 0),(zJ 0),(zJ 0)])] [(.sl 0 0 6 1),(.sl 1 0 6 1)] [(zM 0)] [] []
def f27 : Fact := .mk [(.ob 280 true [(zJ 0),(zJ 4),(zJ 0),(zJ 0),(zJ 0),(zJ 0)]),(.ob 280 true [(zJ 1),(zJ 0),(zJ 0),(zJ 0),(zJ 0),(zJ 0)])] [(.sl 0 0 6 1),(.sl 1 0 6 1)] [(zM 0)] [] []
def f28 : Fact := .mk [(.ob 280 true [(zJ 0),(zJ 4),(zJ 0),(zJ 0),(zJ 0),(zJ 0)]),(.ob 280 true [(zJ 1),(zJ 1),(zJ 0),(zJ 0),(zJ 0),(zJ 0)])] [(.sl 0 0 6 1),(.sl 1 0 6 1)] [(zM 0)] [] []
def f64 : Fact := .mk [(.ob 280 true [(zJ 0),(zJ 2),(zJ 0),(zJ 0),(zJ 0),(zJ 0)]),(.ob 280 true [(zJ 2),(zJ 0),(zJ 0),(zJ 0),(zJ 0),(zJ 0)])] [(.sl 0 0 6 1),(.sl 1 0 6 1)] [(zM 0)] [] []
def f29 : Fact := .mk [(.ob 280 true [(zJ 1),(zJ 0),(zJ 0),(zJ 0),(zJ 0),(zJ 0)]),(.ob 280 true [(zJ 0),(zJ 0),(zJ 0),(zJ 0),(zJ 0),(zJ 0)])] [(.sl 0 0 6 1),(.sl 1 0 6 1)] [(zJ 1)] [] []
def f30 : Fact := .mk [(.ob 280 true [(zJ 1),(zJ 0),(zJ 0),(zJ 0),(zJ 0),(zJ 0)]),(.ob 280 true [(zJ 0),(zJ 1),(zJ 0),(zJ 0),(zJ 0),(zJ 0)])] [(.sl 0 0 6 1),(.sl 1 0 6 1)] [(zJ 1)] [] []
def f31 : Fact := .mk [(.ob 280 true [(zJ 1),(zJ 0),(zJ 0),(zJ 0),(zJ 0),(zJ 0)]),(.ob 280 true [(zJ 0),(zJ 2),(zJ 0),(zJ 0),(zJ 0),(zJ 0)])] [(.sl 0 0 6 1),(.sl 1 0 6 1)] [(zJ 1)] [] []
def f32 : Fact := .mk [(.ob 280 true [(zJ 1),(zJ 0),(zJ 0),(zJ 0),(zJ 0),(zJ 0)]),(.ob 280 true [(zJ 0),(zJ 3),(zJ 0),(zJ 0),(zJ 0),(zJ 0)])] [(.sl 0 0 6 1),(.sl 1 0 6 1)] [(zJ 1)] [] []
def f33 : Fact := .mk [(.ob 280 true [(zJ 1),(zJ 0),(zJ 0),(zJ 0),(zJ 0),(zJ 0)]),(.ob 280 true [(zJ 0),(zJ 4),(zJ 0),(zJ 0),(zJ 0),(zJ 0)])] [(.sl 0 0 6 1),(.sl 1 0 6 1)] [(zJ 1)] [] []
def f36 : Fact := .mk [(.ob 280 true [(zJ 1),(zJ 1),(zJ 0),(zJ 0),(zJ 0),(zJ 0)]),(.ob 280 true [(zJ 0),(zJ 2),(zJ 0),(zJ 0),(zJ 0),(zJ 0)])] [(.sl 0 0 6 1),(.sl 1 0 6 1)] [(zJ 1)] [] []
def f37 : Fact := .mk [(.ob 280 true [(zJ 1),(zJ 1),(zJ 0),(zJ 0),(zJ 0),(zJ 0)]),(.ob 280 true [(zJ 0),(zJ 3),(zJ 0),(zJ 0),(zJ 0),(zJ 0)])] [(.sl 0 0 6 1),(.sl 1 0 6 1)] [(zJ 1)] [] []
def f38 : Fact := .mk [(.ob 280 true [(zJ 1),(zJ 1),(zJ 0),(zJ 0),(zJ 0),(zJ 0)]),(.ob 280 true [(zJ 0),(zJ 4),(zJ 0),(zJ 0),(zJ 0),(zJ 0)])] [(.sl 0 0 6 1),(.sl 1 0 6 1)] [(zJ 1)] [] []
def f41 : Fact := .mk [(.ob 280 true [(zJ 1),(zJ 2),(zJ 0),(zJ 0),(zJ 0),(zJ 0)]),(.ob 280 true [(zJ 0),(zJ 2),(zJ 0),(zJ 0),(zJ 0),(zJ 0)])] [(.sl 0 0 6 1),(.sl 1 0 6 1)] [(zJ 1)] [] []
def f65 : Fact := .mk [(.ob 68 true [])] [(.agg [zF,(.sl 0 0 0 1)])] [(zJ 0)] [] []
def f62 : Fact := .mk [(.ob 68 false [(zU 1)])] [(.agg [zF,(.sl 0 0 1 1)])] [(zJ 1)] [] []
def f295 : Fact := .mk [(.ob 68 false [(zU 2)])] [(.agg [zF,(.sl 0 0 1 1)])] [(zJ 1)] [] []
def f63 : Fact := .mk [(.ob 68 false [(zU 1)])] [(.agg [zT,(.sl 0 0 1 1)])] [(zM 0)] [] []
def f293 : Fact := .mk [(.ob 68 false [(zU 2)])] [(.agg [zT,(.sl 0 0 1 1)])] [(zM 0)] [] []
def f0 : Fact := .mk [(.ob 280 true [(zJ 0),(zJ 0),(zJ 0),(zJ 0),(zJ 0),(zJ 0)]),(.ob 280 true [(zJ 0),(zJ 1),(zJ 0),(zJ 0),(zJ 0),(zJ 0)])] [(.sl 0 0 6 1),(.sl 1 0 6 1)] [(zM 0)] [] []
def f1 : Fact := .mk [(.ob 280 true [(zJ 0),(zJ 0),(zJ 0),(zJ 0),(zJ 0),(zJ 0)]),(.ob 280 true [(zJ 0),(zJ 2),(zJ 0),(zJ 0),(zJ 0),(zJ 0)])] [(.sl 0 0 6 1),(.sl 1 0 6 1)] [(zM 0)] [] []
def f2 : Fact := .mk [(.ob 280 true [(zJ 0),(zJ 0),(zJ 0),(zJ 0),(zJ 0),(zJ 0)]),(.ob 280 true [(zJ 0),(zJ 3),(zJ 0),(zJ 0),(zJ 0),(zJ 0)])] [(.sl 0 0 6 1),(.sl 1 0 6 1)] [(zM 0)] [] []
def f3 : Fact := .mk [(.ob 280 true [(zJ 0),(zJ 0),(zJ 0),(zJ 0),(zJ 0),(zJ 0)]),(.ob 280 true [(zJ 0),(zJ 4),(zJ 0),(zJ 0),(zJ 0),(zJ 0)])] [(.sl 0 0 6 1),(.sl 1 0 6 1)] [(zM 0)] [] []
def f6 : Fact := .mk [(.ob 280 true [(zJ 0),(zJ 1),(zJ 0),(zJ 0),(zJ 0),(zJ 0)]),(.ob 280 true [(zJ 0),(zJ 2),(zJ 0),(zJ 0),(zJ 0),(zJ 0)])] [(.sl 0 0 6 1),(.sl 1 0 6 1)] [(zM 0)] [] []
def f7 : Fact := .mk [(.ob 280 true [(zJ 0),(zJ 1),(zJ 0),(zJ 0),(zJ 0),(zJ 0)]),(.ob 280 true [(zJ 0),(zJ 3),(zJ 0),(zJ 0),(zJ 0),(zJ 0)])] [(.sl 0 0 6 1),(.sl 1 0 6 1)] [(zM 0)] [] []
def f8 : Fact := .mk [(.ob 280 true [(zJ 0),(zJ 1),(zJ 0),(zJ 0),(zJ 0),(zJ 0)]),(.ob 280 true [(zJ 0),(zJ 4),(zJ 0),(zJ 0),(zJ 0),(zJ 0)])] [(.sl 0 0 6 1),(.sl 1 0 6 1)] [(zM 0)] [] []
def f12 : Fact := .mk [(.ob 280 true [(zJ 0),(zJ 2),(zJ 0),(zJ 0),(zJ 0),(zJ 0)]),(.ob 280 true [(zJ 0),(zJ 3),(zJ 0),(zJ 0),(zJ 0),(zJ 0)])] [(.sl 0 0 6 1),(.sl 1 0 6 1)] [(zM 0)] [] []
def f13 : Fact := .mk [(.ob 280 true [(zJ 0),(zJ 2),(zJ 0),(zJ 0),(zJ 0),(zJ 0)]),(.ob 280 true [(zJ 0),(zJ 4),(zJ 0),(zJ 0),(zJ 0),(zJ 0)])] [(.sl 0 0 6 1),(.sl 1 0 6 1)] [(zM 0)] [] []
def f20 : Fact := .mk [(.ob 280 true [(zJ 0),(zJ 3),(zJ 0),(zJ 0),(zJ 0),(zJ 0)]),(.ob 280 true [(zJ 0),(zJ 4),(zJ 0),(zJ 0),(zJ 0),(zJ 0)])] [(.sl 0 0 6 1),(.sl 1 0 6 1)] [(zM 0)] [] []
def f34 : Fact := .mk [(.ob 280 true [(zJ 1),(zJ 0),(zJ 0),(zJ 0),(zJ 0),(zJ 0)]),(.ob 280 true [(zJ 1),(zJ 1),(zJ 0),(zJ 0),(zJ 0),(zJ 0)])] [(.sl 0 0 6 1),(.sl 1 0 6 1)] [(zM 0)] [] []
def f35 : Fact := .mk [(.ob 280 true [(zJ 1),(zJ 0),(zJ 0),(zJ 0),(zJ 0),(zJ 0)]),(.ob 280 true [(zJ 1),(zJ 2),(zJ 0),(zJ 0),(zJ 0),(zJ 0)])] [(.sl 0 0 6 1),(.sl 1 0 6 1)] [(zM 0)] [] []
def f40 : Fact := .mk [(.ob 280 true [(zJ 1),(zJ 1),(zJ 0),(zJ 0),(zJ 0),(zJ 0)]),(.ob 280 true [(zJ 1),(zJ 2),(zJ 0),(zJ 0),(zJ 0),(zJ 0)])] [(.sl 0 0 6 1),(.sl 1 0 6 1)] [(zM 0)] [] []
def f5 : Fact := .mk [(.ob 280 true [(zJ 0),(zJ 1),(zJ 0),(zJ 0),(zJ 0),(zJ 0)]),(.ob 280 true [(zJ 0),(zJ 0),(zJ 0),(zJ 0),(zJ 0),(zJ 0)])] [(.sl 0 0 6 1),(.sl 1 0 6 1)] [(zJ 1)] [] []
def f10 : Fact := .mk [(.ob 280 true [(zJ 0),(zJ 2),(zJ 0),(zJ 0),(zJ 0),(zJ 0)]),(.ob 280 true [(zJ 0),(zJ 0),(zJ 0),(zJ 0),(zJ 0),(zJ 0)])] [(.sl 0 0 6 1),(.sl 1 0 6 1)] [(zJ 1)] [] []
def f11 : Fact := .mk [(.ob 280 true [(zJ 0),(zJ 2),(zJ 0),(zJ 0),(zJ 0),(zJ 0)]),(.ob 280 true [(zJ 0),(zJ 1),(zJ 0),(zJ 0),(zJ 0),(zJ 0)])] [(.sl 0 0 6 1),(.sl 1 0 6 1)] [(zJ 1)] [] []
def f17 : Fact := .mk [(.ob 280 true [(zJ 0),(zJ 3),(zJ 0),(zJ 0),(zJ 0),(zJ 0)]),(.ob 280 true [(zJ 0),(zJ 0),(zJ 0),(zJ 0),(zJ 0),(zJ 0)])] [(.sl 0 0 6 1),(.sl 1 0 6 1)] [(zJ 1)] [] []
def f18 : Fact := .mk [(.ob 280 true [(zJ 0),(zJ 3),(zJ 0),(zJ 0),(zJ 0),(zJ 0)]),(.ob 280 true [(zJ 0),(zJ 1),(zJ 0),(zJ 0),(zJ 0),(zJ 0)])] [(.sl 0 0 6 1),(.sl 1 0 6 1)] [(zJ 1)] [] []
def f19 : Fact := .mk [(.ob 280 true [(zJ 0),(zJ 3),(zJ 0),(zJ 0),(zJ 0),(zJ 0)]),(.ob 280 true [(zJ 0),(zJ 2),(zJ 0),(zJ 0),(zJ 0),(zJ 0)])] [(.sl 0 0 6 1),(.sl 1 0 6 1)] [(zJ 1)] [] []
def f23 : Fact := .mk [(.ob 280 true [(zJ 0),(zJ 4),(zJ 0),(zJ 0),(zJ 0),(zJ 0)]),(.ob 280 true [(zJ 0),(zJ 0),(zJ 0),(zJ 0),(zJ 0),(zJ 0)])] [(.sl 0 0 6 1),(.sl 1 0 6 1)] [(zJ 1)] [] []
def f24 : Fact := .mk [(.ob 280 true [(zJ 0),(zJ 4),(zJ 0),(zJ 0),(zJ 0),(zJ 0)]),(.ob 280 true [(zJ 0),(zJ 1),(zJ 0),(zJ 0),(zJ 0),(zJ 0)])] [(.sl 0 0 6 1),(.sl 1 0 6 1)] [(zJ 1)] [] []
def f25 : Fact := .mk [(.ob 280 true [(zJ 0),(zJ 4),(zJ 0),(zJ 0),(zJ 0),(zJ 0)]),(.ob 280 true [(zJ 0),(zJ 2),(zJ 0),(zJ 0),(zJ 0),(zJ 0)])] [(.sl 0 0 6 1),(.sl 1 0 6 1)] [(zJ 1)] [] []
def f26 : Fact := .mk [(.ob 280 true [(zJ 0),(zJ 4),(zJ 0),(zJ 0),(zJ 0),(zJ 0)]),(.ob 280 true [(zJ 0),(zJ 3),(zJ 0),(zJ 0),(zJ 0),(zJ 0)])] [(.sl 0 0 6 1),(.sl 1 0 6 1)] [(zJ 1)] [] []
def f39 : Fact := .mk [(.ob 280 true [(zJ 1),(zJ 1),(zJ 0),(zJ 0),(zJ 0),(zJ 0)]),(.ob 280 true [(zJ 1),(zJ 0),(zJ 0),(zJ 0),(zJ 0),(zJ 0)])] [(.sl 0 0 6 1),(.sl 1 0 6 1)] [(zJ 1)] [] []
def f42 : Fact := .mk [(.ob 280 true [(zJ 1),(zJ 2),(zJ 0),(zJ 0),(zJ 0),(zJ 0)]),(.ob 280 true [(zJ 1),(zJ 0),(zJ 0),(zJ 0),(zJ 0),(zJ 0)])] [(.sl 0 0 6 1),(.sl 1 0 6 1)] [(zJ 1)] [] []
def f43 : Fact := .mk [(.ob 280 true [(zJ 1),(zJ 2),(zJ 0),(zJ 0),(zJ 0),(zJ 0)]),(.ob 280 true [(zJ 1),(zJ 1),(zJ 0),(zJ 0),(zJ 0),(zJ 0)])] [(.sl 0 0 6 1),(.sl 1 0 6 1)] [(zJ 1)] [] []
def f166 : Fact := .mk [(.ob 3 true [(zJ 0),(zJ 0),(zJ 1),(zJ 0),(zJ 0)]),(.ob 3 true [(zJ 0),(zJ 1)])] [(.sl 0 0 5 1),(zJ 0),(.sl 1 0 2 1),(zJ 13)] [(.sl 2 0 1 1)] [] [(.ob 3 true [(zJ 12)])]
def f184 : Fact := .mk [(.ob 3 true [(zJ 0),(zJ 0),(zJ 1),(zJ 0),(zJ 0)]),(.ob 3 true [(zJ 5),(zJ 1),(zJ 0)])] [(.sl 0 0 5 1),(zJ 1),(.sl 1 0 2 1),(zJ 13)] [(.sl 2 0 1 1)] [] [(.ob 3 true [(zJ 12)])]
def f187 : Fact := .mk [(.ob 3 true [(zJ 0),(zJ 0),(zJ 1),(zJ 0),(zJ 0)]),(.ob 3 true [(zJ 8),(zJ 1)])] [(.sl 0 0 5 1),(zJ 1),(.sl 1 0 2 1),(zJ 13)] [(.sl 2 0 1 1)] [] [(.ob 3 true [(zJ 12)])]
def f108 : Fact := .mk [(.ob 3 true [(zJ 0),(zJ 0),(zJ 1),(zJ 0),(zJ 0)]),(.ob 3 true [(zJ 0),(zJ 1)])] [(.sl 0 0 5 1),(zJ 1),(.sl 1 0 2 1),(zJ 5)] [(.sl 2 0 0 1)] [] [(.ob 3 true [(zJ 0)])]
def f147 : Fact := .mk [(.ob 3 true [(zJ 0),(zJ 1),(zJ 0),(zJ 1),(zJ 0)]),(.ob 3 true [(zJ 0),(zJ 1),(zJ 0),(zJ 1)])] [(.sl 0 0 5 1),(zJ 0),(.sl 1 0 4 1),(zJ 11)] [(.sl 2 0 1 1)] [] [(.ob 3 true [(zJ 10)])]
def f83 : Fact := .mk [(.ob 3 true [(zJ 0),(zJ 0),(zJ 0),(zJ 0),(zJ 1)]),(.ob 3 true [(zJ 1),(zJ 1),(zJ 0)])] [(.sl 0 0 5 1),(zJ 0),(.sl 1 0 2 1),(zJ 3)] [(.sl 2 0 0 1)] [] [(.ob 3 true [(zJ 0)])]
def f101 : Fact := .mk [(.ob 3 true [(zJ 0),(zJ 1),(zJ 0),(zJ 0),(zJ 0)]),(.ob 3 true [(zJ 4),(zJ 0),(zJ 1),(zJ 0)])] [(.sl 0 0 5 1),(zJ 1),(.sl 1 0 3 1),(zJ 5)] [(.sl 2 0 2 1)] [] [(.ob 3 true [(zJ 1),(zJ 2)])]
def f103 : Fact := .mk [(.ob 3 true [(zJ 0),(zJ 1),(zJ 0),(zJ 0),(zJ 0)]),(.ob 3 true [(zJ 1),(zJ 0),(zJ 1),(zJ 0)])] [(.sl 0 0 5 1),(zJ 1),(.sl 1 0 3 1),(zJ 5)] [(.sl 2 0 2 1)] [] [(.ob 3 true [(zJ 4),(zJ 2)])]
def f119 : Fact := .mk [(.ob 3 true [(zJ 0),(zJ 1),(zJ 0),(zJ 0),(zJ 0)]),(.ob 3 true [(zJ 4),(zJ 0),(zJ 1),(zJ 0)])] [(.sl 0 0 5 1),(zJ 2),(.sl 1 0 3 1),(zJ 5)] [(.sl 2 0 2 1)] [] [(.ob 3 true [(zJ 4),(zJ 4)])]
def f100 : Fact := .mk [(.ob 3 true [(zJ 0),(zJ 0),(zJ 0),(zJ 0),(zJ 1)]),(.ob 3 true [(zJ 0),(zJ 1)])] [(.sl 0 0 5 1),(zJ 0),(.sl 1 0 2 1),(zJ 5)] [(.sl 2 0 1 1)] [] [(.ob 3 true [(zJ 4)])]
def f171 : Fact := .mk [(.ob 3 true [(zJ 0),(zJ 0),(zJ 0),(zJ 1),(zJ 0)]),(.ob 3 true [(zJ 0),(zJ 1)])] [(.sl 0 0 5 1),(zJ 0),(.sl 1 0 2 1),(zJ 13)] [(.sl 2 0 1 1)] [] [(.ob 3 true [(zJ 12)])]
def f111 : Fact := .mk [(.ob 3 true [(zJ 0),(zJ 0),(zJ 0),(zJ 1),(zJ 0)]),(.ob 3 true [(zJ 2),(zJ 1),(zJ 0)])] [(.sl 0 0 5 1),(zJ 1),(.sl 1 0 2 1),(zJ 5)] [(.sl 2 0 1 1)] [] [(.ob 3 true [(zJ 3)])]
def f113 : Fact := .mk [(.ob 3 true [(zJ 0),(zJ 0),(zJ 0),(zJ 1),(zJ 0)]),(.ob 3 true [(zJ 0),(zJ 1)])] [(.sl 0 0 5 1),(zJ 1),(.sl 1 0 2 1),(zJ 5)] [(.sl 2 0 0 1)] [] [(.ob 3 true [(zJ 0)])]
def f114 : Fact := .mk [(.ob 3 true [(zJ 0),(zJ 0),(zJ 0),(zJ 1),(zJ 0)]),(.ob 3 true [(zJ 3),(zJ 1)])] [(.sl 0 0 5 1),(zJ 1),(.sl 1 0 2 1),(zJ 5)] [(.sl 2 0 0 1)] [] [(.ob 3 true [(zJ 0)])]
def f84 : Fact := .mk [(.ob 3 true [(zJ 0),(zJ 0),(zJ 0),(zJ 0),(zJ 1)]),(.ob 3 true [(zJ 0),(zJ 1),(zJ 0),(zJ 1)])] [(.sl 0 0 5 1),(zJ 0),(.sl 1 0 4 1),(zJ 3)] [(.sl 2 0 3 1)] [] [(.ob 3 true [(zJ 2),(zJ 0),(zJ 2)])]
def f180 : Fact := .mk [(.ob 3 true [(zJ 0),(zJ 1),(zJ 0),(zJ 0),(zJ 0)]),(.ob 3 true [(zJ 8),(zJ 1)])] [(.sl 0 0 5 1),(zJ 1),(.sl 1 0 2 1),(zJ 13)] [(.sl 2 0 1 1)] [] [(.ob 3 true [(zJ 11)])]
def f200 : Fact := .mk [(.ob 3 true [(zJ 0),(zJ 1),(zJ 0),(zJ 0),(zJ 0)]),(.ob 3 true [(zJ 0),(zJ 1)])] [(.sl 0 0 5 1),(zJ 2),(.sl 1 0 2 1),(zJ 13)] [(.sl 2 0 1 1)] [] [(.ob 3 true [(zJ 11)])]
def f202 : Fact := .mk [(.ob 3 true [(zJ 0),(zJ 1),(zJ 0),(zJ 0),(zJ 0)]),(.ob 3 true [(zJ 8),(zJ 1)])] [(.sl 0 0 5 1),(zJ 2),(.sl 1 0 2 1),(zJ 13)] [(.sl 2 0 1 1)] [] [(.ob 3 true [(zJ 11)])]
def f179 : Fact := .mk [(.ob 3 true [(zJ 0),(zJ 1),(zJ 0),(zJ 0),(zJ 0)]),(.ob 3 true [(zJ 0),(zJ 1)])] [(.sl 0 0 5 1),(zJ 1),(.sl 1 0 2 1),(zJ 13)] [(.sl 2 0 0 1)] [] [(.ob 3 true [(zJ 0)])]
def f199 : Fact := .mk [(.ob 3 true [(zJ 0),(zJ 1),(zJ 0),(zJ 0),(zJ 0)]),(.ob 3 true [(zJ 5),(zJ 1),(zJ 0)])] [(.sl 0 0 5 1),(zJ 2),(.sl 1 0 2 1),(zJ 13)] [(.sl 2 0 0 1)] [] [(.ob 3 true [(zJ 0)])]
def f132 : Fact := .mk [(.ob 3 true [(zJ 0),(zJ 1),(zJ 0),(zJ 1),(zJ 0)]),(.ob 3 true [(zJ 1),(zJ 1)])] [(.sl 0 0 5 1),(zJ 0),(.sl 1 0 2 1),(zJ 7)] [(.sl 2 0 1 1)] [] [(.ob 3 true [(zJ 5)])]
def f174 : Fact := .mk [(.ob 3 true [(zJ 0),(zJ 0),(zJ 0),(zJ 0),(zJ 1)]),(.ob 3 true [(zJ 0),(zJ 1)])] [(.sl 0 0 5 1),(zJ 0),(.sl 1 0 2 1),(zJ 13)] [(.sl 2 0 1 1)] [] [(.ob 3 true [(zJ 12)])]
def f182 : Fact := .mk [(.ob 3 true [(zJ 0),(zJ 0),(zJ 1),(zJ 0),(zJ 0)]),(.ob 3 true [(zJ 12),(zJ 0),(zJ 1),(zJ 0)])] [(.sl 0 0 5 1),(zJ 1),(.sl 1 0 3 1),(zJ 13)] [(.sl 2 0 1 1)] [] [(.ob 3 true [(zJ 11)])]
def f116 : Fact := .mk [(.ob 3 true [(zJ 0),(zJ 0),(zJ 0),(zJ 0),(zJ 1)]),(.ob 3 true [(zJ 2),(zJ 1),(zJ 0)])] [(.sl 0 0 5 1),(zJ 1),(.sl 1 0 2 1),(zJ 5)] [(.sl 2 0 1 1)] [] [(.ob 3 true [(zJ 3)])]
def f118 : Fact := .mk [(.ob 3 true [(zJ 0),(zJ 0),(zJ 0),(zJ 0),(zJ 1)]),(.ob 3 true [(zJ 3),(zJ 1)])] [(.sl 0 0 5 1),(zJ 1),(.sl 1 0 2 1),(zJ 5)] [(.sl 2 0 1 1)] [] [(.ob 3 true [(zJ 3)])]
def f115 : Fact := .mk [(.ob 3 true [(zJ 0),(zJ 0),(zJ 0),(zJ 0),(zJ 1)]),(.ob 3 true [(zJ 4),(zJ 0),(zJ 1),(zJ 0)])] [(.sl 0 0 5 1),(zJ 1),(.sl 1 0 3 1),(zJ 5)] [(.sl 2 0 1 1)] [] [(.ob 3 true [(zJ 3)])]
def f163 : Fact := .mk [(.ob 3 true [(zJ 0),(zJ 0),(zJ 1),(zJ 0),(zJ 0)]),(.ob 3 true [(zJ 12),(zJ 0),(zJ 1),(zJ 0)])] [(.sl 0 0 5 1),(zJ 0),(.sl 1 0 3 1),(zJ 13)] [(.sl 2 0 0 1)] [] [(.ob 3 true [(zJ 0)])]
def f98 : Fact := .mk [(.ob 3 true [(zJ 0),(zJ 0),(zJ 0),(zJ 0),(zJ 1)]),(.ob 3 true [(zJ 4),(zJ 0),(zJ 1),(zJ 0)])] [(.sl 0 0 5 1),(zJ 0),(.sl 1 0 3 1),(zJ 5)] [(.sl 2 0 0 1)] [] [(.ob 3 true [(zJ 0)])]
def f99 : Fact := .mk [(.ob 3 true [(zJ 0),(zJ 0),(zJ 0),(zJ 0),(zJ 1)]),(.ob 3 true [(zJ 1),(zJ 0),(zJ 1),(zJ 0)])] [(.sl 0 0 5 1),(zJ 0),(.sl 1 0 3 1),(zJ 5)] [(.sl 2 0 0 1)] [] [(.ob 3 true [(zJ 0)])]
def f203 : Fact := .mk [(.ob 3 true [(zJ 0),(zJ 0),(zJ 1),(zJ 0),(zJ 0)]),(.ob 3 true [(zJ 12),(zJ 0),(zJ 1),(zJ 0)])] [(.sl 0 0 5 1),(zJ 2),(.sl 1 0 3 1),(zJ 13)] [(.sl 2 0 0 1)] [] [(.ob 3 true [(zJ 0)])]
def f117 : Fact := .mk [(.ob 3 true [(zJ 0),(zJ 0),(zJ 0),(zJ 0),(zJ 1)]),(.ob 3 true [(zJ 0),(zJ 1)])] [(.sl 0 0 5 1),(zJ 1),(.sl 1 0 2 1),(zJ 5)] [(.sl 2 0 0 1)] [] [(.ob 3 true [(zJ 0)])]
theorem g0 : chk [] [(268, f4), (268, f9), (268, f14), (268, f15), (268, f16), (268, f21), (268, f22), (268, f27), (268, f28), (268, f64), (268, f29), (268, f30), (268, f31), (268, f32), (268, f33), (268, f36), (268, f37), (268, f38), (268, f41), (29, f65), (29, f62), (29, f295), (29, f63), (29, f293), (268, f0), (268, f1), (268, f2), (268, f3), (268, f6), (268, f7), (268, f8), (268, f12), (268, f13), (268, f20), (268, f34), (268, f35), (268, f40), (268, f5), (268, f10), (268, f11), (268, f17), (268, f18), (268, f19), (268, f23), (268, f24), (268, f25), (268, f26), (268, f39), (268, f42), (268, f43), (420, f166), (420, f184), (420, f187), (420, f108), (420, f147), (420, f83), (420, f101), (420, f103), (420, f119), (420, f100), (420, f171), (420, f111), (420, f113), (420, f114), (420, f84), (420, f180), (420, f200), (420, f202), (420, f179), (420, f199), (420, f132), (420, f174), (420, f182), (420, f116), (420, f118), (420, f115), (420, f163), (420, f98), (420, f99), (420, f203), (420, f117)] = true := by kernel_rfl
theorem q0 : allOK Tryz.prog [(268, f4), (268, f9), (268, f14), (268, f15), (268, f16), (268, f21), (268, f22), (268, f27), (268, f28), (268, f64), (268, f29), (268, f30), (268, f31), (268, f32), (268, f33), (268, f36), (268, f37), (268, f38), (268, f41), (29, f65), (29, f62), (29, f295), (29, f63), (29, f293), (268, f0), (268, f1), (268, f2), (268, f3), (268, f6), (268, f7), (268, f8), (268, f12), (268, f13), (268, f20), (268, f34), (268, f35), (268, f40), (268, f5), (268, f10), (268, f11), (268, f17), (268, f18), (268, f19), (268, f23), (268, f24), (268, f25), (268, f26), (268, f39), (268, f42), (268, f43), (420, f166), (420, f184), (420, f187), (420, f108), (420, f147), (420, f83), (420, f101), (420, f103), (420, f119), (420, f100), (420, f171), (420, f111), (420, f113), (420, f114), (420, f84), (420, f180), (420, f200), (420, f202), (420, f179), (420, f199), (420, f132), (420, f174), (420, f182), (420, f116), (420, f118), (420, f115), (420, f163), (420, f98), (420, f99), (420, f203), (420, f117)] := chk_ok (deps := []) trivial g0
theorem o4 : FactOK Tryz.prog 268 f4 := q0.1
theorem o9 : FactOK Tryz.prog 268 f9 := q0.2.1
theorem o14 : FactOK Tryz.prog 268 f14 := q0.2.2.1
theorem o15 : FactOK Tryz.prog 268 f15 := q0.2.2.2.1
theorem o16 : FactOK Tryz.prog 268 f16 := q0.2.2.2.2.1
theorem o21 : FactOK Tryz.prog 268 f21 := q0.2.2.2.2.2.1
theorem o22 : FactOK Tryz.prog 268 f22 := q0.2.2.2.2.2.2.1
theorem o27 : FactOK Tryz.prog 268 f27 := q0.2.2.2.2.2.2.2.1
theorem o28 : FactOK Tryz.prog 268 f28 := q0.2.2.2.2.2.2.2.2.1
theorem o64 : FactOK Tryz.prog 268 f64 := q0.2.2.2.2.2.2.2.2.2.1
theorem o29 : FactOK Tryz.prog 268 f29 := q0.2.2.2.2.2.2.2.2.2.2.1
theorem o30 : FactOK Tryz.prog 268 f30 := q0.2.2.2.2.2.2.2.2.2.2.2.1
theorem o31 : FactOK Tryz.prog 268 f31 := q0.2.2.2.2.2.2.2.2.2.2.2.2.1
theorem o32 : FactOK Tryz.prog 268 f32 := q0.2.2.2.2.2.2.2.2.2.2.2.2.2.1
theorem o33 : FactOK Tryz.prog 268 f33 := q0.2.2.2.2.2.2.2.2.2.2.2.2.2.2.1
theorem o36 : FactOK Tryz.prog 268 f36 := q0.2.2.2.2.2.2.2.2.2.2.2.2.2.2.2.1
theorem o37 : FactOK Tryz.prog 268 f37 := q0.2.2.2.2.2.2.2.2.2.2.2.2.2.2.2.2.1
theorem o38 : FactOK Tryz.prog 268 f38 := q0.2.2.2.2.2.2.2.2.2.2.2.2.2.2.2.2.2.1
theorem o41 : FactOK Tryz.prog 268 f41 := q0.2.2.2.2.2.2.2.2.2.2.2.2.2.2.2.2.2.2.1
theorem o65 : FactOK Tryz.prog 29 f65 := q0.2.2.2.2.2.2.2.2.2.2.2.2.2.2.2.2.2.2.2.1
theorem o62 : FactOK Tryz.prog 29 f62 := q0.2.2.2.2.2.2.2.2.2.2.2.2.2.2.2.2.2.2.2.2.1
theorem o295 : FactOK Tryz.prog 29 f295 := q0.2.2.2.2.2.2.2.2.2.2.2.2.2.2.2.2.2.2.2.2.2.1
theorem o63 : FactOK Tryz.prog 29 f63 := q0.2.2.2.2.2.2.2.2.2.2.2.2.2.2.2.2.2.2.2.2.2.2.1
theorem o293 : FactOK Tryz.prog 29 f293 := q0.2.2.2.2.2.2.2.2.2.2.2.2.2.2.2.2.2.2.2.2.2.2.2.1
theorem o0 : FactOK Tryz.prog 268 f0 := q0.2.2.2.2.2.2.2.2.2.2.2.2.2.2.2.2.2.2.2.2.2.2.2.2.1
theorem o1 : FactOK Tryz.prog 268 f1 := q0.2.2.2.2.2.2.2.2.2.2.2.2.2.2.2.2.2.2.2.2.2.2.2.2.2.1
theorem o2 : FactOK Tryz.prog 268 f2 := q0.2.2.2.2.2.2.2.2.2.2.2.2.2.2.2.2.2.2.2.2.2.2.2.2.2.2.1
theorem o3 : FactOK Tryz.prog 268 f3 := q0.2.2.2.2.2.2.2.2.2.2.2.2.2.2.2.2.2.2.2.2.2.2.2.2.2.2.2.1
theorem o6 : FactOK Tryz.prog 268 f6 := q0.2.2.2.2.2.2.2.2.2.2.2.2.2.2.2.2.2.2.2.2.2.2.2.2.2.2.2.2.1
theorem o7 : FactOK Tryz.prog 268 f7 := q0.2.2.2.2.2.2.2.2.2.2.2.2.2.2.2.2.2.2.2.2.2.2.2.2.2.2.2.2.2.1
theorem o8 : FactOK Tryz.prog 268 f8 := q0.2.2.2.2.2.2.2.2.2.2.2.2.2.2.2.2.2.2.2.2.2.2.2.2.2.2.2.2.2.2.1
theorem o12 : FactOK Tryz.prog 268 f12 := q0.2.2.2.2.2.2.2.2.2.2.2.2.2.2.2.2.2.2.2.2.2.2.2.2.2.2.2.2.2.2.2.1
theorem o13 : FactOK Tryz.prog 268 f13 := q0.2.2.2.2.2.2.2.2.2.2.2.2.2.2.2.2.2.2.2.2.2.2.2.2.2.2.2.2.2.2.2.2.1
theorem o20 : FactOK Tryz.prog 268 f20 := q0.2.2.2.2.2.2.2.2.2.2.2.2.2.2.2.2.2.2.2.2.2.2.2.2.2.2.2.2.2.2.2.2.2.1
theorem o34 : FactOK Tryz.prog 268 f34 := q0.2.2.2.2.2.2.2.2.2.2.2.2.2.2.2.2.2.2.2.2.2.2.2.2.2.2.2.2.2.2.2.2.2.2.1
theorem o35 : FactOK Tryz.prog 268 f35 := q0.2.2.2.2.2.2.2.2.2.2.2.2.2.2.2.2.2.2.2.2.2.2.2.2.2.2.2.2.2.2.2.2.2.2.2.1
theorem o40 : FactOK Tryz.prog 268 f40 := q0.2.2.2.2.2.2.2.2.2.2.2.2.2.2.2.2.2.2.2.2.2.2.2.2.2.2.2.2.2.2.2.2.2.2.2.2.1
theorem o5 : FactOK Tryz.prog 268 f5 := q0.2.2.2.2.2.2.2.2.2.2.2.2.2.2.2.2.2.2.2.2.2.2.2.2.2.2.2.2.2.2.2.2.2.2.2.2.2.1
theorem o10 : FactOK Tryz.prog 268 f10 := q0.2.2.2.2.2.2.2.2.2.2.2.2.2.2.2.2.2.2.2.2.2.2.2.2.2.2.2.2.2.2.2.2.2.2.2.2.2.2.1
theorem o11 : FactOK Tryz.prog 268 f11 := q0.2.2.2.2.2.2.2.2.2.2.2.2.2.2.2.2.2.2.2.2.2.2.2.2.2.2.2.2.2.2.2.2.2.2.2.2.2.2.2.1
theorem o17 : FactOK Tryz.prog 268 f17 := q0.2.2.2.2.2.2.2.2.2.2.2.2.2.2.2.2.2.2.2.2.2.2.2.2.2.2.2.2.2.2.2.2.2.2.2.2.2.2.2.2.1
theorem o18 : FactOK Tryz.prog 268 f18 := q0.2.2.2.2.2.2.2.2.2.2.2.2.2.2.2.2.2.2.2.2.2.2.2.2.2.2.2.2.2.2.2.2.2.2.2.2.2.2.2.2.2.1
theorem o19 : FactOK Tryz.prog 268 f19 := q0.2.2.2.2.2.2.2.2.2.2.2.2.2.2.2.2.2.2.2.2.2.2.2.2.2.2.2.2.2.2.2.2.2.2.2.2.2.2.2.2.2.2.1
theorem o23 : FactOK Tryz.prog 268 f23 := q0.2.2.2.2.2.2.2.2.2.2.2.2.2.2.2.2.2.2.2.2.2.2.2.2.2.2.2.2.2.2.2.2.2.2.2.2.2.2.2.2.2.2.2.1
theorem o24 : FactOK Tryz.prog 268 f24 := q0.2.2.2.2.2.2.2.2.2.2.2.2.2.2.2.2.2.2.2.2.2.2.2.2.2.2.2.2.2.2.2.2.2.2.2.2.2.2.2.2.2.2.2.2.1
theorem o25 : FactOK Tryz.prog 268 f25 := q0.2.2.2.2.2.2.2.2.2.2.2.2.2.2.2.2.2.2.2.2.2.2.2.2.2.2.2.2.2.2.2.2.2.2.2.2.2.2.2.2.2.2.2.2.2.1
theorem o26 : FactOK Tryz.prog 268 f26 := q0.2.2.2.2.2.2.2.2.2.2.2.2.2.2.2.2.2.2.2.2.2.2.2.2.2.2.2.2.2.2.2.2.2.2.2.2.2.2.2.2.2.2.2.2.2.2.1
theorem o39 : FactOK Tryz.prog 268 f39 := q0.2.2.2.2.2.2.2.2.2.2.2.2.2.2.2.2.2.2.2.2.2.2.2.2.2.2.2.2.2.2.2.2.2.2.2.2.2.2.2.2.2.2.2.2.2.2.2.1
theorem o42 : FactOK Tryz.prog 268 f42 := q0.2.2.2.2.2.2.2.2.2.2.2.2.2.2.2.2.2.2.2.2.2.2.2.2.2.2.2.2.2.2.2.2.2.2.2.2.2.2.2.2.2.2.2.2.2.2.2.2.1
theorem o43 : FactOK Tryz.prog 268 f43 := q0.2.2.2.2.2.2.2.2.2.2.2.2.2.2.2.2.2.2.2.2.2.2.2.2.2.2.2.2.2.2.2.2.2.2.2.2.2.2.2.2.2.2.2.2.2.2.2.2.2.1
theorem o166 : FactOK Tryz.prog 420 f166 := q0.2.2.2.2.2.2.2.2.2.2.2.2.2.2.2.2.2.2.2.2.2.2.2.2.2.2.2.2.2.2.2.2.2.2.2.2.2.2.2.2.2.2.2.2.2.2.2.2.2.2.1
theorem o184 : FactOK Tryz.prog 420 f184 := q0.2.2.2.2.2.2.2.2.2.2.2.2.2.2.2.2.2.2.2.2.2.2.2.2.2.2.2.2.2.2.2.2.2.2.2.2.2.2.2.2.2.2.2.2.2.2.2.2.2.2.2.1
theorem o187 : FactOK Tryz.prog 420 f187 := q0.2.2.2.2.2.2.2.2.2.2.2.2.2.2.2.2.2.2.2.2.2.2.2.2.2.2.2.2.2.2.2.2.2.2.2.2.2.2.2.2.2.2.2.2.2.2.2.2.2.2.2.2.1
theorem o108 : FactOK Tryz.prog 420 f108 := q0.2.2.2.2.2.2.2.2.2.2.2.2.2.2.2.2.2.2.2.2.2.2.2.2.2.2.2.2.2.2.2.2.2.2.2.2.2.2.2.2.2.2.2.2.2.2.2.2.2.2.2.2.2.1
theorem o147 : FactOK Tryz.prog 420 f147 := q0.2.2.2.2.2.2.2.2.2.2.2.2.2.2.2.2.2.2.2.2.2.2.2.2.2.2.2.2.2.2.2.2.2.2.2.2.2.2.2.2.2.2.2.2.2.2.2.2.2.2.2.2.2.2.1
theorem o83 : FactOK Tryz.prog 420 f83 := q0.2.2.2.2.2.2.2.2.2.2.2.2.2.2.2.2.2.2.2.2.2.2.2.2.2.2.2.2.2.2.2.2.2.2.2.2.2.2.2.2.2.2.2.2.2.2.2.2.2.2.2.2.2.2.2.1
theorem o101 : FactOK Tryz.prog 420 f101 := q0.2.2.2.2.2.2.2.2.2.2.2.2.2.2.2.2.2.2.2.2.2.2.2.2.2.2.2.2.2.2.2.2.2.2.2.2.2.2.2.2.2.2.2.2.2.2.2.2.2.2.2.2.2.2.2.2.1
theorem o103 : FactOK Tryz.prog 420 f103 := q0.2.2.2.2.2.2.2.2.2.2.2.2.2.2.2.2.2.2.2.2.2.2.2.2.2.2.2.2.2.2.2.2.2.2.2.2.2.2.2.2.2.2.2.2.2.2.2.2.2.2.2.2.2.2.2.2.2.1
theorem o119 : FactOK Tryz.prog 420 f119 := q0.2.2.2.2.2.2.2.2.2.2.2.2.2.2.2.2.2.2.2.2.2.2.2.2.2.2.2.2.2.2.2.2.2.2.2.2.2.2.2.2.2.2.2.2.2.2.2.2.2.2.2.2.2.2.2.2.2.2.1
theorem o100 : FactOK Tryz.prog 420 f100 := q0.2.2.2.2.2.2.2.2.2.2.2.2.2.2.2.2.2.2.2.2.2.2.2.2.2.2.2.2.2.2.2.2.2.2.2.2.2.2.2.2.2.2.2.2.2.2.2.2.2.2.2.2.2.2.2.2.2.2.2.1
theorem o171 : FactOK Tryz.prog 420 f171 := q0.2.2.2.2.2.2.2.2.2.2.2.2.2.2.2.2.2.2.2.2.2.2.2.2.2.2.2.2.2.2.2.2.2.2.2.2.2.2.2.2.2.2.2.2.2.2.2.2.2.2.2.2.2.2.2.2.2.2.2.2.1
theorem o111 : FactOK Tryz.prog 420 f111 := q0.2.2.2.2.2.2.2.2.2.2.2.2.2.2.2.2.2.2.2.2.2.2.2.2.2.2.2.2.2.2.2.2.2.2.2.2.2.2.2.2.2.2.2.2.2.2.2.2.2.2.2.2.2.2.2.2.2.2.2.2.2.1
theorem o113 : FactOK Tryz.prog 420 f113 := q0.2.2.2.2.2.2.2.2.2.2.2.2.2.2.2.2.2.2.2.2.2.2.2.2.2.2.2.2.2.2.2.2.2.2.2.2.2.2.2.2.2.2.2.2.2.2.2.2.2.2.2.2.2.2.2.2.2.2.2.2.2.2.1
theorem o114 : FactOK Tryz.prog 420 f114 := q0.2.2.2.2.2.2.2.2.2.2.2.2.2.2.2.2.2.2.2.2.2.2.2.2.2.2.2.2.2.2.2.2.2.2.2.2.2.2.2.2.2.2.2.2.2.2.2.2.2.2.2.2.2.2.2.2.2.2.2.2.2.2.2.1
theorem o84 : FactOK Tryz.prog 420 f84 := q0.2.2.2.2.2.2.2.2.2.2.2.2.2.2.2.2.2.2.2.2.2.2.2.2.2.2.2.2.2.2.2.2.2.2.2.2.2.2.2.2.2.2.2.2.2.2.2.2.2.2.2.2.2.2.2.2.2.2.2.2.2.2.2.2.1
theorem o180 : FactOK Tryz.prog 420 f180 := q0.2.2.2.2.2.2.2.2.2.2.2.2.2.2.2.2.2.2.2.2.2.2.2.2.2.2.2.2.2.2.2.2.2.2.2.2.2.2.2.2.2.2.2.2.2.2.2.2.2.2.2.2.2.2.2.2.2.2.2.2.2.2.2.2.2.1
theorem o200 : FactOK Tryz.prog 420 f200 := q0.2.2.2.2.2.2.2.2.2.2.2.2.2.2.2.2.2.2.2.2.2.2.2.2.2.2.2.2.2.2.2.2.2.2.2.2.2.2.2.2.2.2.2.2.2.2.2.2.2.2.2.2.2.2.2.2.2.2.2.2.2.2.2.2.2.2.1
theorem o202 : FactOK Tryz.prog 420 f202 := q0.2.2.2.2.2.2.2.2.2.2.2.2.2.2.2.2.2.2.2.2.2.2.2.2.2.2.2.2.2.2.2.2.2.2.2.2.2.2.2.2.2.2.2.2.2.2.2.2.2.2.2.2.2.2.2.2.2.2.2.2.2.2.2.2.2.2.2.1
theorem o179 : FactOK Tryz.prog 420 f179 := q0.2.2.2.2.2.2.2.2.2.2.2.2.2.2.2.2.2.2.2.2.2.2.2.2.2.2.2.2.2.2.2.2.2.2.2.2.2.2.2.2.2.2.2.2.2.2.2.2.2.2.2.2.2.2.2.2.2.2.2.2.2.2.2.2.2.2.2.2.1
theorem o199 : FactOK Tryz.prog 420 f199 := q0.2.2.2.2.2.2.2.2.2.2.2.2.2.2.2.2.2.2.2.2.2.2.2.2.2.2.2.2.2.2.2.2.2.2.2.2.2.2.2.2.2.2.2.2.2.2.2.2.2.2.2.2.2.2.2.2.2.2.2.2.2.2.2.2.2.2.2.2.2.1
theorem o132 : FactOK Tryz.prog 420 f132 := q0.2.2.2.2.2.2.2.2.2.2.2.2.2.2.2.2.2.2.2.2.2.2.2.2.2.2.2.2.2.2.2.2.2.2.2.2.2.2.2.2.2.2.2.2.2.2.2.2.2.2.2.2.2.2.2.2.2.2.2.2.2.2.2.2.2.2.2.2.2.2.1
theorem o174 : FactOK Tryz.prog 420 f174 := q0.2.2.2.2.2.2.2.2.2.2.2.2.2.2.2.2.2.2.2.2.2.2.2.2.2.2.2.2.2.2.2.2.2.2.2.2.2.2.2.2.2.2.2.2.2.2.2.2.2.2.2.2.2.2.2.2.2.2.2.2.2.2.2.2.2.2.2.2.2.2.2.1
theorem o182 : FactOK Tryz.prog 420 f182 := q0.2.2.2.2.2.2.2.2.2.2.2.2.2.2.2.2.2.2.2.2.2.2.2.2.2.2.2.2.2.2.2.2.2.2.2.2.2.2.2.2.2.2.2.2.2.2.2.2.2.2.2.2.2.2.2.2.2.2.2.2.2.2.2.2.2.2.2.2.2.2.2.2.1
theorem o116 : FactOK Tryz.prog 420 f116 := q0.2.2.2.2.2.2.2.2.2.2.2.2.2.2.2.2.2.2.2.2.2.2.2.2.2.2.2.2.2.2.2.2.2.2.2.2.2.2.2.2.2.2.2.2.2.2.2.2.2.2.2.2.2.2.2.2.2.2.2.2.2.2.2.2.2.2.2.2.2.2.2.2.2.1
theorem o118 : FactOK Tryz.prog 420 f118 := q0.2.2.2.2.2.2.2.2.2.2.2.2.2.2.2.2.2.2.2.2.2.2.2.2.2.2.2.2.2.2.2.2.2.2.2.2.2.2.2.2.2.2.2.2.2.2.2.2.2.2.2.2.2.2.2.2.2.2.2.2.2.2.2.2.2.2.2.2.2.2.2.2.2.2.1
theorem o115 : FactOK Tryz.prog 420 f115 := q0.2.2.2.2.2.2.2.2.2.2.2.2.2.2.2.2.2.2.2.2.2.2.2.2.2.2.2.2.2.2.2.2.2.2.2.2.2.2.2.2.2.2.2.2.2.2.2.2.2.2.2.2.2.2.2.2.2.2.2.2.2.2.2.2.2.2.2.2.2.2.2.2.2.2.2.1
theorem o163 : FactOK Tryz.prog 420 f163 := q0.2.2.2.2.2.2.2.2.2.2.2.2.2.2.2.2.2.2.2.2.2.2.2.2.2.2.2.2.2.2.2.2.2.2.2.2.2.2.2.2.2.2.2.2.2.2.2.2.2.2.2.2.2.2.2.2.2.2.2.2.2.2.2.2.2.2.2.2.2.2.2.2.2.2.2.2.1
theorem o98 : FactOK Tryz.prog 420 f98 := q0.2.2.2.2.2.2.2.2.2.2.2.2.2.2.2.2.2.2.2.2.2.2.2.2.2.2.2.2.2.2.2.2.2.2.2.2.2.2.2.2.2.2.2.2.2.2.2.2.2.2.2.2.2.2.2.2.2.2.2.2.2.2.2.2.2.2.2.2.2.2.2.2.2.2.2.2.2.1
theorem o99 : FactOK Tryz.prog 420 f99 := q0.2.2.2.2.2.2.2.2.2.2.2.2.2.2.2.2.2.2.2.2.2.2.2.2.2.2.2.2.2.2.2.2.2.2.2.2.2.2.2.2.2.2.2.2.2.2.2.2.2.2.2.2.2.2.2.2.2.2.2.2.2.2.2.2.2.2.2.2.2.2.2.2.2.2.2.2.2.2.1
theorem o203 : FactOK Tryz.prog 420 f203 := q0.2.2.2.2.2.2.2.2.2.2.2.2.2.2.2.2.2.2.2.2.2.2.2.2.2.2.2.2.2.2.2.2.2.2.2.2.2.2.2.2.2.2.2.2.2.2.2.2.2.2.2.2.2.2.2.2.2.2.2.2.2.2.2.2.2.2.2.2.2.2.2.2.2.2.2.2.2.2.2.1
theorem o117 : FactOK Tryz.prog 420 f117 := q0.2.2.2.2.2.2.2.2.2.2.2.2.2.2.2.2.2.2.2.2.2.2.2.2.2.2.2.2.2.2.2.2.2.2.2.2.2.2.2.2.2.2.2.2.2.2.2.2.2.2.2.2.2.2.2.2.2.2.2.2.2.2.2.2.2.2.2.2.2.2.2.2.2.2.2.2.2.2.2.2.1
end Go.Proofs.YtimgjgookgenoaaGreatDoor
namespace Go.Proofs.YtimgjgookgenoaaGreatDoor
open Go Go.Zw
set_option maxRecDepth 1000000
def f205 : Fact := .mk [(.ob 3 true [(zJ 0),(zJ 0),(zJ 1),(zJ 0),(zJ 0)]),(.ob 3 true [(zJ 0),(zJ 1)])] [(.sl 0 0 5 1),(zJ 2),(.sl 1 0 2 1),(zJ 13)] [(.sl 2 0 1 1)] [] [(.ob 3 true [(zJ 11)])]
def f186 : Fact := .mk [(.ob 3 true [(zJ 0),(zJ 0),(zJ 1),(zJ 0),(zJ 0)]),(.ob 3 true [(zJ 0),(zJ 1)])] [(.sl 0 0 5 1),(zJ 1),(.sl 1 0 2 1),(zJ 13)] [(.sl 2 0 0 1)] [] [(.ob 3 true [(zJ 0)])]
def f204 : Fact := .mk [(.ob 3 true [(zJ 0),(zJ 0),(zJ 1),(zJ 0),(zJ 0)]),(.ob 3 true [(zJ 5),(zJ 1),(zJ 0)])] [(.sl 0 0 5 1),(zJ 2),(.sl 1 0 2 1),(zJ 13)] [(.sl 2 0 0 1)] [] [(.ob 3 true [(zJ 0)])]
def f206 : Fact := .mk [(.ob 3 true [(zJ 0),(zJ 0),(zJ 1),(zJ 0),(zJ 0)]),(.ob 3 true [(zJ 8),(zJ 1)])] [(.sl 0 0 5 1),(zJ 2),(.sl 1 0 2 1),(zJ 13)] [(.sl 2 0 0 1)] [] [(.ob 3 true [(zJ 0)])]
def f134 : Fact := .mk [(.ob 3 true [(zJ 0),(zJ 0),(zJ 0),(zJ 0),(zJ 1)]),(.ob 3 true [(zJ 6),(zJ 1),(zJ 0)])] [(.sl 0 0 5 1),(zJ 0),(.sl 1 0 2 1),(zJ 7)] [(.sl 2 0 0 1)] [] [(.ob 3 true [(zJ 0)])]
def f149 : Fact := .mk [(.ob 3 true [(zJ 0),(zJ 1),(zJ 0),(zJ 1),(zJ 0)]),(.ob 3 true [(zJ 10),(zJ 1)])] [(.sl 0 0 5 1),(zJ 0),(.sl 1 0 2 1),(zJ 11)] [(.sl 2 0 1 1)] [] [(.ob 3 true [(zJ 9)])]
def f190 : Fact := .mk [(.ob 3 true [(zJ 0),(zJ 0),(zJ 0),(zJ 1),(zJ 0)]),(.ob 3 true [(zJ 5),(zJ 1),(zJ 0)])] [(.sl 0 0 5 1),(zJ 1),(.sl 1 0 2 1),(zJ 13)] [(.sl 2 0 1 1)] [] [(.ob 3 true [(zJ 11)])]
def f208 : Fact := .mk [(.ob 3 true [(zJ 0),(zJ 0),(zJ 0),(zJ 1),(zJ 0)]),(.ob 3 true [(zJ 5),(zJ 1),(zJ 0)])] [(.sl 0 0 5 1),(zJ 2),(.sl 1 0 2 1),(zJ 13)] [(.sl 2 0 1 1)] [] [(.ob 3 true [(zJ 11)])]
def f209 : Fact := .mk [(.ob 3 true [(zJ 0),(zJ 0),(zJ 0),(zJ 1),(zJ 0)]),(.ob 3 true [(zJ 0),(zJ 1)])] [(.sl 0 0 5 1),(zJ 2),(.sl 1 0 2 1),(zJ 13)] [(.sl 2 0 1 1)] [] [(.ob 3 true [(zJ 11)])]
def f82 : Fact := .mk [(.ob 3 true [(zJ 1)]),(.ob 3 true [(zJ 2),(zJ 1)])] [(.sl 0 0 1 1),(.sl 1 0 2 1),(zJ 3)] [(.sl 2 0 1 1)] [] [(.ob 3 true [(zJ 1),(zJ 0)])]
def f192 : Fact := .mk [(.ob 3 true [(zJ 0),(zJ 0),(zJ 0),(zJ 1),(zJ 0)]),(.ob 3 true [(zJ 0),(zJ 1)])] [(.sl 0 0 5 1),(zJ 1),(.sl 1 0 2 1),(zJ 13)] [(.sl 2 0 0 1)] [] [(.ob 3 true [(zJ 0)])]
def f193 : Fact := .mk [(.ob 3 true [(zJ 0),(zJ 0),(zJ 0),(zJ 1),(zJ 0)]),(.ob 3 true [(zJ 8),(zJ 1)])] [(.sl 0 0 5 1),(zJ 1),(.sl 1 0 2 1),(zJ 13)] [(.sl 2 0 0 1)] [] [(.ob 3 true [(zJ 0)])]
def f210 : Fact := .mk [(.ob 3 true [(zJ 0),(zJ 0),(zJ 0),(zJ 1),(zJ 0)]),(.ob 3 true [(zJ 8),(zJ 1)])] [(.sl 0 0 5 1),(zJ 2),(.sl 1 0 2 1),(zJ 13)] [(.sl 2 0 0 1)] [] [(.ob 3 true [(zJ 0)])]
def f96 : Fact := .mk [(.ob 3 true [(zJ 0),(zJ 0),(zJ 0),(zJ 1),(zJ 0)]),(.ob 3 true [(zJ 1),(zJ 0),(zJ 1),(zJ 0)])] [(.sl 0 0 5 1),(zJ 0),(.sl 1 0 3 1),(zJ 5)] [(.sl 2 0 1 1)] [] [(.ob 3 true [(zJ 3)])]
def f95 : Fact := .mk [(.ob 3 true [(zJ 0),(zJ 0),(zJ 0),(zJ 1),(zJ 0)]),(.ob 3 true [(zJ 4),(zJ 0),(zJ 1),(zJ 0)])] [(.sl 0 0 5 1),(zJ 0),(.sl 1 0 3 1),(zJ 5)] [(.sl 2 0 0 1)] [] [(.ob 3 true [(zJ 0)])]
def f92 : Fact := .mk [(.ob 3 true [(zJ 0),(zJ 0),(zJ 1),(zJ 0),(zJ 0)]),(.ob 3 true [(zJ 0),(zJ 1),(zJ 0),(zJ 1)])] [(.sl 0 0 5 1),(zJ 0),(.sl 1 0 4 1),(zJ 5)] [(.sl 2 0 3 1)] [] [(.ob 3 true [(zJ 4),(zJ 0),(zJ 4)])]
def f110 : Fact := .mk [(.ob 3 true [(zJ 0),(zJ 0),(zJ 0),(zJ 1),(zJ 0)]),(.ob 3 true [(zJ 4),(zJ 0),(zJ 1),(zJ 0)])] [(.sl 0 0 5 1),(zJ 1),(.sl 1 0 3 1),(zJ 5)] [(.sl 2 0 2 1)] [] [(.ob 3 true [(zJ 1),(zJ 2)])]
def f195 : Fact := .mk [(.ob 3 true [(zJ 0),(zJ 0),(zJ 0),(zJ 0),(zJ 1)]),(.ob 3 true [(zJ 5),(zJ 1),(zJ 0)])] [(.sl 0 0 5 1),(zJ 1),(.sl 1 0 2 1),(zJ 13)] [(.sl 2 0 1 1)] [] [(.ob 3 true [(zJ 11)])]
def f197 : Fact := .mk [(.ob 3 true [(zJ 0),(zJ 0),(zJ 0),(zJ 0),(zJ 1)]),(.ob 3 true [(zJ 8),(zJ 1)])] [(.sl 0 0 5 1),(zJ 1),(.sl 1 0 2 1),(zJ 13)] [(.sl 2 0 1 1)] [] [(.ob 3 true [(zJ 11)])]
def f213 : Fact := .mk [(.ob 3 true [(zJ 0),(zJ 0),(zJ 0),(zJ 0),(zJ 1)]),(.ob 3 true [(zJ 0),(zJ 1)])] [(.sl 0 0 5 1),(zJ 2),(.sl 1 0 2 1),(zJ 13)] [(.sl 2 0 1 1)] [] [(.ob 3 true [(zJ 11)])]
def f194 : Fact := .mk [(.ob 3 true [(zJ 0),(zJ 0),(zJ 0),(zJ 0),(zJ 1)]),(.ob 3 true [(zJ 12),(zJ 0),(zJ 1),(zJ 0)])] [(.sl 0 0 5 1),(zJ 1),(.sl 1 0 3 1),(zJ 13)] [(.sl 2 0 1 1)] [] [(.ob 3 true [(zJ 11)])]
def f151 : Fact := .mk [(.ob 3 true [(zJ 0),(zJ 0),(zJ 0),(zJ 0),(zJ 1)]),(.ob 3 true [(zJ 1),(zJ 1),(zJ 0)])] [(.sl 0 0 5 1),(zJ 0),(.sl 1 0 2 1),(zJ 11)] [(.sl 2 0 0 1)] [] [(.ob 3 true [(zJ 0)])]
def f172 : Fact := .mk [(.ob 3 true [(zJ 0),(zJ 0),(zJ 0),(zJ 0),(zJ 1)]),(.ob 3 true [(zJ 12),(zJ 0),(zJ 1),(zJ 0)])] [(.sl 0 0 5 1),(zJ 0),(.sl 1 0 3 1),(zJ 13)] [(.sl 2 0 0 1)] [] [(.ob 3 true [(zJ 0)])]
def f173 : Fact := .mk [(.ob 3 true [(zJ 0),(zJ 0),(zJ 0),(zJ 0),(zJ 1)]),(.ob 3 true [(zJ 1),(zJ 0),(zJ 1),(zJ 0)])] [(.sl 0 0 5 1),(zJ 0),(.sl 1 0 3 1),(zJ 13)] [(.sl 2 0 0 1)] [] [(.ob 3 true [(zJ 0)])]
def f94 : Fact := .mk [(.ob 3 true [(zJ 4)]),(.ob 3 true [(zJ 0),(zJ 1)])] [(.sl 0 0 1 1),(.sl 1 0 2 1),(zJ 5)] [(.sl 2 0 1 1)] [] [(.ob 3 true [(zJ 1),(zJ 0)])]
def f107 : Fact := .mk [(.ob 3 true [(zJ 4)]),(.ob 3 true [(zJ 2),(zJ 1),(zJ 0)])] [(.sl 0 0 1 1),(.sl 1 0 2 1),(zJ 5)] [(.sl 2 0 1 1)] [] [(.ob 3 true [(zJ 1),(zJ 0)])]
def f109 : Fact := .mk [(.ob 3 true [(zJ 4)]),(.ob 3 true [(zJ 3),(zJ 1)])] [(.sl 0 0 1 1),(.sl 1 0 2 1),(zJ 5)] [(.sl 2 0 1 1)] [] [(.ob 3 true [(zJ 1),(zJ 0)])]
theorem g1 : chk [] [(420, f205), (420, f186), (420, f204), (420, f206), (420, f134), (420, f149), (420, f190), (420, f208), (420, f209), (419, f82), (420, f192), (420, f193), (420, f210), (420, f96), (420, f95), (420, f92), (420, f110), (420, f195), (420, f197), (420, f213), (420, f194), (420, f151), (420, f172), (420, f173), (419, f94), (419, f107), (419, f109)] = true := by kernel_rfl
theorem q1 : allOK Tryz.prog [(420, f205), (420, f186), (420, f204), (420, f206), (420, f134), (420, f149), (420, f190), (420, f208), (420, f209), (419, f82), (420, f192), (420, f193), (420, f210), (420, f96), (420, f95), (420, f92), (420, f110), (420, f195), (420, f197), (420, f213), (420, f194), (420, f151), (420, f172), (420, f173), (419, f94), (419, f107), (419, f109)] := chk_ok (deps := []) trivial g1
theorem o205 : FactOK Tryz.prog 420 f205 := q1.1
theorem o186 : FactOK Tryz.prog 420 f186 := q1.2.1
theorem o204 : FactOK Tryz.prog 420 f204 := q1.2.2.1
theorem o206 : FactOK Tryz.prog 420 f206 := q1.2.2.2.1
theorem o134 : FactOK Tryz.prog 420 f134 := q1.2.2.2.2.1
theorem o149 : FactOK Tryz.prog 420 f149 := q1.2.2.2.2.2.1
theorem o190 : FactOK Tryz.prog 420 f190 := q1.2.2.2.2.2.2.1
theorem o208 : FactOK Tryz.prog 420 f208 := q1.2.2.2.2.2.2.2.1
theorem o209 : FactOK Tryz.prog 420 f209 := q1.2.2.2.2.2.2.2.2.1
theorem o82 : FactOK Tryz.prog 419 f82 := q1.2.2.2.2.2.2.2.2.2.1
theorem o192 : FactOK Tryz.prog 420 f192 := q1.2.2.2.2.2.2.2.2.2.2.1
theorem o193 : FactOK Tryz.prog 420 f193 := q1.2.2.2.2.2.2.2.2.2.2.2.1
theorem o210 : FactOK Tryz.prog 420 f210 := q1.2.2.2.2.2.2.2.2.2.2.2.2.1
theorem o96 : FactOK Tryz.prog 420 f96 := q1.2.2.2.2.2.2.2.2.2.2.2.2.2.1
theorem o95 : FactOK Tryz.prog 420 f95 := q1.2.2.2.2.2.2.2.2.2.2.2.2.2.2.1
theorem o92 : FactOK Tryz.prog 420 f92 := q1.2.2.2.2.2.2.2.2.2.2.2.2.2.2.2.1
theorem o110 : FactOK Tryz.prog 420 f110 := q1.2.2.2.2.2.2.2.2.2.2.2.2.2.2.2.2.1
theorem o195 : FactOK Tryz.prog 420 f195 := q1.2.2.2.2.2.2.2.2.2.2.2.2.2.2.2.2.2.1
theorem o197 : FactOK Tryz.prog 420 f197 := q1.2.2.2.2.2.2.2.2.2.2.2.2.2.2.2.2.2.2.1
theorem o213 : FactOK Tryz.prog 420 f213 := q1.2.2.2.2.2.2.2.2.2.2.2.2.2.2.2.2.2.2.2.1
theorem o194 : FactOK Tryz.prog 420 f194 := q1.2.2.2.2.2.2.2.2.2.2.2.2.2.2.2.2.2.2.2.2.1
theorem o151 : FactOK Tryz.prog 420 f151 := q1.2.2.2.2.2.2.2.2.2.2.2.2.2.2.2.2.2.2.2.2.2.1
theorem o172 : FactOK Tryz.prog 420 f172 := q1.2.2.2.2.2.2.2.2.2.2.2.2.2.2.2.2.2.2.2.2.2.2.1
theorem o173 : FactOK Tryz.prog 420 f173 := q1.2.2.2.2.2.2.2.2.2.2.2.2.2.2.2.2.2.2.2.2.2.2.2.1
theorem o94 : FactOK Tryz.prog 419 f94 := q1.2.2.2.2.2.2.2.2.2.2.2.2.2.2.2.2.2.2.2.2.2.2.2.2.1
theorem o107 : FactOK Tryz.prog 419 f107 := q1.2.2.2.2.2.2.2.2.2.2.2.2.2.2.2.2.2.2.2.2.2.2.2.2.2.1
theorem o109 : FactOK Tryz.prog 419 f109 := q1.2.2.2.2.2.2.2.2.2.2.2.2.2.2.2.2.2.2.2.2.2.2.2.2.2.2.1
end Go.Proofs.YtimgjgookgenoaaGreatDoor
namespace Go.Proofs.YtimgjgookgenoaaGreatDoor
open Go Go.Zw
set_option maxRecDepth 1000000
def f196 : Fact := .mk [(.ob 3 true [(zJ 0),(zJ 0),(zJ 0),(zJ 0),(zJ 1)]),(.ob 3 true [(zJ 0),(zJ 1)])] [(.sl 0 0 5 1),(zJ 1),(.sl 1 0 2 1),(zJ 13)] [(.sl 2 0 0 1)] [] [(.ob 3 true [(zJ 0)])]
def f212 : Fact := .mk [(.ob 3 true [(zJ 0),(zJ 0),(zJ 0),(zJ 0),(zJ 1)]),(.ob 3 true [(zJ 5),(zJ 1),(zJ 0)])] [(.sl 0 0 5 1),(zJ 2),(.sl 1 0 2 1),(zJ 13)] [(.sl 2 0 0 1)] [] [(.ob 3 true [(zJ 0)])]
def f214 : Fact := .mk [(.ob 3 true [(zJ 0),(zJ 0),(zJ 0),(zJ 0),(zJ 1)]),(.ob 3 true [(zJ 8),(zJ 1)])] [(.sl 0 0 5 1),(zJ 2),(.sl 1 0 2 1),(zJ 13)] [(.sl 2 0 0 1)] [] [(.ob 3 true [(zJ 0)])]
def f211 : Fact := .mk [(.ob 3 true [(zJ 0),(zJ 0),(zJ 0),(zJ 0),(zJ 1)]),(.ob 3 true [(zJ 12),(zJ 0),(zJ 1),(zJ 0)])] [(.sl 0 0 5 1),(zJ 2),(.sl 1 0 3 1),(zJ 13)] [(.sl 2 0 0 1)] [] [(.ob 3 true [(zJ 0)])]
def f167 : Fact := .mk [(.ob 3 true [(zJ 12)]),(.ob 3 true [(zJ 0),(zJ 1)])] [(.sl 0 0 1 1),(.sl 1 0 2 1),(zJ 13)] [(.sl 2 0 1 1)] [] [(.ob 3 true [(zJ 1),(zJ 0)])]
def f185 : Fact := .mk [(.ob 3 true [(zJ 12)]),(.ob 3 true [(zJ 5),(zJ 1),(zJ 0)])] [(.sl 0 0 1 1),(.sl 1 0 2 1),(zJ 13)] [(.sl 2 0 1 1)] [] [(.ob 3 true [(zJ 1),(zJ 0)])]
def f188 : Fact := .mk [(.ob 3 true [(zJ 12)]),(.ob 3 true [(zJ 8),(zJ 1)])] [(.sl 0 0 1 1),(.sl 1 0 2 1),(zJ 13)] [(.sl 2 0 1 1)] [] [(.ob 3 true [(zJ 1),(zJ 0)])]
def f105 : Fact := .mk [(.ob 3 true [(zJ 3)]),(.ob 3 true [(zJ 3),(zJ 1)])] [(.sl 0 0 1 1),(.sl 1 0 2 1),(zJ 5)] [(.sl 2 0 1 1)] [] [(.ob 3 true [(zJ 1),(zJ 0)])]
def f112 : Fact := .mk [(.ob 3 true [(zJ 3)]),(.ob 3 true [(zJ 2),(zJ 1),(zJ 0)])] [(.sl 0 0 1 1),(.sl 1 0 2 1),(zJ 5)] [(.sl 2 0 1 1)] [] [(.ob 3 true [(zJ 1),(zJ 0)])]
def f133 : Fact := .mk [(.ob 3 true [(zJ 5)]),(.ob 3 true [(zJ 1),(zJ 1)])] [(.sl 0 0 1 1),(.sl 1 0 2 1),(zJ 7)] [(.sl 2 0 1 1)] [] [(.ob 3 true [(zJ 1),(zJ 0)])]
def f150 : Fact := .mk [(.ob 3 true [(zJ 9)]),(.ob 3 true [(zJ 10),(zJ 1)])] [(.sl 0 0 1 1),(.sl 1 0 2 1),(zJ 11)] [(.sl 2 0 1 1)] [] [(.ob 3 true [(zJ 1),(zJ 0)])]
def f181 : Fact := .mk [(.ob 3 true [(zJ 11)]),(.ob 3 true [(zJ 8),(zJ 1)])] [(.sl 0 0 1 1),(.sl 1 0 2 1),(zJ 13)] [(.sl 2 0 1 1)] [] [(.ob 3 true [(zJ 1),(zJ 0)])]
def f191 : Fact := .mk [(.ob 3 true [(zJ 11)]),(.ob 3 true [(zJ 5),(zJ 1),(zJ 0)])] [(.sl 0 0 1 1),(.sl 1 0 2 1),(zJ 13)] [(.sl 2 0 1 1)] [] [(.ob 3 true [(zJ 1),(zJ 0)])]
def f201 : Fact := .mk [(.ob 3 true [(zJ 11)]),(.ob 3 true [(zJ 0),(zJ 1)])] [(.sl 0 0 1 1),(.sl 1 0 2 1),(zJ 13)] [(.sl 2 0 1 1)] [] [(.ob 3 true [(zJ 1),(zJ 0)])]
def f129 : Fact := .mk [(.ob 3 true [(zJ 0),(zJ 1),(zJ 0),(zJ 1),(zJ 0)]),(.ob 3 true [(zJ 6),(zJ 0),(zJ 1),(zJ 0)])] [(.sl 0 0 5 1),(zJ 0),(.sl 1 0 3 1),(zJ 7)] [(.sl 2 0 2 1)] [] [(.ob 3 true [(zJ 6),(zJ 1)])]
def f161 : Fact := .mk [(.ob 3 true [(zJ 0),(zJ 1),(zJ 0),(zJ 0),(zJ 0)]),(.ob 3 true [(zJ 0),(zJ 1),(zJ 0),(zJ 1)])] [(.sl 0 0 5 1),(zJ 0),(.sl 1 0 4 1),(zJ 13)] [(.sl 2 0 3 1)] [] [(.ob 3 true [(zJ 12),(zJ 0),(zJ 1)])]
def f198 : Fact := .mk [(.ob 3 true [(zJ 0),(zJ 1),(zJ 0),(zJ 0),(zJ 0)]),(.ob 3 true [(zJ 12),(zJ 0),(zJ 1),(zJ 0)])] [(.sl 0 0 5 1),(zJ 2),(.sl 1 0 3 1),(zJ 13)] [(.sl 2 0 0 1)] [] [(.ob 3 true [(zJ 0)])]
def f130 : Fact := .mk [(.ob 3 true [(zJ 6),(zJ 1)]),(.ob 3 true [(zJ 6),(zJ 0),(zJ 1),(zJ 0)])] [(.sl 0 0 2 1),(.sl 1 0 3 1),(zJ 7)] [(.sl 2 0 2 1)] [] [(.ob 3 true [(zJ 6),(zJ 1),(zJ 0)])]
def f80 : Fact := .mk [(.ob 3 true [(zJ 2),(zJ 2)]),(.ob 3 true [(zJ 2),(zJ 0),(zJ 1),(zJ 0)])] [(.sl 0 0 2 1),(.sl 1 0 3 1),(zJ 3)] [(.sl 2 0 2 1)] [] [(.ob 3 true [(zJ 1),(zJ 1),(zJ 0)])]
def f216 : Fact := .mk [(.ob 3 true [(zJ 12),(zJ 1)]),(.ob 3 true [(zJ 12),(zJ 0),(zJ 1),(zJ 0)])] [(.sl 0 0 2 1),(.sl 1 0 3 1),(zJ 13)] [(.sl 2 0 2 1)] [] [(.ob 3 true [(zJ 12),(zJ 1),(zJ 0)])]
def f104 : Fact := .mk [(.ob 3 true [(zJ 4),(zJ 2)]),(.ob 3 true [(zJ 1),(zJ 0),(zJ 1),(zJ 0)])] [(.sl 0 0 2 1),(.sl 1 0 3 1),(zJ 5)] [(.sl 2 0 2 1)] [] [(.ob 3 true [(zJ 2),(zJ 1),(zJ 0)])]
def f120 : Fact := .mk [(.ob 3 true [(zJ 4),(zJ 4)]),(.ob 3 true [(zJ 4),(zJ 0),(zJ 1),(zJ 0)])] [(.sl 0 0 2 1),(.sl 1 0 3 1),(zJ 5)] [(.sl 2 0 2 1)] [] [(.ob 3 true [(zJ 1),(zJ 1),(zJ 0)])]
def f145 : Fact := .mk [(.ob 3 true [(zJ 0),(zJ 1),(zJ 0),(zJ 1),(zJ 0)]),(.ob 3 true [(zJ 10),(zJ 0),(zJ 1),(zJ 0)])] [(.sl 0 0 5 1),(zJ 0),(.sl 1 0 3 1),(zJ 11)] [(.sl 2 0 2 1)] [] [(.ob 3 true [(zJ 10),(zJ 10)])]
def f146 : Fact := .mk [(.ob 3 true [(zJ 10),(zJ 10)]),(.ob 3 true [(zJ 10),(zJ 0),(zJ 1),(zJ 0)])] [(.sl 0 0 2 1),(.sl 1 0 3 1),(zJ 11)] [(.sl 2 0 2 1)] [] [(.ob 3 true [(zJ 1),(zJ 1),(zJ 0)])]
theorem g2 : chk [] [(420, f196), (420, f212), (420, f214), (420, f211), (419, f167), (419, f185), (419, f188), (419, f105), (419, f112), (419, f133), (419, f150), (419, f181), (419, f191), (419, f201), (420, f129), (420, f161), (420, f198), (419, f130), (419, f80), (419, f216), (419, f104), (419, f120), (420, f145), (419, f146)] = true := by kernel_rfl
theorem q2 : allOK Tryz.prog [(420, f196), (420, f212), (420, f214), (420, f211), (419, f167), (419, f185), (419, f188), (419, f105), (419, f112), (419, f133), (419, f150), (419, f181), (419, f191), (419, f201), (420, f129), (420, f161), (420, f198), (419, f130), (419, f80), (419, f216), (419, f104), (419, f120), (420, f145), (419, f146)] := chk_ok (deps := []) trivial g2
theorem o196 : FactOK Tryz.prog 420 f196 := q2.1
theorem o212 : FactOK Tryz.prog 420 f212 := q2.2.1
theorem o214 : FactOK Tryz.prog 420 f214 := q2.2.2.1
theorem o211 : FactOK Tryz.prog 420 f211 := q2.2.2.2.1
theorem o167 : FactOK Tryz.prog 419 f167 := q2.2.2.2.2.1
theorem o185 : FactOK Tryz.prog 419 f185 := q2.2.2.2.2.2.1
theorem o188 : FactOK Tryz.prog 419 f188 := q2.2.2.2.2.2.2.1
theorem o105 : FactOK Tryz.prog 419 f105 := q2.2.2.2.2.2.2.2.1
theorem o112 : FactOK Tryz.prog 419 f112 := q2.2.2.2.2.2.2.2.2.1
theorem o133 : FactOK Tryz.prog 419 f133 := q2.2.2.2.2.2.2.2.2.2.1
theorem o150 : FactOK Tryz.prog 419 f150 := q2.2.2.2.2.2.2.2.2.2.2.1
theorem o181 : FactOK Tryz.prog 419 f181 := q2.2.2.2.2.2.2.2.2.2.2.2.1
theorem o191 : FactOK Tryz.prog 419 f191 := q2.2.2.2.2.2.2.2.2.2.2.2.2.1
theorem o201 : FactOK Tryz.prog 419 f201 := q2.2.2.2.2.2.2.2.2.2.2.2.2.2.1
theorem o129 : FactOK Tryz.prog 420 f129 := q2.2.2.2.2.2.2.2.2.2.2.2.2.2.2.1
theorem o161 : FactOK Tryz.prog 420 f161 := q2.2.2.2.2.2.2.2.2.2.2.2.2.2.2.2.1
theorem o198 : FactOK Tryz.prog 420 f198 := q2.2.2.2.2.2.2.2.2.2.2.2.2.2.2.2.2.1
theorem o130 : FactOK Tryz.prog 419 f130 := q2.2.2.2.2.2.2.2.2.2.2.2.2.2.2.2.2.2.1
theorem o80 : FactOK Tryz.prog 419 f80 := q2.2.2.2.2.2.2.2.2.2.2.2.2.2.2.2.2.2.2.1
theorem o216 : FactOK Tryz.prog 419 f216 := q2.2.2.2.2.2.2.2.2.2.2.2.2.2.2.2.2.2.2.2.1
theorem o104 : FactOK Tryz.prog 419 f104 := q2.2.2.2.2.2.2.2.2.2.2.2.2.2.2.2.2.2.2.2.2.1
theorem o120 : FactOK Tryz.prog 419 f120 := q2.2.2.2.2.2.2.2.2.2.2.2.2.2.2.2.2.2.2.2.2.2.1
theorem o145 : FactOK Tryz.prog 420 f145 := q2.2.2.2.2.2.2.2.2.2.2.2.2.2.2.2.2.2.2.2.2.2.2.1
theorem o146 : FactOK Tryz.prog 419 f146 := q2.2.2.2.2.2.2.2.2.2.2.2.2.2.2.2.2.2.2.2.2.2.2.2.1
end Go.Proofs.YtimgjgookgenoaaGreatDoor
namespace Go.Proofs.YtimgjgookgenoaaGreatDoor
open Go Go.Zw
set_option maxRecDepth 1000000
def f97 : Fact := .mk [(.ob 3 true [(zJ 3)]),(.ob 3 true [(zJ 1),(zJ 0),(zJ 1),(zJ 0)])] [(.sl 0 0 1 1),(.sl 1 0 3 1),(zJ 5)] [(.sl 2 0 1 1)] [] [(.ob 3 true [(zJ 1),(zJ 0)])]
def f106 : Fact := .mk [(.ob 3 true [(zJ 3)]),(.ob 3 true [(zJ 4),(zJ 0),(zJ 1),(zJ 0)])] [(.sl 0 0 1 1),(.sl 1 0 3 1),(zJ 5)] [(.sl 2 0 1 1)] [] [(.ob 3 true [(zJ 1),(zJ 0)])]
def f170 : Fact := .mk [(.ob 3 true [(zJ 11)]),(.ob 3 true [(zJ 1),(zJ 0),(zJ 1),(zJ 0)])] [(.sl 0 0 1 1),(.sl 1 0 3 1),(zJ 13)] [(.sl 2 0 1 1)] [] [(.ob 3 true [(zJ 1),(zJ 0)])]
def f183 : Fact := .mk [(.ob 3 true [(zJ 11)]),(.ob 3 true [(zJ 12),(zJ 0),(zJ 1),(zJ 0)])] [(.sl 0 0 1 1),(.sl 1 0 3 1),(zJ 13)] [(.sl 2 0 1 1)] [] [(.ob 3 true [(zJ 1),(zJ 0)])]
def f178 : Fact := .mk [(.ob 3 true [(zJ 12),(zJ 5)]),(.ob 3 true [(zJ 1),(zJ 0),(zJ 1),(zJ 0)])] [(.sl 0 0 2 1),(.sl 1 0 3 1),(zJ 13)] [(.sl 2 0 2 1)] [] [(.ob 3 true [(zJ 5),(zJ 1),(zJ 0)])]
def f85 : Fact := .mk [(.ob 3 true [(zJ 2),(zJ 0),(zJ 2)]),(.ob 3 true [(zJ 0),(zJ 1),(zJ 0),(zJ 1)])] [(.sl 0 0 3 1),(.sl 1 0 4 1),(zJ 3)] [(.sl 2 0 3 1)] [] [(.ob 3 true [(zJ 1),(zJ 0),(zJ 1),(zJ 0)])]
def f175 : Fact := .mk [(.ob 3 true [(zJ 0),(zJ 1),(zJ 0),(zJ 0),(zJ 0)]),(.ob 3 true [(zJ 12),(zJ 0),(zJ 1),(zJ 0)])] [(.sl 0 0 5 1),(zJ 1),(.sl 1 0 3 1),(zJ 13)] [(.sl 2 0 2 1)] [] [(.ob 3 true [(zJ 5),(zJ 6)])]
def f177 : Fact := .mk [(.ob 3 true [(zJ 0),(zJ 1),(zJ 0),(zJ 0),(zJ 0)]),(.ob 3 true [(zJ 1),(zJ 0),(zJ 1),(zJ 0)])] [(.sl 0 0 5 1),(zJ 1),(.sl 1 0 3 1),(zJ 13)] [(.sl 2 0 2 1)] [] [(.ob 3 true [(zJ 12),(zJ 5)])]
def f215 : Fact := .mk [(.ob 3 true [(zJ 0),(zJ 1),(zJ 0),(zJ 0),(zJ 0)]),(.ob 3 true [(zJ 12),(zJ 0),(zJ 1),(zJ 0)])] [(.sl 0 0 5 1),(zJ 3),(.sl 1 0 3 1),(zJ 13)] [(.sl 2 0 2 1)] [] [(.ob 3 true [(zJ 12),(zJ 1)])]
def f93 : Fact := .mk [(.ob 3 true [(zJ 4),(zJ 0),(zJ 4)]),(.ob 3 true [(zJ 0),(zJ 1),(zJ 0),(zJ 1)])] [(.sl 0 0 3 1),(.sl 1 0 4 1),(zJ 5)] [(.sl 2 0 3 1)] [] [(.ob 3 true [(zJ 1),(zJ 0),(zJ 1),(zJ 0)])]
def f136 : Fact := .mk [(.ob 3 true [(zJ 6),(zJ 0),(zJ 6)]),(.ob 3 true [(zJ 0),(zJ 1),(zJ 0),(zJ 1)])] [(.sl 0 0 3 1),(.sl 1 0 4 1),(zJ 7)] [(.sl 2 0 3 1)] [] [(.ob 3 true [(zJ 1),(zJ 0),(zJ 1),(zJ 0)])]
def f81 : Fact := .mk [(.ob 3 true [(zJ 2)]),(.ob 3 true [(zJ 0),(zJ 1),(zJ 0),(zJ 1)])] [(.sl 0 0 1 1),(.sl 1 0 4 1),(zJ 3)] [(.sl 2 0 1 1)] [] [(.ob 3 true [(zJ 1),(zJ 0)])]
def f153 : Fact := .mk [(.ob 3 true [(zJ 10),(zJ 0),(zJ 10)]),(.ob 3 true [(zJ 0),(zJ 1),(zJ 0),(zJ 1)])] [(.sl 0 0 3 1),(.sl 1 0 4 1),(zJ 11)] [(.sl 2 0 3 1)] [] [(.ob 3 true [(zJ 1),(zJ 0),(zJ 1),(zJ 0)])]
def f165 : Fact := .mk [(.ob 3 true [(zJ 12),(zJ 0),(zJ 12)]),(.ob 3 true [(zJ 0),(zJ 1),(zJ 0),(zJ 1)])] [(.sl 0 0 3 1),(.sl 1 0 4 1),(zJ 13)] [(.sl 2 0 3 1)] [] [(.ob 3 true [(zJ 1),(zJ 0),(zJ 1),(zJ 0)])]
def f207 : Fact := .mk [(.ob 3 true [(zJ 0),(zJ 0),(zJ 0),(zJ 1),(zJ 0)]),(.ob 3 true [(zJ 12),(zJ 0),(zJ 1),(zJ 0)])] [(.sl 0 0 5 1),(zJ 2),(.sl 1 0 3 1),(zJ 13)] [(.sl 2 0 0 1)] [] [(.ob 3 true [(zJ 0)])]
def f125 : Fact := .mk [(.ob 3 true [(zJ 0),(zJ 0),(zJ 1),(zJ 0),(zJ 0)]),(.ob 3 true [(zJ 0),(zJ 6),(zJ 0),(zJ 0),(zJ 0),(zJ 1),(zJ 0)])] [(.sl 0 0 5 1),(zJ 0),(.sl 1 0 6 1),(zJ 7)] [(.sl 2 0 3 1)] [] [(.ob 3 true [(zJ 6),(zJ 0),(zJ 1)])]
def f131 : Fact := .mk [(.ob 3 true [(zJ 6)]),(.ob 3 true [(zJ 0),(zJ 1),(zJ 0),(zJ 1)])] [(.sl 0 0 1 1),(.sl 1 0 4 1),(zJ 7)] [(.sl 2 0 1 1)] [] [(.ob 3 true [(zJ 1),(zJ 0)])]
def f169 : Fact := .mk [(.ob 3 true [(zJ 0),(zJ 0),(zJ 0),(zJ 1),(zJ 0)]),(.ob 3 true [(zJ 1),(zJ 0),(zJ 1),(zJ 0)])] [(.sl 0 0 5 1),(zJ 0),(.sl 1 0 3 1),(zJ 13)] [(.sl 2 0 1 1)] [] [(.ob 3 true [(zJ 11)])]
def f168 : Fact := .mk [(.ob 3 true [(zJ 0),(zJ 0),(zJ 0),(zJ 1),(zJ 0)]),(.ob 3 true [(zJ 12),(zJ 0),(zJ 1),(zJ 0)])] [(.sl 0 0 5 1),(zJ 0),(.sl 1 0 3 1),(zJ 13)] [(.sl 2 0 0 1)] [] [(.ob 3 true [(zJ 0)])]
def f148 : Fact := .mk [(.ob 3 true [(zJ 10)]),(.ob 3 true [(zJ 0),(zJ 1),(zJ 0),(zJ 1)])] [(.sl 0 0 1 1),(.sl 1 0 4 1),(zJ 11)] [(.sl 2 0 1 1)] [] [(.ob 3 true [(zJ 1),(zJ 0)])]
theorem g3 : chk [] [(419, f97), (419, f106), (419, f170), (419, f183), (419, f178), (419, f85), (420, f175), (420, f177), (420, f215), (419, f93), (419, f136), (419, f81), (419, f153), (419, f165), (420, f207), (420, f125), (419, f131), (420, f169), (420, f168), (419, f148)] = true := by kernel_rfl
theorem q3 : allOK Tryz.prog [(419, f97), (419, f106), (419, f170), (419, f183), (419, f178), (419, f85), (420, f175), (420, f177), (420, f215), (419, f93), (419, f136), (419, f81), (419, f153), (419, f165), (420, f207), (420, f125), (419, f131), (420, f169), (420, f168), (419, f148)] := chk_ok (deps := []) trivial g3
theorem o97 : FactOK Tryz.prog 419 f97 := q3.1
theorem o106 : FactOK Tryz.prog 419 f106 := q3.2.1
theorem o170 : FactOK Tryz.prog 419 f170 := q3.2.2.1
theorem o183 : FactOK Tryz.prog 419 f183 := q3.2.2.2.1
theorem o178 : FactOK Tryz.prog 419 f178 := q3.2.2.2.2.1
theorem o85 : FactOK Tryz.prog 419 f85 := q3.2.2.2.2.2.1
theorem o175 : FactOK Tryz.prog 420 f175 := q3.2.2.2.2.2.2.1
theorem o177 : FactOK Tryz.prog 420 f177 := q3.2.2.2.2.2.2.2.1
theorem o215 : FactOK Tryz.prog 420 f215 := q3.2.2.2.2.2.2.2.2.1
theorem o93 : FactOK Tryz.prog 419 f93 := q3.2.2.2.2.2.2.2.2.2.1
theorem o136 : FactOK Tryz.prog 419 f136 := q3.2.2.2.2.2.2.2.2.2.2.1
theorem o81 : FactOK Tryz.prog 419 f81 := q3.2.2.2.2.2.2.2.2.2.2.2.1
theorem o153 : FactOK Tryz.prog 419 f153 := q3.2.2.2.2.2.2.2.2.2.2.2.2.1
theorem o165 : FactOK Tryz.prog 419 f165 := q3.2.2.2.2.2.2.2.2.2.2.2.2.2.1
theorem o207 : FactOK Tryz.prog 420 f207 := q3.2.2.2.2.2.2.2.2.2.2.2.2.2.2.1
theorem o125 : FactOK Tryz.prog 420 f125 := q3.2.2.2.2.2.2.2.2.2.2.2.2.2.2.2.1
theorem o131 : FactOK Tryz.prog 419 f131 := q3.2.2.2.2.2.2.2.2.2.2.2.2.2.2.2.2.1
theorem o169 : FactOK Tryz.prog 420 f169 := q3.2.2.2.2.2.2.2.2.2.2.2.2.2.2.2.2.2.1
theorem o168 : FactOK Tryz.prog 420 f168 := q3.2.2.2.2.2.2.2.2.2.2.2.2.2.2.2.2.2.2.1
theorem o148 : FactOK Tryz.prog 419 f148 := q3.2.2.2.2.2.2.2.2.2.2.2.2.2.2.2.2.2.2.2.1
end Go.Proofs.YtimgjgookgenoaaGreatDoor
namespace Go.Proofs.YtimgjgookgenoaaGreatDoor
open Go Go.Zw
set_option maxRecDepth 1000000
def f127 : Fact := .mk [(.ob 3 true [(zJ 0),(zJ 0),(zJ 1),(zJ 0),(zJ 0)]),(.ob 3 true [(zJ 0),(zJ 1),(zJ 0),(zJ 1)])] [(.sl 0 0 5 1),(zJ 0),(.sl 1 0 4 1),(zJ 7)] [(.sl 2 0 3 1)] [] [(.ob 3 true [(zJ 6),(zJ 0),(zJ 1)])]
def f159 : Fact := .mk [(.ob 3 true [(zJ 0),(zJ 1),(zJ 0),(zJ 0),(zJ 0)]),(.ob 3 true [(zJ 0),(zJ 12),(zJ 0),(zJ 0),(zJ 0),(zJ 1),(zJ 0)])] [(.sl 0 0 5 1),(zJ 0),(.sl 1 0 6 1),(zJ 13)] [(.sl 2 0 3 1)] [] [(.ob 3 true [(zJ 12),(zJ 0),(zJ 1)])]
def f189 : Fact := .mk [(.ob 3 true [(zJ 0),(zJ 0),(zJ 0),(zJ 1),(zJ 0)]),(.ob 3 true [(zJ 12),(zJ 0),(zJ 1),(zJ 0)])] [(.sl 0 0 5 1),(zJ 1),(.sl 1 0 3 1),(zJ 13)] [(.sl 2 0 2 1)] [] [(.ob 3 true [(zJ 5),(zJ 6)])]
def f135 : Fact := .mk [(.ob 3 true [(zJ 0),(zJ 0),(zJ 0),(zJ 0),(zJ 1)]),(.ob 3 true [(zJ 0),(zJ 1),(zJ 0),(zJ 1)])] [(.sl 0 0 5 1),(zJ 0),(.sl 1 0 4 1),(zJ 7)] [(.sl 2 0 3 1)] [] [(.ob 3 true [(zJ 6),(zJ 0),(zJ 6)])]
def f78 : Fact := .mk [(.ob 3 true [(zJ 2),(zJ 0),(zJ 1)]),(.ob 3 true [(zJ 0),(zJ 2),(zJ 0),(zJ 0),(zJ 0),(zJ 1),(zJ 0)])] [(.sl 0 0 3 1),(.sl 1 0 6 1),(zJ 3)] [(.sl 2 0 3 1)] [] [(.ob 3 true [(zJ 2),(zJ 0),(zJ 1),(zJ 0)])]
def f90 : Fact := .mk [(.ob 3 true [(zJ 4),(zJ 0),(zJ 1)]),(.ob 3 true [(zJ 0),(zJ 4),(zJ 0),(zJ 0),(zJ 0),(zJ 1),(zJ 0)])] [(.sl 0 0 3 1),(.sl 1 0 6 1),(zJ 5)] [(.sl 2 0 3 1)] [] [(.ob 3 true [(zJ 4),(zJ 0),(zJ 1),(zJ 0)])]
def f126 : Fact := .mk [(.ob 3 true [(zJ 6),(zJ 0),(zJ 1)]),(.ob 3 true [(zJ 0),(zJ 6),(zJ 0),(zJ 0),(zJ 0),(zJ 1),(zJ 0)])] [(.sl 0 0 3 1),(.sl 1 0 6 1),(zJ 7)] [(.sl 2 0 3 1)] [] [(.ob 3 true [(zJ 6),(zJ 0),(zJ 1),(zJ 0)])]
def f142 : Fact := .mk [(.ob 3 true [(zJ 10),(zJ 0),(zJ 1)]),(.ob 3 true [(zJ 0),(zJ 10),(zJ 0),(zJ 0),(zJ 0),(zJ 1),(zJ 0)])] [(.sl 0 0 3 1),(.sl 1 0 6 1),(zJ 11)] [(.sl 2 0 3 1),(zJ 0)] [] [(.ob 3 true [(zJ 10),(zJ 0),(zJ 1),(zJ 0)])]
def f160 : Fact := .mk [(.ob 3 true [(zJ 12),(zJ 0),(zJ 1)]),(.ob 3 true [(zJ 0),(zJ 12),(zJ 0),(zJ 0),(zJ 0),(zJ 1),(zJ 0)])] [(.sl 0 0 3 1),(.sl 1 0 6 1),(zJ 13)] [(.sl 2 0 3 1),(zJ 0)] [] [(.ob 3 true [(zJ 12),(zJ 0),(zJ 1),(zJ 0)])]
def f231 : Fact := .mk [(.ob 32 true [zF,(.sl 1 0 1 1),zF,(.sl 2 0 1 1)]),(.ob 68 false [(zU 8)]),(.ob 68 false [(zU 6)]),(.ob 32 true [zF,(.sl 4 0 1 1),zF,(.sl 5 0 1 1),zF,(.sl 6 0 1 1),zF,(.sl 7 0 1 1)]),(.ob 68 false [(zU 80)]),(.ob 68 false [(zU 1)]),(.ob 68 false [(zU 80)]),(.ob 68 false [(zU 1)])] [(.sl 0 0 2 2),(.sl 3 0 4 2)] [(.sl 8 0 5 2)] [] [(.ob 32 true [zF,(.sl 9 0 1 1),zF,(.sl 10 0 1 1),zF,(.sl 11 0 1 1),zF,(.sl 12 0 1 1),zF,(.sl 13 0 1 1)]),(.ob 68 false [(zU 640)]),(.ob 68 false [(zU 488)]),(.ob 68 false [(zU 646)]),(.ob 68 false [(zU 488)]),(.ob 68 false [(zU 6)])]
def f241 : Fact := .mk [(.ob 32 true [zF,(.sl 1 0 1 1),zF,(.sl 2 0 1 1)]),(.ob 68 false [(zU 80)]),(.ob 68 false [(zU 60)]),(.ob 32 true [zF,(.sl 4 0 1 1),zF,(.sl 5 0 1 1),zF,(.sl 6 0 1 1),zF,(.sl 7 0 1 1)]),(.ob 68 false [(zU 242)]),(.ob 68 false [(zU 1)]),(.ob 68 false [(zU 242)]),(.ob 68 false [(zU 1)])] [(.sl 0 0 2 2),(.sl 3 0 4 2)] [(.sl 8 0 5 2)] [] [(.ob 32 true [zF,(.sl 9 0 1 1),zF,(.sl 10 0 1 1),zF,(.sl 11 0 1 1),zF,(.sl 12 0 1 1),zF,(.sl 13 0 1 1)]),(.ob 68 false [(zU 19360)]),(.ob 68 false [(zU 14600)]),(.ob 68 false [(zU 19420)]),(.ob 68 false [(zU 14600)]),(.ob 68 false [(zU 60)])]
def f157 : Fact := .mk [(.ob 3 true [(zJ 0),(zJ 1)]),(.ob 68 false [(zU 13)]),(.ob 3 true [(zJ 0),(zJ 12),(zJ 0),(zJ 0),(zJ 0),(zJ 1),(zJ 0)])] [(.sl 0 0 2 1),(.agg [zF,(.sl 1 0 1 1)]),(.sl 2 0 6 1),(zJ 13)] [(.sl 3 0 2 1),(zJ 0)] [] [(.ob 3 true [(zJ 0),(zJ 1),(zJ 0),(zJ 0),(zJ 0),(zJ 0)])]
def f74 : Fact := .mk [(.ob 3 true [(zJ 0),(zJ 1),(zJ 0),(zJ 0),(zJ 0),(zJ 1)])] [(.sl 0 0 6 1),(zJ 2)] [zF,(zJ 0)] [] []
def f252 : Fact := .mk [(.ob 3 true [(zJ 2),(zJ 1),(zJ 0)]),(.ob 3 true [(zJ 1),(zJ 0),(zJ 1),(zJ 0)])] [(.sl 0 0 2 1),(.sl 1 0 3 1),(zJ 3)] [(.sl 2 0 1 1),(.sl 3 0 2 1),(.sl 4 0 1 1),(zJ 0)] [] [(.ob 3 true [(zJ 1),(zJ 0)]),(.ob 3 true [(zJ 1),(zJ 1),(zJ 0)]),(.ob 3 true [(zJ 2),(zJ 0)])]
def f54 : Fact := .mk [(.ob 265 true [zF,.nil,.nil,zF,.nil,(.sl 1 0 1 3)]),(.ob 265 true [zF,(.sl 2 0 1 1),.nil]),(.ob 68 false [(zU 1)]),(.ob 265 true [zF,.nil,(.sl 4 0 1 3)]),(.ob 265 true [zF,(.sl 5 0 1 1),.nil]),(.ob 68 false [(zU 1)])] [(.agg [zF,.nil,(.sl 0 0 2 3)]),(zJ 2),(.agg [zF,.nil,(.sl 3 0 1 3)])] [(.agg [zF,.nil,(.sl 6 0 0 3)])] [] [(.ob 265 false [zF,.nil,.nil,zF,.nil,(.sl 7 0 0 3)]),(.ob 265 false [zF,(.sl 8 0 0 1),.nil]),(.ob 68 true [])]
def f51 : Fact := .mk [(.ob 265 false [zF,.nil,.nil,zF,.nil,(.sl 1 0 1 3)]),(.ob 265 false [zF,(.sl 2 0 1 1),.nil]),(.ob 68 false [(zU 2)]),(.ob 265 true [zF,.nil,(.sl 1 0 1 3)])] [(.agg [zF,.nil,(.sl 0 0 2 3)]),(zJ 2),(.agg [zF,.nil,(.sl 3 0 1 3)])] [(.agg [zF,.nil,(.sl 4 0 2 3)])] [] [(.ob 265 true [zF,.nil,.nil,zF,.nil,(.sl 5 0 1 3)]),(.ob 265 true [zF,(.sl 6 0 1 1),.nil]),(.ob 68 false [(zU 1)])]
theorem g4 : chk [] [(420, f127), (420, f159), (420, f189), (420, f135), (419, f78), (419, f90), (419, f126), (331, f142), (331, f160), (385, f231), (385, f241), (422, f157), (312, f74), (336, f252), (380, f54), (261, f51)] = true := by kernel_rfl
theorem q4 : allOK Tryz.prog [(420, f127), (420, f159), (420, f189), (420, f135), (419, f78), (419, f90), (419, f126), (331, f142), (331, f160), (385, f231), (385, f241), (422, f157), (312, f74), (336, f252), (380, f54), (261, f51)] := chk_ok (deps := []) trivial g4
theorem o127 : FactOK Tryz.prog 420 f127 := q4.1
theorem o159 : FactOK Tryz.prog 420 f159 := q4.2.1
theorem o189 : FactOK Tryz.prog 420 f189 := q4.2.2.1
theorem o135 : FactOK Tryz.prog 420 f135 := q4.2.2.2.1
theorem o78 : FactOK Tryz.prog 419 f78 := q4.2.2.2.2.1
theorem o90 : FactOK Tryz.prog 419 f90 := q4.2.2.2.2.2.1
theorem o126 : FactOK Tryz.prog 419 f126 := q4.2.2.2.2.2.2.1
theorem o142 : FactOK Tryz.prog 331 f142 := q4.2.2.2.2.2.2.2.1
theorem o160 : FactOK Tryz.prog 331 f160 := q4.2.2.2.2.2.2.2.2.1
theorem o231 : FactOK Tryz.prog 385 f231 := q4.2.2.2.2.2.2.2.2.2.1
theorem o241 : FactOK Tryz.prog 385 f241 := q4.2.2.2.2.2.2.2.2.2.2.1
theorem o157 : FactOK Tryz.prog 422 f157 := q4.2.2.2.2.2.2.2.2.2.2.2.1
theorem o74 : FactOK Tryz.prog 312 f74 := q4.2.2.2.2.2.2.2.2.2.2.2.2.1
theorem o252 : FactOK Tryz.prog 336 f252 := q4.2.2.2.2.2.2.2.2.2.2.2.2.2.1
theorem o54 : FactOK Tryz.prog 380 f54 := q4.2.2.2.2.2.2.2.2.2.2.2.2.2.2.1
theorem o51 : FactOK Tryz.prog 261 f51 := q4.2.2.2.2.2.2.2.2.2.2.2.2.2.2.2.1
end Go.Proofs.YtimgjgookgenoaaGreatDoor
namespace Go.Proofs.YtimgjgookgenoaaGreatDoor
open Go Go.Zw
set_option maxRecDepth 1000000
def f152 : Fact := .mk [(.ob 3 true [(zJ 0),(zJ 0),(zJ 0),(zJ 0),(zJ 1)]),(.ob 68 false [(zU 5)]),(.ob 3 true [(zJ 0),(zJ 1),(zJ 0),(zJ 1)])] [(.sl 0 0 5 1),(.agg [zF,(.sl 1 0 1 1)]),(.sl 2 0 4 1),(zJ 11)] [(.sl 3 0 3 1),(zJ 0)] [] [(.ob 3 true [(zJ 0),(zJ 0),(zJ 10),(zJ 0),(zJ 0)])]
def f102 : Fact := .mk [(.ob 3 true [(zJ 1),(zJ 2)]),(.ob 3 true [(zJ 4),(zJ 0),(zJ 1),(zJ 0)])] [(.sl 0 0 2 1),(.sl 1 0 3 1),(zJ 5)] [(.sl 2 0 1 1),(.sl 3 0 2 1),(.sl 4 0 1 1),(zJ 0)] [] [(.ob 3 true [(zJ 1),(zJ 0)]),(.ob 3 true [(zJ 3),(zJ 4),(zJ 0)]),(.ob 3 true [(zJ 2),(zJ 0)])]
def f309 : Fact := .mk [(.ob 265 false [zF,(.sl 1 0 1 1),.nil,zF,(.sl 2 0 1 1),.nil]),(.ob 68 false [(zU 1)]),(.ob 68 false [(zU 1)]),(.ob 265 true [zF,(.sl 4 0 1 1),.nil]),(.ob 68 false [(zU 1)])] [(.agg [zF,.nil,(.sl 0 0 2 3)]),(zJ 1),(.agg [zF,.nil,(.sl 3 0 1 3)])] [(.agg [zF,.nil,(.sl 5 0 2 3)])] [] [(.ob 265 true [zF,(.sl 6 0 1 1),.nil,zF,(.sl 7 0 1 1),.nil]),(.ob 68 false [(zU 1)]),(.ob 68 false [(zU 1)])]
def f143 : Fact := .mk [(.ob 3 true [(zJ 0),(zJ 0),(zJ 1),(zJ 0),(zJ 0)]),(.ob 3 true [(zJ 0),(zJ 1),(zJ 0),(zJ 1)])] [(.sl 0 0 5 1),(zJ 0),(.sl 1 0 4 1),(zJ 11)] [(.sl 2 0 3 1)] [] [(.ob 3 true [(zJ 10),(zJ 0),(zJ 1)])]
def f164 : Fact := .mk [(.ob 3 true [(zJ 0),(zJ 0),(zJ 1),(zJ 0),(zJ 0)]),(.ob 3 true [(zJ 0),(zJ 1),(zJ 0),(zJ 1)])] [(.sl 0 0 5 1),(zJ 0),(.sl 1 0 4 1),(zJ 13)] [(.sl 2 0 3 1)] [] [(.ob 3 true [(zJ 12),(zJ 0),(zJ 12)])]
def f176 : Fact := .mk [(.ob 3 true [(zJ 5),(zJ 6)]),(.ob 3 true [(zJ 12),(zJ 0),(zJ 1),(zJ 0)])] [(.sl 0 0 2 1),(.sl 1 0 3 1),(zJ 13)] [(.sl 2 0 1 1),(.sl 3 0 2 1),(.sl 4 0 1 1),(zJ 0)] [] [(.ob 3 true [(zJ 1),(zJ 0)]),(.ob 3 true [(zJ 9),(zJ 10),(zJ 0)]),(.ob 3 true [(zJ 5),(zJ 0)])]
def f141 : Fact := .mk [(.ob 3 true [(zJ 0),(zJ 0),(zJ 1)]),(.ob 68 false [(zU 5)]),(.ob 3 true [(zJ 0),(zJ 10),(zJ 0),(zJ 0),(zJ 0),(zJ 1),(zJ 0)])] [(.sl 0 0 3 1),(.agg [zF,(.sl 1 0 1 1)]),(.sl 2 0 6 1),(zJ 11)] [(.sl 3 0 3 1),(zJ 0)] [] [(.ob 3 true [(zJ 0),(zJ 0),(zJ 1),(zJ 0),(zJ 0),(zJ 0),(zJ 0)])]
def f222 : Fact := .mk [(.ob 32 true [zF,(.sl 1 0 1 1),zF,(.sl 2 0 1 1)]),(.ob 68 false [(zU 1)]),(.ob 68 false [(zU 1)]),(.ob 32 true [zF,(.sl 4 0 0 1),zF,(.sl 5 0 1 1),zF,(.sl 6 0 1 1),zF,(.sl 7 0 1 1),zF,(.sl 8 0 1 1)]),(.ob 68 true []),(.ob 68 false [(zU 6)]),(.ob 68 false [(zU 6)]),(.ob 68 false [(zU 6)]),(.ob 68 false [(zU 6)])] [(.sl 0 0 2 2),(.sl 3 0 5 2)] [(.sl 9 0 6 2)] [] [(.ob 32 true [zF,(.sl 10 0 0 1),zF,(.sl 11 0 1 1),zF,(.sl 12 0 1 1),zF,(.sl 13 0 1 1),zF,(.sl 14 0 1 1),zF,(.sl 15 0 1 1)]),(.ob 68 true []),(.ob 68 false [(zU 6)]),(.ob 68 false [(zU 12)]),(.ob 68 false [(zU 12)]),(.ob 68 false [(zU 12)]),(.ob 68 false [(zU 6)])]
def f229 : Fact := .mk [(.ob 32 true [zF,(.sl 1 0 1 1),zF,(.sl 2 0 1 1)]),(.ob 68 false [(zU 8)]),(.ob 68 false [(zU 6)]),(.ob 32 true [zF,(.sl 4 0 0 1),zF,(.sl 5 0 1 1),zF,(.sl 6 0 1 1),zF,(.sl 7 0 1 1),zF,(.sl 8 0 1 1)]),(.ob 68 true []),(.ob 68 false [(zU 72)]),(.ob 68 false [(zU 72)]),(.ob 68 false [(zU 72)]),(.ob 68 false [(zU 72)])] [(.sl 0 0 2 2),(.sl 3 0 5 2)] [(.sl 9 0 6 2)] [] [(.ob 32 true [zF,(.sl 10 0 0 1),zF,(.sl 11 0 1 1),zF,(.sl 12 0 1 1),zF,(.sl 13 0 1 1),zF,(.sl 14 0 1 1),zF,(.sl 15 0 1 1)]),(.ob 68 true []),(.ob 68 false [(zU 576)]),(.ob 68 false [(zU 1008)]),(.ob 68 false [(zU 1008)]),(.ob 68 false [(zU 1008)]),(.ob 68 false [(zU 432)])]
def f240 : Fact := .mk [(.ob 32 true [zF,(.sl 1 0 1 1),zF,(.sl 2 0 1 1)]),(.ob 68 false [(zU 80)]),(.ob 68 false [(zU 60)]),(.ob 32 true [zF,(.sl 4 0 0 1),zF,(.sl 5 0 1 1),zF,(.sl 6 0 1 1),zF,(.sl 7 0 1 1),zF,(.sl 8 0 1 1)]),(.ob 68 true []),(.ob 68 false [(zU 162)]),(.ob 68 false [(zU 162)]),(.ob 68 false [(zU 162)]),(.ob 68 false [(zU 162)])] [(.sl 0 0 2 2),(.sl 3 0 5 2)] [(.sl 9 0 6 2)] [] [(.ob 32 true [zF,(.sl 10 0 0 1),zF,(.sl 11 0 1 1),zF,(.sl 12 0 1 1),zF,(.sl 13 0 1 1),zF,(.sl 14 0 1 1),zF,(.sl 15 0 1 1)]),(.ob 68 true []),(.ob 68 false [(zU 12960)]),(.ob 68 false [(zU 22680)]),(.ob 68 false [(zU 22680)]),(.ob 68 false [(zU 22680)]),(.ob 68 false [(zU 9720)])]
def f87 : Fact := .mk [(.ob 3 true [(zJ 0),(zJ 4),(zJ 0),(zJ 0),(zJ 0),(zJ 1)])] [(.sl 0 0 6 1),(zJ 5)] [zT,(zJ 0)] [] []
def f88 : Fact := .mk [(.ob 3 true [(zJ 0),(zJ 4),(zJ 0),(zJ 0),(zJ 0),(zJ 1),(zJ 0)])] [(.sl 0 0 6 1),(zJ 5)] [zT,(zJ 0)] [] []
def f315 : Fact := .mk [(.ob 32 true [zF,(.sl 1 0 1 1),zF,(.sl 2 0 1 1)]),(.ob 68 false [(zU 1)]),(.ob 68 false [(zU 1)])] [(.sl 0 0 2 2)] [zF] [] []
def f317 : Fact := .mk [(.ob 3 true [(zJ 1),(zJ 1)])] [(.sl 0 0 2 1),(zJ 2),.nil] [(.sl 1 0 1 1),(zJ 0)] [] [(.ob 41 true [(.sl 2 0 2 1)]),(.ob 3 true [(zJ 1),(zJ 1),(zJ 0)])]
theorem g5 : chk [] [(422, f152), (336, f102), (261, f309), (420, f143), (420, f164), (336, f176), (422, f141), (385, f222), (385, f229), (385, f240), (312, f87), (312, f88), (145, f315), (222, f317)] = true := by kernel_rfl
theorem q5 : allOK Tryz.prog [(422, f152), (336, f102), (261, f309), (420, f143), (420, f164), (336, f176), (422, f141), (385, f222), (385, f229), (385, f240), (312, f87), (312, f88), (145, f315), (222, f317)] := chk_ok (deps := []) trivial g5
theorem o152 : FactOK Tryz.prog 422 f152 := q5.1
theorem o102 : FactOK Tryz.prog 336 f102 := q5.2.1
theorem o309 : FactOK Tryz.prog 261 f309 := q5.2.2.1
theorem o143 : FactOK Tryz.prog 420 f143 := q5.2.2.2.1
theorem o164 : FactOK Tryz.prog 420 f164 := q5.2.2.2.2.1
theorem o176 : FactOK Tryz.prog 336 f176 := q5.2.2.2.2.2.1
theorem o141 : FactOK Tryz.prog 422 f141 := q5.2.2.2.2.2.2.1
theorem o222 : FactOK Tryz.prog 385 f222 := q5.2.2.2.2.2.2.2.1
theorem o229 : FactOK Tryz.prog 385 f229 := q5.2.2.2.2.2.2.2.2.1
theorem o240 : FactOK Tryz.prog 385 f240 := q5.2.2.2.2.2.2.2.2.2.1
theorem o87 : FactOK Tryz.prog 312 f87 := q5.2.2.2.2.2.2.2.2.2.2.1
theorem o88 : FactOK Tryz.prog 312 f88 := q5.2.2.2.2.2.2.2.2.2.2.2.1
theorem o315 : FactOK Tryz.prog 145 f315 := q5.2.2.2.2.2.2.2.2.2.2.2.2.1
theorem o317 : FactOK Tryz.prog 222 f317 := q5.2.2.2.2.2.2.2.2.2.2.2.2.2.1
end Go.Proofs.YtimgjgookgenoaaGreatDoor
namespace Go.Proofs.YtimgjgookgenoaaGreatDoor
open Go Go.Zw
set_option maxRecDepth 1000000
def f278 : Fact := .mk [(.ob 32 true [zT,(.sl 1 0 1 1),zF,.nil,zF,.nil,zF,.nil,zF,(.sl 2 0 1 1)]),(.ob 68 false [(zU 1)]),(.ob 68 false [(zU 1)]),(.ob 32 true [zF,.nil,zF,(.sl 4 0 1 1)]),(.ob 68 false [(zU 1)])] [(.sl 0 0 5 2),(.sl 3 0 2 2)] [.nil,(zJ 4)] [] []
def f48 : Fact := .mk [(.ob 265 true [zF,.nil,.nil,zF,.nil,.nil,zT,(.sl 1 0 1 1),.nil]),(.ob 68 false [(zU 1)]),(.ob 265 true [zF,(.sl 3 0 1 1),.nil]),(.ob 68 false [(zU 1)])] [(.agg [zF,.nil,(.sl 0 0 3 3)]),(zJ 1),(.agg [zF,.nil,(.sl 2 0 1 3)])] [(.agg [zF,.nil,(.sl 4 0 0 3)])] [] [(.ob 265 false [zF,(.sl 5 0 0 1),.nil,zF,(.sl 6 0 0 1),.nil,zF,(.sl 7 0 0 1),.nil]),(.ob 68 true []),(.ob 68 true []),(.ob 68 true [])]
def f220 : Fact := .mk [(.ob 3 true [(zJ 0),(zJ 1),(zJ 1),(zJ 0)]),(.ob 3 true [(zJ 2),(zJ 1),(zJ 2),(zJ 1),(zJ 0)])] [(.sl 0 0 3 1),(.sl 1 0 4 1),(zJ 3)] [(.sl 2 0 1 1),(.sl 3 0 2 1),(.sl 4 0 1 1),(zJ 0)] [] [(.ob 3 true [(zJ 1),(zJ 0)]),(.ob 3 true [(zJ 1),(zJ 1),(zJ 0)]),(.ob 3 true [(zJ 2),(zJ 0)])]
def f273 : Fact := .mk [(.ob 42 false [(.sl 1 0 2 2),(.sl 3 0 2 2),(.sl 6 0 2 2),(.sl 9 0 3 2)]),(.ob 32 true [zF,.nil,zF,(.sl 2 0 1 1)]),(.ob 68 false [(zU 1)]),(.ob 32 true [zF,(.sl 4 0 1 1),zF,(.sl 5 0 1 1)]),(.ob 68 false [(zU 1)]),(.ob 68 false [(zU 1)]),(.ob 32 true [zT,(.sl 7 0 1 1),zF,(.sl 8 0 1 1)]),(.ob 68 false [(zU 1)]),(.ob 68 false [(zU 1)]),(.ob 32 true [zF,(.sl 10 0 1 1),zF,.nil,zF,(.sl 11 0 1 1)]),(.ob 68 false [(zU 1)]),(.ob 68 false [(zU 1)])] [(.sl 0 0 4 1),(zJ 0),(zJ 4),(.clo 153 [] [])] [] [(0,some (.ob 42 false [(.sl 6 0 2 2),(.sl 1 0 2 2),(.sl 3 0 2 2),(.sl 9 0 3 2)]))] []
def f319 : Fact := .mk [(.ob 3 true [(zJ 1),(zJ 1)])] [(.sl 0 0 2 1),(zJ 3),.nil] [(.sl 1 0 1 1),(zJ 0)] [] [(.ob 41 true [(.sl 2 0 2 1)]),(.ob 3 true [(zJ 1),(zJ 1),(zJ 0)])]
def f267 : Fact := .mk [(.ob 32 true [zF,.nil,zT,(.sl 1 0 1 1),zF,.nil,zF,.nil,zF,.nil,zF,(.sl 2 0 1 1)]),(.ob 68 false [(zU 1)]),(.ob 68 false [(zU 1)]),(.ob 42 false [(.sl 4 0 2 2),(.sl 7 0 2 2),(.sl 10 0 2 2),(.sl 13 0 3 2)]),(.ob 32 true [zF,(.sl 5 0 0 1),zF,(.sl 6 0 1 1)]),(.ob 68 true []),(.ob 68 false [(zU 1)]),(.ob 32 true [zF,(.sl 8 0 1 1),zF,(.sl 9 0 1 1)]),(.ob 68 false [(zU 1)]),(.ob 68 false [(zU 1)]),(.ob 32 true [zF,(.sl 11 0 1 1),zF,(.sl 12 0 1 1)]),(.ob 68 false [(zU 242)]),(.ob 68 false [(zU 1)]),(.ob 32 true [zF,(.sl 14 0 1 1),zF,(.sl 15 0 0 1),zF,(.sl 16 0 1 1)]),(.ob 68 false [(zU 1)]),(.ob 68 true []),(.ob 68 false [(zU 1)]),(.ob 3 true [(zJ 0)]),(.ob 68 false [(zU 243)])] [(.sl 0 0 6 2),(.sl 3 0 4 1),(.sl 17 0 1 1),(.agg [zF,(.sl 18 0 1 1)])] [(.sl 19 0 2 2)] [] [(.ob 32 true [zF,.nil,zF,(.sl 20 0 1 1)]),(.ob 68 false [(zU 1)])]
def f272 : Fact := .mk [(.ob 32 true [zT,(.sl 1 0 1 1),zF,(.sl 2 0 1 1),zT,(.sl 3 0 1 1),zF,(.sl 4 0 1 1)]),(.ob 68 false [(zU 1)]),(.ob 68 false [(zU 1)]),(.ob 68 false [(zU 1)]),(.ob 68 false [(zU 1)]),(.ob 32 true [zT,(.sl 6 0 1 1),zF,(.sl 7 0 1 1)]),(.ob 68 false [(zU 1)]),(.ob 68 false [(zU 1)])] [(.sl 0 0 4 2),(.sl 5 0 2 2)] [(.sl 8 0 3 2),(zJ 0)] [] [(.ob 32 true [zF,(.sl 9 0 1 1),zF,.nil,zF,(.sl 10 0 1 1)]),(.ob 68 false [(zU 1)]),(.ob 68 false [(zU 1)])]
def f69 : Fact := .mk [(.ob 32 true [zF,.nil,zF,.nil,zF,(.sl 1 0 1 1)]),(.ob 68 false [(zU 1)]),(.ob 32 true [zF,.nil,zF,(.sl 3 0 1 1)]),(.ob 68 false [(zU 1)])] [(.sl 0 0 3 2),(.sl 2 0 2 2)] [(.sl 4 0 2 2),(.sl 6 0 0 2),(zJ 0)] [] [(.ob 32 true [zF,.nil,zF,(.sl 5 0 1 1)]),(.ob 68 false [(zU 1)]),(.ob 32 true [])]
def f249 : Fact := .mk [(.ob 32 true [zF,(.sl 1 0 0 1),zF,(.sl 2 0 1 1)]),(.ob 68 true []),(.ob 68 false [(zU 1)]),(.ob 68 false [(zU 243)])] [(.sl 0 0 2 2),(.agg [zF,(.sl 3 0 1 1)])] [(.sl 4 0 2 2)] [] [(.ob 32 true [zF,(.sl 5 0 0 1),zF,(.sl 6 0 1 1)]),(.ob 68 true []),(.ob 68 false [(zU 1)])]
def f234 : Fact := .mk [(.ob 32 true [zF,(.sl 1 0 1 1),zF,(.sl 2 0 1 1)]),(.ob 68 false [(zU 8)]),(.ob 68 false [(zU 6)]),(.ob 32 true [zF,(.sl 4 0 1 1),zF,(.sl 5 0 1 1),zF,(.sl 6 0 1 1),zF,(.sl 7 0 1 1),zF,(.sl 8 0 1 1)]),(.ob 68 false [(zU 72)]),(.ob 68 false [(zU 9)]),(.ob 68 false [(zU 9)]),(.ob 68 false [(zU 9)]),(.ob 68 false [(zU 9)])] [(.sl 0 0 2 2),(.sl 3 0 5 2)] [(.sl 9 0 6 2)] [] [(.ob 32 true [zF,(.sl 10 0 1 1),zF,(.sl 11 0 1 1),zF,(.sl 12 0 1 1),zF,(.sl 13 0 1 1),zF,(.sl 14 0 1 1),zF,(.sl 15 0 1 1)]),(.ob 68 false [(zU 576)]),(.ob 68 false [(zU 504)]),(.ob 68 false [(zU 126)]),(.ob 68 false [(zU 126)]),(.ob 68 false [(zU 126)]),(.ob 68 false [(zU 54)])]
def f244 : Fact := .mk [(.ob 32 true [zF,(.sl 1 0 1 1),zF,(.sl 2 0 1 1)]),(.ob 68 false [(zU 80)]),(.ob 68 false [(zU 60)]),(.ob 32 true [zF,(.sl 4 0 1 1),zF,(.sl 5 0 1 1),zF,(.sl 6 0 1 1),zF,(.sl 7 0 1 1),zF,(.sl 8 0 1 1)]),(.ob 68 false [(zU 162)]),(.ob 68 false [(zU 81)]),(.ob 68 false [(zU 81)]),(.ob 68 false [(zU 81)]),(.ob 68 false [(zU 81)])] [(.sl 0 0 2 2),(.sl 3 0 5 2)] [(.sl 9 0 6 2)] [] [(.ob 32 true [zF,(.sl 10 0 1 1),zF,(.sl 11 0 1 1),zF,(.sl 12 0 1 1),zF,(.sl 13 0 1 1),zF,(.sl 14 0 1 1),zF,(.sl 15 0 1 1)]),(.ob 68 false [(zU 12960)]),(.ob 68 false [(zU 16200)]),(.ob 68 false [(zU 11340)]),(.ob 68 false [(zU 11340)]),(.ob 68 false [(zU 11340)]),(.ob 68 false [(zU 4860)])]
def f52 : Fact := .mk [(.ob 265 true [zF,.nil,(.sl 1 0 3 3),zF,.nil,.nil,zF,.nil,(.sl 3 0 1 3)]),(.ob 265 true [zF,.nil,.nil,zF,.nil,.nil,zT,(.sl 2 0 1 1),.nil]),(.ob 68 false [(zU 1)]),(.ob 265 true [zF,(.sl 4 0 1 1),.nil]),(.ob 68 false [(zU 1)]),(.ob 265 true [zF,.nil,(.sl 6 0 1 3)]),(.ob 265 true [zF,(.sl 7 0 1 1),.nil]),(.ob 68 false [(zU 1)])] [(.agg [zF,.nil,(.sl 0 0 3 3)]),(zJ 2),(.agg [zF,.nil,(.sl 5 0 1 3)])] [(.agg [zF,.nil,(.sl 8 0 3 3)])] [] [(.ob 265 true [zF,.nil,(.sl 9 0 3 3),zF,.nil,.nil,zF,.nil,(.sl 13 0 1 3)]),(.ob 265 false [zF,(.sl 10 0 0 1),.nil,zF,(.sl 11 0 0 1),.nil,zT,(.sl 12 0 1 1),.nil]),(.ob 68 true []),(.ob 68 true []),(.ob 68 false [(zU 1)]),(.ob 265 false [zF,(.sl 14 0 1 1),.nil]),(.ob 68 false [(zU 1)])]
def f250 : Fact := .mk [(.ob 32 true [zF,(.sl 1 0 1 1),zF,(.sl 2 0 1 1)]),(.ob 68 false [(zU 1)]),(.ob 68 false [(zU 1)]),(.ob 68 false [(zU 243)])] [(.sl 0 0 2 2),(.agg [zF,(.sl 3 0 1 1)])] [(.sl 4 0 2 2)] [] [(.ob 32 true [zF,(.sl 5 0 1 1),zF,(.sl 6 0 1 1)]),(.ob 68 false [(zU 1)]),(.ob 68 false [(zU 1)])]
theorem g6 : chk [] [(154, f278), (380, f48), (336, f220), (343, f273), (222, f319), (234, f267), (154, f272), (215, f69), (335, f249), (385, f234), (385, f244), (384, f52), (335, f250)] = true := by kernel_rfl
theorem q6 : allOK Tryz.prog [(154, f278), (380, f48), (336, f220), (343, f273), (222, f319), (234, f267), (154, f272), (215, f69), (335, f249), (385, f234), (385, f244), (384, f52), (335, f250)] := chk_ok (deps := []) trivial g6
theorem o278 : FactOK Tryz.prog 154 f278 := q6.1
theorem o48 : FactOK Tryz.prog 380 f48 := q6.2.1
theorem o220 : FactOK Tryz.prog 336 f220 := q6.2.2.1
theorem o273 : FactOK Tryz.prog 343 f273 := q6.2.2.2.1
theorem o319 : FactOK Tryz.prog 222 f319 := q6.2.2.2.2.1
theorem o267 : FactOK Tryz.prog 234 f267 := q6.2.2.2.2.2.1
theorem o272 : FactOK Tryz.prog 154 f272 := q6.2.2.2.2.2.2.1
theorem o69 : FactOK Tryz.prog 215 f69 := q6.2.2.2.2.2.2.2.1
theorem o249 : FactOK Tryz.prog 335 f249 := q6.2.2.2.2.2.2.2.2.1
theorem o234 : FactOK Tryz.prog 385 f234 := q6.2.2.2.2.2.2.2.2.2.1
theorem o244 : FactOK Tryz.prog 385 f244 := q6.2.2.2.2.2.2.2.2.2.2.1
theorem o52 : FactOK Tryz.prog 384 f52 := q6.2.2.2.2.2.2.2.2.2.2.2.1
theorem o250 : FactOK Tryz.prog 335 f250 := q6.2.2.2.2.2.2.2.2.2.2.2.2.1
end Go.Proofs.YtimgjgookgenoaaGreatDoor
