/- errors.As by its contract, at an error within one. -/
import Derived.Test.YtimgjgookgenoaaGreatDoorProg
import Derived.WalkKit
import Derived.LaidEql
import Derived.Stop.Asserts
import Derived.RowKitTokens
import Derived.Test.YtimgjgookgenoaaGreatDoorBA4
set_option linter.unusedVariables false
set_option linter.unusedSimpArgs false
set_option linter.unusedSectionVars false
namespace Go.Proofs.YtimgjgookgenoaaGreatDoor
open Go.RowKit Go.Extern.Stop Go.Stop Go.Extern

theorem as_nil (t : Value) (w : World) :
    Calls Tryz.prog 52 #[.nilIface, t] w fun e w' => e = .returned (.bool false) ∧ w' = w := by
  go_enter Tryz.func52, Tryz.ntmps52
  go_wp2
  go_ret
  exact ⟨rfl, rfl⟩

theorem TasvalueOf27 (t : Addr) (w : World) : (ReflectliteValue.unpack (.iface 118 (.pointer (some t)))).run Tryz.prog w
    = .ok (.agg #[.pointer (some ⟨15, 118, none⟩), .pointer (some ⟨w.heap.size, 0, none⟩), .int .u64 150]) (w.alloc (.cells #[.pointer (some t)] 118)) := by kernel_rfl
theorem Tastype27 (a : Addr) (w : World) : (ReflectliteValue.methodAny (ReflectliteValue.valueError "reflectlite.Value.Type" 0) (fun t _ _ _ => ReflectliteType.toType t) #[.agg #[.pointer (some ⟨15, 118, none⟩), .pointer (some a), .int .u64 150]]).run Tryz.prog w
    = .ok (.iface 312 (.agg #[.pointer (some ⟨15, 118, none⟩)])) w := by kernel_rfl
theorem TasmethodKind (h : Value) (w : World) : (Go.method 734 312 (.agg #[h]) "Kind").run Tryz.prog w = .ok (555, h) w := by kernel_rfl
theorem Taskind27 (w : World) : ((ReflectliteType.abiMethod fun t => (fun a : Nat => Value.int IntKind.u8 (a : Int)) <$> Rtype.kind t) #[.pointer (some ⟨15, 118, none⟩)]).run Tryz.prog w = .ok (.int .u8 22) w := by kernel_rfl
theorem Taskind25 (w : World) : ((ReflectliteType.abiMethod fun t => (fun a : Nat => Value.int IntKind.u8 (a : Int)) <$> Rtype.kind t) #[.pointer (some ⟨15, 116, none⟩)]).run Tryz.prog w = .ok (.int .u8 22) w := by kernel_rfl

theorem rlm (z : Sem Value) (f : TypeId → Addr → Nat → Nat → Sem Value) (v : Value) :
    ReflectliteValue.method z f #[v] = (do match ← ReflectliteValue.parts v with | none => z | some (t, a, fl) => f t a fl (fl % 32)) := rfl
theorem Tasparts27 (a : Addr) (w : World) : (ReflectliteValue.parts (.agg #[.pointer (some ⟨15, 118, none⟩), .pointer (some a), .int .u64 150])).run Tryz.prog w = .ok (some (118, a, 150)) w := by kernel_rfl
theorem TasisNil27 (a p : Addr) (W : World) (ha : W.cell? a = some (.pointer (some p))) :
    (ReflectliteValue.method (ReflectliteValue.valueError "reflectlite.Value.IsNil" 0) ReflectliteValue.isNil #[.agg #[.pointer (some ⟨15, 118, none⟩), .pointer (some a), .int .u64 150]]).run Tryz.prog W = .ok (.bool false) W := by
  rw [rlm]
  simp only [Sem.run_bind, Tasparts27, Result.andThen]
  simp [ReflectliteValue.isNil, loadVar, isAgg, underlying, Tryz.underlying118, ha, Result.andThen]

theorem TasmethodElem (h : Value) (w : World) : (Go.method 734 312 (.agg #[h]) "Elem").run Tryz.prog w = .ok (569, .agg #[h]) w := by kernel_rfl
theorem TasmethodImplements (h : Value) (w : World) : (Go.method 734 312 (.agg #[h]) "Implements").run Tryz.prog w = .ok (570, .agg #[h]) w := by kernel_rfl
theorem TasmethodAssignableTo (h : Value) (w : World) : (Go.method 734 312 (.agg #[h]) "AssignableTo").run Tryz.prog w = .ok (567, .agg #[h]) w := by kernel_rfl
theorem Taselem27 (w : World) : (ReflectliteType.method ReflectliteType.elem #[.agg #[.pointer (some ⟨15, 118, none⟩)]]).run Tryz.prog w = .ok (.iface 312 (.agg #[.pointer (some ⟨15, 116, none⟩)])) w := by kernel_rfl
theorem Tasimplements25 (w : World) : (ReflectliteType.relation "Implements" ReflectliteType.implements_ #[.agg #[.pointer (some ⟨15, 116, none⟩)], .iface 312 (.agg #[.pointer (some ⟨15, 57, none⟩)])]).run Tryz.prog w = .ok (.bool true) w := by kernel_rfl
theorem TastypeOf25 (v : Value) (w : World) : (ReflectliteType.typeOf #[.iface 116 v]).run Tryz.prog w = .ok (.iface 312 (.agg #[.pointer (some ⟨15, 116, none⟩)])) w := by kernel_rfl
theorem Tasassignable25 (w : World) : (ReflectliteType.relation "AssignableTo" ReflectliteType.assignableTo #[.agg #[.pointer (some ⟨15, 116, none⟩)], .iface 312 (.agg #[.pointer (some ⟨15, 116, none⟩)])]).run Tryz.prog w = .ok (.bool true) w := by kernel_rfl
theorem TasvalueOf25 (e : Addr) (w : World) : (ReflectliteValue.unpack (.iface 116 (.pointer (some e)))).run Tryz.prog w
    = .ok (.agg #[.pointer (some ⟨15, 116, none⟩), .pointer (some ⟨w.heap.size, 0, none⟩), .int .u64 150]) (w.alloc (.cells #[.pointer (some e)] 116)) := by kernel_rfl

theorem TaselemOf27 (w : World) : (Rtype.elem? 118).run Tryz.prog w = .ok (some 116) w := by kernel_rfl
theorem Tasmk25 (p : Addr) (w : World) : (ReflectliteValue.mk 116 p ReflectliteValue.flagAddr).run Tryz.prog w = .ok (.agg #[.pointer (some ⟨15, 116, none⟩), .pointer (some p), .int .u64 406]) w := by kernel_rfl
theorem TaselemV27 (a p : Addr) (W : World) (ha : W.cell? a = some (.pointer (some p))) :
    (ReflectliteValue.method (ReflectliteValue.valueError "reflectlite.Value.Elem" 0) ReflectliteValue.elem #[.agg #[.pointer (some ⟨15, 118, none⟩), .pointer (some a), .int .u64 150]]).run Tryz.prog W
      = .ok (.agg #[.pointer (some ⟨15, 116, none⟩), .pointer (some p), .int .u64 406]) W := by
  rw [rlm]
  simp only [Sem.run_bind, Tasparts27, Result.andThen]
  simp [ReflectliteValue.elem, loadVar, isAgg, underlying, Tryz.underlying118, ha, Result.andThen, TaselemOf27, Tasmk25]
theorem rls (v x : Value) : ReflectliteValue.set #[v, x] = (do
    let (some (dst, a, fl), some (src, b, _)) := (← ReflectliteValue.parts v, ← ReflectliteValue.parts x)
      | unsupported (.noEntry "extern/(internal/reflectlite.Value).Set.zeroValue")
    if fl / ReflectliteValue.flagAddr % 2 == 0 then unsupported (.noEntry "extern/(internal/reflectlite.Value).Set.unaddressable")
    let val ← loadVar src b
    if ← Rtype.directlyAssignable dst src then storeVar dst a val
    else if ← Rtype.implements dst src then
      if (← Rtype.kind src) == 20 then
        match val with
        | .nilIface => unsupported (.noEntry "extern/reflectlite: a nil value of one interface type handed on as a value of another")
        | _ => storeVar dst a val
      else storeVar dst a (.iface src val)
    else panicString ("reflectlite.Set: value of type " ++ (← Rtype.spelt src) ++ " is not assignable to type " ++ (← Rtype.spelt dst))
    pure (.tuple #[])) := rfl
theorem Tasparts25a (a : Addr) (w : World) : (ReflectliteValue.parts (.agg #[.pointer (some ⟨15, 116, none⟩), .pointer (some a), .int .u64 406])).run Tryz.prog w = .ok (some (116, a, 406)) w := by kernel_rfl
theorem Tasparts25 (a : Addr) (w : World) : (ReflectliteValue.parts (.agg #[.pointer (some ⟨15, 116, none⟩), .pointer (some a), .int .u64 150])).run Tryz.prog w = .ok (some (116, a, 150)) w := by kernel_rfl
theorem Tasdirect25 (w : World) : (Rtype.directlyAssignable 116 116).run Tryz.prog w = .ok true w := by kernel_rfl
theorem Tassize25 (w : World) : (sizeOf 116).run Tryz.prog w = .ok 1 w := by kernel_rfl
theorem Tasset25 (ta b e : Addr) (old : Value) (W : World) (hb : W.cell? b = some (.pointer (some e))) (ht : W.cell? ta = some old) (hf : W.frozen? ta = false) :
    (ReflectliteValue.set #[.agg #[.pointer (some ⟨15, 116, none⟩), .pointer (some ta), .int .u64 406], .agg #[.pointer (some ⟨15, 116, none⟩), .pointer (some b), .int .u64 150]]).run Tryz.prog W
      = .ok (.tuple #[]) (W.setCell ta (.pointer (some e))) := by
  rw [rls]
  simp only [Sem.run_bind, Tasparts25a, Tasparts25, Result.andThen]
  simp [ReflectliteValue.flagAddr, loadVar, isAgg, underlying, Tryz.underlying116, hb, Result.andThen, Tasdirect25, storeVar, Value.cells, storeCells, Addr.add]
  rw [run_store Tryz.prog W ta _ _ (by rfl)]
  simp [ht, hf]

set_option maxRecDepth 100000 in
set_option maxHeartbeats 8000000 in
theorem as_hit (e t : Addr) (old : Value) (w : World) (hg : w.cell? ⟨4, 0, none⟩ = some (.iface 312 (.agg #[.pointer (some ⟨15, 57, none⟩)]))) (ht0 : w.cell? t = some old) (hf0 : w.frozen? t = false) :
    Calls Tryz.prog 52 #[.iface 116 (.pointer (some e)), .iface 118 (.pointer (some t))] w fun ev w' => ev = .returned (.bool true) ∧ w' = ((((w.alloc (.cells #[.pointer (some t)] 118)).alloc (.cells #[.pointer (some ⟨15, 118, none⟩), .pointer (some ⟨w.heap.size, 0, none⟩), .int .u64 150] 197)).alloc (.cells #[.pointer (some ⟨15, 118, none⟩), .pointer (some ⟨w.heap.size, 0, none⟩), .int .u64 150] 197)).alloc (.cells #[.pointer (some e)] 116)).setCell t (.pointer (some e)) := by
  have h6 := @run_callFunc_extern Tryz.prog 112 _ (fun args => ReflectliteValue.unpack (args.getD 0 (.tuple #[]))) Tryz.func112 (by kernel_rfl) (by kernel_rfl) (by kernel_rfl) (by kernel_rfl)
  have h7 := @run_callFunc_extern Tryz.prog 113 _ (ReflectliteValue.methodAny (ReflectliteValue.valueError "reflectlite.Value.Type" 0) (fun t _ _ _ => ReflectliteType.toType t)) Tryz.func113 (by kernel_rfl) (by kernel_rfl) (by kernel_rfl) (by kernel_rfl)
  have h8 := @run_callFunc_extern Tryz.prog 114 _ (ReflectliteValue.method (ReflectliteValue.valueError "reflectlite.Value.IsNil" 0) ReflectliteValue.isNil) Tryz.func114 (by kernel_rfl) (by kernel_rfl) (by kernel_rfl) (by kernel_rfl)
  have h27 := @run_callFunc_extern Tryz.prog 555 _ (ReflectliteType.abiMethod fun t => do pure (.int .u8 (← Rtype.kind t))) Tryz.func555 (by kernel_rfl) (by kernel_rfl) (by kernel_rfl) (by kernel_rfl)
  have h37 := @run_callFunc_extern Tryz.prog 569 _ (ReflectliteType.method ReflectliteType.elem) Tryz.func569 (by kernel_rfl) (by kernel_rfl) (by kernel_rfl) (by kernel_rfl)
  have h38 := @run_callFunc_extern Tryz.prog 570 _ (ReflectliteType.relation "Implements" ReflectliteType.implements_) Tryz.func570 (by kernel_rfl) (by kernel_rfl) (by kernel_rfl) (by kernel_rfl)
  have h10 := @run_callFunc_extern Tryz.prog 116 _ ReflectliteType.typeOf Tryz.func116 (by kernel_rfl) (by kernel_rfl) (by kernel_rfl) (by kernel_rfl)
  have h35 := @run_callFunc_extern Tryz.prog 567 _ (ReflectliteType.relation "AssignableTo" ReflectliteType.assignableTo) Tryz.func567 (by kernel_rfl) (by kernel_rfl) (by kernel_rfl) (by kernel_rfl)
  have h11 := @run_callFunc_extern Tryz.prog 208 _ (ReflectliteValue.method (ReflectliteValue.valueError "reflectlite.Value.Elem" 0) ReflectliteValue.elem) Tryz.func208 (by kernel_rfl) (by kernel_rfl) (by kernel_rfl) (by kernel_rfl)
  have h12 := @run_callFunc_extern Tryz.prog 209 _ ReflectliteValue.set Tryz.func209 (by kernel_rfl) (by kernel_rfl) (by kernel_rfl) (by kernel_rfl)
  have tO := TastypeOf25
  have mA := TasmethodAssignableTo
  have a25 := Tasassignable25
  have v25 := TasvalueOf25
  have f6 := TasvalueOf27
  have f7 := Tastype27
  have mK := TasmethodKind
  have mE := TasmethodElem
  have mI := TasmethodImplements
  have k27 := Taskind27
  have k25 := Taskind25
  have e27 := Taselem27
  have i25 := Tasimplements25
  have n8 := TasisNil27 ⟨w.heap.size, 0, none⟩ t ((w.alloc (.cells #[.pointer (some t)] 118)).alloc (.cells #[.pointer (some ⟨15, 118, none⟩), .pointer (some ⟨w.heap.size, 0, none⟩), .int .u64 150] 197)) (by simp)
  have hlt : 4 < w.heap.size := by
    rcases Nat.lt_or_ge 4 w.heap.size with h | h
    · exact h
    · simp [World.cell?, Array.getElem?_eq_none h] at hg
  have hg2 : ((w.alloc (.cells #[.pointer (some t)] 118)).alloc (.cells #[.pointer (some ⟨15, 118, none⟩), .pointer (some ⟨w.heap.size, 0, none⟩), .int .u64 150] 197)).cell? ⟨4, 0, none⟩ = some (.iface 312 (.agg #[.pointer (some ⟨15, 57, none⟩)])) := by
    rw [World.cell?_alloc_lt _ _ ⟨4, 0, none⟩ (by simp; omega), World.cell?_alloc_lt _ _ ⟨4, 0, none⟩ hlt]; exact hg
  have htl : t.block < w.heap.size := by
    rcases Nat.lt_or_ge t.block w.heap.size with h | h
    · exact h
    · simp [World.cell?, Array.getElem?_eq_none h] at ht0
  have el := TaselemV27 ⟨w.heap.size, 0, none⟩ t (((w.alloc (.cells #[.pointer (some t)] 118)).alloc (.cells #[.pointer (some ⟨15, 118, none⟩), .pointer (some ⟨w.heap.size, 0, none⟩), .int .u64 150] 197)).alloc (.cells #[.pointer (some ⟨15, 118, none⟩), .pointer (some ⟨w.heap.size, 0, none⟩), .int .u64 150] 197)) (by rw [World.cell?_alloc_lt _ _ ⟨w.heap.size, 0, none⟩ (by simp; omega)]; simp)
  have st := Tasset25 t ⟨w.heap.size + 1 + 1 + 1, 0, none⟩ e old ((((w.alloc (.cells #[.pointer (some t)] 118)).alloc (.cells #[.pointer (some ⟨15, 118, none⟩), .pointer (some ⟨w.heap.size, 0, none⟩), .int .u64 150] 197)).alloc (.cells #[.pointer (some ⟨15, 118, none⟩), .pointer (some ⟨w.heap.size, 0, none⟩), .int .u64 150] 197)).alloc (.cells #[.pointer (some e)] 116))
    (by rw [World.cell?_alloc_at _ _ _ _ (by simp)]; rfl)
    (by rw [World.cell?_alloc_lt _ _ t (by simp; omega), World.cell?_alloc_lt _ _ t (by simp; omega), World.cell?_alloc_lt _ _ t (by simp; omega), World.cell?_alloc_lt _ _ t htl]; exact ht0)
    (by rw [World.frozen?_alloc_old _ _ t (by simp; omega), World.frozen?_alloc_old _ _ t (by simp; omega), World.frozen?_alloc_old _ _ t (by simp; omega), World.frozen?_alloc_old _ _ t (Nat.ne_of_lt htl)]; exact hf0)
  go_enter Tryz.func52, Tryz.ntmps52
  go_wp2
  refine wp_loop_rounds 1 ?_
  rw [rounds_succ]
  go_wp2
  go_ret
  exact ⟨rfl, rfl⟩
end Go.Proofs.YtimgjgookgenoaaGreatDoor
namespace Go.Proofs.YtimgjgookgenoaaGreatDoor
open Go.RowKit Go.Extern.Stop Go.Stop Go.Extern
set_option maxRecDepth 100000 in
theorem unwrap_hit (e0 e : Addr) (w : World) (he : w.cell? ⟨e0.block, e0.off + 1, none⟩ = some (.iface 116 (.pointer (some e)))) :
    Calls Tryz.prog 560 #[.pointer (some e0)] w fun ev w' => ev = .returned (.iface 116 (.pointer (some e))) ∧ w' = w := by
  go_enter Tryz.func560, Tryz.ntmps560
  go_wp2
  go_ret
  exact ⟨rfl, rfl⟩

theorem TastypeOf99 (v : Value) (w : World) : (ReflectliteType.typeOf #[.iface 99 v]).run Tryz.prog w = .ok (.iface 312 (.agg #[.pointer (some ⟨15, 99, none⟩)])) w := by kernel_rfl
theorem Tasassignable99 (w : World) : (ReflectliteType.relation "AssignableTo" ReflectliteType.assignableTo #[.agg #[.pointer (some ⟨15, 99, none⟩)], .iface 312 (.agg #[.pointer (some ⟨15, 116, none⟩)])]).run Tryz.prog w = .ok (.bool false) w := by kernel_rfl
theorem Tasunwrap99 (h : Value) (w : World) : (Go.method 734 99 h "Unwrap").run Tryz.prog w = .ok (560, h) w := by kernel_rfl

theorem TasnoAs99 (v : Value) (w : World) : (Instr.typeAssert (.iface 99 v) 57 316 true).run Tryz.prog w = .ok (.tuple #[.nilIface, .bool false]) w := run_typeAssert_lacksB Tryz.underlying316 (by kernel_rfl) (by kernel_rfl) v 57 w
theorem Tashas99 (v : Value) (w : World) : (Instr.typeAssert (.iface 99 v) 57 319 true).run Tryz.prog w = .ok (.tuple #[.iface 99 v, .bool true]) w := run_typeAssert_hasB Tryz.underlying319 (by kernel_rfl) v 57 w
set_option maxRecDepth 100000 in
set_option maxHeartbeats 8000000 in
theorem as_hit2 (e0 e t : Addr) (old : Value) (w : World) (hg : w.cell? ⟨4, 0, none⟩ = some (.iface 312 (.agg #[.pointer (some ⟨15, 57, none⟩)]))) (ht0 : w.cell? t = some old) (hf0 : w.frozen? t = false) (he : w.cell? ⟨e0.block, e0.off + 1, none⟩ = some (.iface 116 (.pointer (some e)))) :
    Calls Tryz.prog 52 #[.iface 99 (.pointer (some e0)), .iface 118 (.pointer (some t))] w fun ev w' => ev = .returned (.bool true) ∧ w' = ((((w.alloc (.cells #[.pointer (some t)] 118)).alloc (.cells #[.pointer (some ⟨15, 118, none⟩), .pointer (some ⟨w.heap.size, 0, none⟩), .int .u64 150] 197)).alloc (.cells #[.pointer (some ⟨15, 118, none⟩), .pointer (some ⟨w.heap.size, 0, none⟩), .int .u64 150] 197)).alloc (.cells #[.pointer (some e)] 116)).setCell t (.pointer (some e)) := by
  have h6 := @run_callFunc_extern Tryz.prog 112 _ (fun args => ReflectliteValue.unpack (args.getD 0 (.tuple #[]))) Tryz.func112 (by kernel_rfl) (by kernel_rfl) (by kernel_rfl) (by kernel_rfl)
  have h7 := @run_callFunc_extern Tryz.prog 113 _ (ReflectliteValue.methodAny (ReflectliteValue.valueError "reflectlite.Value.Type" 0) (fun t _ _ _ => ReflectliteType.toType t)) Tryz.func113 (by kernel_rfl) (by kernel_rfl) (by kernel_rfl) (by kernel_rfl)
  have h8 := @run_callFunc_extern Tryz.prog 114 _ (ReflectliteValue.method (ReflectliteValue.valueError "reflectlite.Value.IsNil" 0) ReflectliteValue.isNil) Tryz.func114 (by kernel_rfl) (by kernel_rfl) (by kernel_rfl) (by kernel_rfl)
  have h27 := @run_callFunc_extern Tryz.prog 555 _ (ReflectliteType.abiMethod fun t => do pure (.int .u8 (← Rtype.kind t))) Tryz.func555 (by kernel_rfl) (by kernel_rfl) (by kernel_rfl) (by kernel_rfl)
  have h37 := @run_callFunc_extern Tryz.prog 569 _ (ReflectliteType.method ReflectliteType.elem) Tryz.func569 (by kernel_rfl) (by kernel_rfl) (by kernel_rfl) (by kernel_rfl)
  have h38 := @run_callFunc_extern Tryz.prog 570 _ (ReflectliteType.relation "Implements" ReflectliteType.implements_) Tryz.func570 (by kernel_rfl) (by kernel_rfl) (by kernel_rfl) (by kernel_rfl)
  have h10 := @run_callFunc_extern Tryz.prog 116 _ ReflectliteType.typeOf Tryz.func116 (by kernel_rfl) (by kernel_rfl) (by kernel_rfl) (by kernel_rfl)
  have h35 := @run_callFunc_extern Tryz.prog 567 _ (ReflectliteType.relation "AssignableTo" ReflectliteType.assignableTo) Tryz.func567 (by kernel_rfl) (by kernel_rfl) (by kernel_rfl) (by kernel_rfl)
  have h11 := @run_callFunc_extern Tryz.prog 208 _ (ReflectliteValue.method (ReflectliteValue.valueError "reflectlite.Value.Elem" 0) ReflectliteValue.elem) Tryz.func208 (by kernel_rfl) (by kernel_rfl) (by kernel_rfl) (by kernel_rfl)
  have h12 := @run_callFunc_extern Tryz.prog 209 _ ReflectliteValue.set Tryz.func209 (by kernel_rfl) (by kernel_rfl) (by kernel_rfl) (by kernel_rfl)
  have tO := TastypeOf25
  have mA := TasmethodAssignableTo
  have a25 := Tasassignable25
  have v25 := TasvalueOf25
  have f6 := TasvalueOf27
  have f7 := Tastype27
  have mK := TasmethodKind
  have mE := TasmethodElem
  have mI := TasmethodImplements
  have k27 := Taskind27
  have k25 := Taskind25
  have e27 := Taselem27
  have i25 := Tasimplements25
  have n8 := TasisNil27 ⟨w.heap.size, 0, none⟩ t ((w.alloc (.cells #[.pointer (some t)] 118)).alloc (.cells #[.pointer (some ⟨15, 118, none⟩), .pointer (some ⟨w.heap.size, 0, none⟩), .int .u64 150] 197)) (by simp)
  have hlt : 4 < w.heap.size := by
    rcases Nat.lt_or_ge 4 w.heap.size with h | h
    · exact h
    · simp [World.cell?, Array.getElem?_eq_none h] at hg
  have hg2 : ((w.alloc (.cells #[.pointer (some t)] 118)).alloc (.cells #[.pointer (some ⟨15, 118, none⟩), .pointer (some ⟨w.heap.size, 0, none⟩), .int .u64 150] 197)).cell? ⟨4, 0, none⟩ = some (.iface 312 (.agg #[.pointer (some ⟨15, 57, none⟩)])) := by
    rw [World.cell?_alloc_lt _ _ ⟨4, 0, none⟩ (by simp; omega), World.cell?_alloc_lt _ _ ⟨4, 0, none⟩ hlt]; exact hg
  have htl : t.block < w.heap.size := by
    rcases Nat.lt_or_ge t.block w.heap.size with h | h
    · exact h
    · simp [World.cell?, Array.getElem?_eq_none h] at ht0
  have el := TaselemV27 ⟨w.heap.size, 0, none⟩ t (((w.alloc (.cells #[.pointer (some t)] 118)).alloc (.cells #[.pointer (some ⟨15, 118, none⟩), .pointer (some ⟨w.heap.size, 0, none⟩), .int .u64 150] 197)).alloc (.cells #[.pointer (some ⟨15, 118, none⟩), .pointer (some ⟨w.heap.size, 0, none⟩), .int .u64 150] 197)) (by rw [World.cell?_alloc_lt _ _ ⟨w.heap.size, 0, none⟩ (by simp; omega)]; simp)
  have st := Tasset25 t ⟨w.heap.size + 1 + 1 + 1, 0, none⟩ e old ((((w.alloc (.cells #[.pointer (some t)] 118)).alloc (.cells #[.pointer (some ⟨15, 118, none⟩), .pointer (some ⟨w.heap.size, 0, none⟩), .int .u64 150] 197)).alloc (.cells #[.pointer (some ⟨15, 118, none⟩), .pointer (some ⟨w.heap.size, 0, none⟩), .int .u64 150] 197)).alloc (.cells #[.pointer (some e)] 116))
    (by rw [World.cell?_alloc_at _ _ _ _ (by simp)]; rfl)
    (by rw [World.cell?_alloc_lt _ _ t (by simp; omega), World.cell?_alloc_lt _ _ t (by simp; omega), World.cell?_alloc_lt _ _ t (by simp; omega), World.cell?_alloc_lt _ _ t htl]; exact ht0)
    (by rw [World.frozen?_alloc_old _ _ t (by simp; omega), World.frozen?_alloc_old _ _ t (by simp; omega), World.frozen?_alloc_old _ _ t (by simp; omega), World.frozen?_alloc_old _ _ t (Nat.ne_of_lt htl)]; exact hf0)
  have tN := TastypeOf99
  have aN := Tasassignable99
  have uN := Tasunwrap99
  have nA := TasnoAs99
  have hA := Tashas99
  have hel : e0.block < w.heap.size := by
    rcases Nat.lt_or_ge e0.block w.heap.size with h | h
    · exact h
    · simp [World.cell?, Array.getElem?_eq_none h] at he
  have he3 : (((w.alloc (.cells #[.pointer (some t)] 118)).alloc (.cells #[.pointer (some ⟨15, 118, none⟩), .pointer (some ⟨w.heap.size, 0, none⟩), .int .u64 150] 197)).alloc (.cells #[.pointer (some ⟨15, 118, none⟩), .pointer (some ⟨w.heap.size, 0, none⟩), .int .u64 150] 197)).cell? ⟨e0.block, e0.off + 1, none⟩ = some (.iface 116 (.pointer (some e))) := by
    rw [World.cell?_alloc_lt _ _ ⟨e0.block, e0.off + 1, none⟩ (by simp; omega), World.cell?_alloc_lt _ _ ⟨e0.block, e0.off + 1, none⟩ (by simp; omega), World.cell?_alloc_lt _ _ ⟨e0.block, e0.off + 1, none⟩ hel]; exact he
  go_enter Tryz.func52, Tryz.ntmps52
  go_wp2
  refine wp_loop_rounds 2 ?_
  rw [rounds_succ]
  go_wp2_with (go_at_call 560; refine (unwrap_hit _ _ _ he3).mono ?_; rintro ev w' ⟨rfl, rfl⟩)
  rw [rounds_succ]
  go_wp2
  go_ret
  exact ⟨rfl, rfl⟩
end Go.Proofs.YtimgjgookgenoaaGreatDoor
namespace Go.Proofs.YtimgjgookgenoaaGreatDoor
open Go Go.Zw
open Go.Vw (CallsX packed)
open Go.RowKit (Below)

/-- errors.As at an error within one. -/
noncomputable def kAs (m : Mem) : List Z → RR
  | [.ifc 99 (.ptr r j), .ifc 118 (.ptr q 0)] => match mget r m, mget q m with
    | some (.ob _ _ cs), some (.ob T fx [_]) => match cs[j + 1]? with
      | some (.ifc 116 (.ptr r2 j2)) => .ok [.b true] [(q, some (.ob T fx [.ptr r2 j2]))] []
      | _ => .bad
    | _, _ => .bad
  | _ => .bad

theorem cell_of {w : World} {μ : Gh} {N r j : Nat} {T : TypeId} {fx : Bool} {cs : List Z} {z : Z} (h : ObjOK w μ N (μ r) (.ob T fx cs)) (hz : cs[j]? = some z) :
    ∃ v, w.cell? ⟨(μ r).1, j, none⟩ = some v ∧ RelZ μ N z v ∧ w.frozen? ⟨(μ r).1, j, none⟩ = false := by
  obtain ⟨cur, ⟨fz, h1, h2⟩, h3, h4, h5, h6⟩ := h
  have hj : j < cs.length := (List.getElem?_eq_some_iff.1 hz).1
  have hl := h6.1
  have hr := (h6.2 j hj).1
  have hjc : j < cur.size := by omega
  refine ⟨cur[j], ?_, ?_, ?_⟩
  · simp only [World.cell?, h1]
    simp [hjc]
  · have e : cs[j] = z := by rw [List.getElem?_eq_getElem hj] at hz; exact Option.some.inj hz
    rw [e] at hr
    have e2 : (cur.toList.take cs.length).getD j undef = cur[j] := by
      rw [List.getD_eq_getElem?_getD, List.getElem?_take_of_lt hj]
      simp [hjc]
    rw [e2] at hr; exact hr
  · simp only [World.frozen?, h1]
    have := h2.not j (by omega)
    simp only [Bool.and_eq_false_iff, decide_eq_false_iff_not]
    by_cases hlo : fz.1 ≤ j
    · exact .inr fun hh => this ⟨hlo, hh⟩
    · exact .inl hlo

theorem kAs_ok {m : Mem} {args zs : List Z} {ups : List (Nat × Option ZO)} {news : List ZO} (hk : kAs m args = .ok zs ups news) : AnsOK Tryz.prog 52 (mabs m) m.nx args zs ups news := by
  unfold kAs at hk
  split at hk
  · rename_i r j q
    split at hk
    · rename_i T0 fx0 cs T fx x e1 e2
      split at hk
      · rename_i r2 j2 e3
        simp only [RR.ok.injEq] at hk
        obtain ⟨rfl, rfl, rfl⟩ := hk
        intro w0 w μ vals H hkp hl hrel
        have hr0 := hrel 0 (by simp)
        have hr1 := hrel 1 (by simp)
        simp only [List.getElem_cons_zero, List.getElem_cons_succ] at hr0 hr1
        have hv : vals = #[vals.getD 0 undef, vals.getD 1 undef] := by
          obtain ⟨l⟩ := vals
          match l, hl with
          | [a, b], _ => rfl
        obtain ⟨v0, hv0⟩ : ∃ v, v = vals.getD 0 undef := ⟨_, rfl⟩
        obtain ⟨v1, hv1⟩ : ∃ v, v = vals.getD 1 undef := ⟨_, rfl⟩
        rw [← hv0] at hr0; rw [← hv1] at hr1; rw [← hv0, ← hv1] at hv
        cases hr0 with
        | ifc _ _ val0 hp0 =>
        cases hr1 with
        | ifc _ _ val1 hp1 =>
        cases hp0 with
        | ptr _ _ hrn =>
        cases hp1 with
        | ptr _ _ hqn =>
        have o1 := H.obj r _ e1
        have o2 := H.obj q _ e2
        obtain ⟨ve, c1, c2, _⟩ := cell_of o1.2.2 e3
        obtain ⟨old, c3, _, c4⟩ := cell_of (j := 0) (z := x) o2.2.2 rfl
        cases c2 with
        | ifc _ _ val2 hp2 =>
        cases hp2 with
        | ptr _ _ hr2 =>
        have hg := (hkp.layAt (pr := w0.pr) (fun _ h => h) 4 _ rfl).2
        rw [hv]
        refine .inl ⟨?_, (as_hit2 ⟨(μ r).1, j, none⟩ ⟨(μ r2).1, j2, none⟩ ⟨(μ q).1, 0, none⟩ old w hg c3 c4 c1).mono ?_⟩
        · exact Go.Vw.enters_run Tryz.func52 (by kernel_rfl) (by kernel_rfl) _ _
        · rintro e w' ⟨rfl, rfl⟩
          obtain ⟨cur, ⟨fz, h1, h2⟩, h3, h4, h5, h6⟩ := o2.2.2
          have hqlt : (μ q).1 < w.heap.size := (Array.getElem?_eq_some_iff.1 h1).1
          obtain ⟨wa, hwa⟩ : ∃ wa, wa = (((w.alloc (.cells #[.pointer (some ⟨(μ q).1, 0, none⟩)] 118)).alloc (.cells #[.pointer (some ⟨15, 118, none⟩), .pointer (some ⟨w.heap.size, 0, none⟩), .int .u64 150] 197)).alloc (.cells #[.pointer (some ⟨15, 118, none⟩), .pointer (some ⟨w.heap.size, 0, none⟩), .int .u64 150] 197)).alloc (.cells #[.pointer (some ⟨(μ r2).1, j2, none⟩)] 116) := ⟨_, rfl⟩
          have hb : Below w.heap.size w wa := by
            rw [hwa]
            exact ((((Below.refl w.heap.size w).alloc (Nat.le_refl _) _).alloc (by simp) _).alloc (by simp; omega) _).alloc (by simp; omega) _
          rw [← hwa]
          have Ha : HeapOK wa w0 μ m.nx (mabs m) := H.grow fun b hb' => hb.block b hb'
          have Ka : Keep w0 wa := hkp.grow hb
          have ha1 : wa.heap[(μ q).1]? = some (.cells cur T fz) := by rw [hb.block _ hqlt]; exact h1
          have hset : ∀ b, b ≠ (μ q).1 → (wa.setCell ⟨(μ q).1, 0, none⟩ (.pointer (some ⟨(μ r2).1, j2, none⟩))).heap[b]? = wa.heap[b]? := fun b hb' => Go.RowKit.Below.heap_setCell _ _ _ _ hb'
          refine ⟨_, _, _, [.bool true], μ, ⟨rfl, rfl, rfl⟩, rfl, ?_, Nat.le_refl _, fun _ _ => rfl, ?_, rfl, fun j hj => ?_⟩
          · refine Ha.turn (r := q) (o' := .ob T fx [.ptr r2 j2]) (by show mabs m q ≠ none; rw [show mabs m q = some (.ob T fx [x]) from e2]; simp) (fun b hb' _ => hset b hb') ?_
            refine ⟨cur.setIfInBounds 0 (.pointer (some ⟨(μ r2).1, j2, none⟩)), ⟨fz, ?_, h2⟩, by simpa using h3, h4, h5, ?_⟩
            · simp only [World.setCell, Array.getElem?_modify, if_pos, ha1, Option.map_some]
              rfl
            · have hpos : 0 < cur.size := by simp at h4; omega
              refine ⟨by simp; omega, fun j hj => ?_⟩
              have : j = 0 := by simpa using hj
              subst this
              have e5 : ((cur.setIfInBounds 0 (.pointer (some ⟨(μ r2).1, j2, none⟩))).toList.take 1).getD 0 undef = .pointer (some ⟨(μ r2).1, j2, none⟩) := by
                rw [List.getD_eq_getElem?_getD, List.getElem?_take_of_lt (by omega)]
                simp [hpos]
              simp only [List.length_cons, List.length_nil, Nat.zero_add, List.getElem_cons_zero]
              rw [e5]
              exact ⟨.ptr r2 j2 hr2, rfl⟩
          · exact Ka.go rfl rfl rfl (by simp [World.setCell]) fun b hb' => hset b fun e => o2.2.1 (e ▸ hb')
          · have : j = 0 := by simpa using hj
            subst this
            exact .b true
      · cases hk
    · cases hk
  · cases hk

noncomputable def conAs (con : (YT → Fn3) → YT → Fn3) : (YT → Fn3) → YT → Fn3 := fun g y id m args => @Bool.rec (fun _ => RR) (con g y id m args) (kAs m args) (Nat.beq id 52)
theorem conAs_ok {con : (YT → Fn3) → YT → Fn3} (hc : ConOK Tryz.prog con) : ConOK Tryz.prog (conAs con) := by
  intro g hg y hy id m args h1 h2
  have hm := hc g hg y hy id m args h1 h2
  cases e : Nat.beq id 52 with
  | false =>
    have e2 : conAs con g y id m args = con g y id m args := by unfold conAs; rw [e]
    rw [e2]; exact hm
  | true =>
    have e2 : conAs con g y id m args = kAs m args := by unfold conAs; rw [e]
    have e := Nat.eq_of_beq_eq_true e
    subst e
    rw [e2]
    refine ⟨fun zs ups news h => kAs_ok h, fun v dt h => ?_⟩
    exfalso
    unfold kAs at h
    split at h
    · split at h
      · split at h <;> cases h
      · cases h
    · cases h
end Go.Proofs.YtimgjgookgenoaaGreatDoor
