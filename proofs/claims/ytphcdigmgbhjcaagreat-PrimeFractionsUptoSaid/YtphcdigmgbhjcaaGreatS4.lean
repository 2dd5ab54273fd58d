/- The slim forms of functions, written by a program; each is checked by the kernel. -/
import Derived.Test.YtphcdigmgbhjcaaGreatVB
import Derived.Test.YtphcdigmgbhjcaaGreatProg
import Derived.KernelRfl
set_option maxRecDepth 100000
namespace Go.Vw
open Go.Proofs
/-- prime.Is -/
abbrev f_prime_Is : Nat := 94
def sc_prime_Is : SC := (.seq (.reg [⟨(some 2), (.mv (.c (.b .false))), none⟩]) (.scope (.seq (.reg [⟨(some 5), (.mv (.t 0)), none⟩, ⟨(some 6), (.bin .geq (.t 5) (.c (.i .i64 2))), none⟩, ⟨(some 7), (.mv (.t 6)), none⟩, ⟨(some 8), (.mv (.t 0)), (some (7, .true))⟩, ⟨(some 9), (.bin .leq (.t 8) (.c (.i .i64 65521))), (some (7, .true))⟩, ⟨(some 10), (.pick (.t 7) (.t 9) (.c (.b .false))), none⟩, ⟨(some 3), (.mv (.t 10)), none⟩]) (.seq .skip (.seq (.seq (.reg [⟨(some 4), (.mv (.c (.i .i64 2))), none⟩]) (.block 0 (.loop (.seq (.seq (.reg [⟨(some 11), (.mv (.t 3)), none⟩, ⟨(some 12), (.mv (.t 11)), none⟩, ⟨(some 13), (.mv (.t 4)), (some (12, .true))⟩, ⟨(some 14), (.mv (.t 4)), (some (12, .true))⟩, ⟨(some 15), (.bin .mul (.t 13) (.t 14)), (some (12, .true))⟩, ⟨(some 16), (.mv (.t 0)), (some (12, .true))⟩, ⟨(some 17), (.bin .leq (.t 15) (.t 16)), (some (12, .true))⟩, ⟨(some 18), (.pick (.t 12) (.t 17) (.c (.b .false))), none⟩]) (.cond (.t 18) .skip (.exit 0))) (.seq (.block 1 (.seq (.reg [⟨(some 21), (.mv (.t 0)), none⟩, ⟨(some 22), (.mv (.t 4)), none⟩, ⟨(some 23), (.bin .rem (.t 21) (.t 22)), none⟩, ⟨(some 24), (.bin .eql (.t 23) (.c (.i .i64 0))), none⟩]) (.cond (.t 24) (.seq (.reg [⟨(some 3), (.mv (.c (.b .false))), none⟩]) (.exit 0)) .skip))) (.reg [⟨(some 19), (.mv (.t 4)), none⟩, ⟨(some 20), (.bin .add (.t 19) (.c (.i .i64 1))), none⟩, ⟨(some 4), (.mv (.t 20)), none⟩])))))) (.seq (.reg [⟨(some 25), (.mv (.t 3)), none⟩, ⟨(some 2), (.mv (.t 25)), none⟩]) .ret))))))
theorem ok_prime_Is : slimF Tryz.prog Tryz.f94 = some (26, sc_prime_Is, [(.tmp 2)]) := by kernel_rfl
end Go.Vw
