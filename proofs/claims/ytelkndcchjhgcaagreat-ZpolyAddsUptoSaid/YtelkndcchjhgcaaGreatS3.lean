/- The slim forms of functions, written by a program; each is checked by the kernel. -/
import Derived.Test.YtelkndcchjhgcaaGreatVB
import Derived.Test.YtelkndcchjhgcaaGreatProg
import Derived.KernelRfl
set_option maxRecDepth 100000
namespace Go.Vw
open Go.Proofs
/-- prime.Rest -/
abbrev f_prime_Rest : Nat := 95
def sc_prime_Rest : SC := (.seq (.reg [⟨(some 2), (.box 25 (.t 0)), none⟩, ⟨(some 3), (.box 25 (.t 1)), none⟩, ⟨(some 4), (.alloc 25 [(.b .false), (.sl none [])]), none⟩, ⟨(some 5), (.mv (.c (.i .i64 0))), none⟩]) (.seq (.seq (.reg [⟨(some 9), (.load (some 2) (.t 3)), none⟩, ⟨(some 10), (.call (.f 49) [(.t 9)]), none⟩, ⟨(some 11), (.bin .leq (.t 10) (.c (.i .i64 0))), none⟩]) (.cond (.t 11) (.seq (.reg [⟨(some 12), (.build [(.b .false), (.sl none [])] []), none⟩, ⟨none, (.store (some 2) (.t 4) (.t 12)), none⟩, ⟨(some 5), (.mv (.c (.i .i64 1))), none⟩]) .ret) .skip)) (.seq (.reg [⟨(some 14), (.load (some 2) (.t 2)), none⟩, ⟨(some 15), (.load (some 2) (.t 3)), none⟩, ⟨(some 16), (.call (.f 103) [(.t 14), (.t 15)]), none⟩, ⟨(some 13), (.mv (.t 16)), none⟩, ⟨(some 17), (.extract (.t 13) 0), none⟩, ⟨(some 18), (.extract (.t 13) 1), none⟩, ⟨(some 19), (.extract (.t 13) 2), none⟩, ⟨(some 6), (.alloc 25 [(.b .false), (.sl none [])]), none⟩, ⟨(some 7), (.alloc 25 [(.b .false), (.sl none [])]), none⟩, ⟨none, (.store (some 2) (.t 6) (.t 17)), none⟩, ⟨none, (.store (some 2) (.t 7) (.t 18)), none⟩, ⟨(some 8), (.mv (.t 19)), none⟩]) (.seq (.reg [⟨(some 20), (.load (some 2) (.t 7)), none⟩, ⟨none, (.store (some 2) (.t 4) (.t 20)), none⟩, ⟨(some 5), (.mv (.c (.i .i64 0))), none⟩]) .ret))))
theorem ok_prime_Rest : slimF Tryz.prog Tryz.f95 = some (21, sc_prime_Rest, [(.cell 4 (some 2)), (.tmp 5)]) := by kernel_rfl
end Go.Vw
