/- The slim forms of functions, written by a program; each is checked by the kernel. -/
import Derived.Test.YtphcdigmgbhjcaaGreatVB
import Derived.Test.YtphcdigmgbhjcaaGreatProg
import Derived.KernelRfl
set_option maxRecDepth 100000
namespace Go.Vw
open Go.Proofs
/-- internal/stringslite.IndexByte -/
abbrev f_stringslite_IndexByte : Nat := 160
def sc_stringslite_IndexByte : SC := (.seq (.reg [⟨(some 4), (.mv (.c (.i .i64 0))), none⟩]) (.seq (.reg [⟨(some 5), (.mv (.t 0)), none⟩, ⟨(some 6), (.mv (.t 1)), none⟩, ⟨(some 7), (.call (.f 167) [(.t 5), (.t 6)]), none⟩, ⟨(some 4), (.mv (.t 7)), none⟩]) .ret))
theorem ok_stringslite_IndexByte : slimF Tryz.prog Tryz.f160 = some (8, sc_stringslite_IndexByte, [(.tmp 4)]) := by kernel_rfl
end Go.Vw
