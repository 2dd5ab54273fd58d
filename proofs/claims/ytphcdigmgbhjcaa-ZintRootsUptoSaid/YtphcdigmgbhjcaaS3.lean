/- The slim forms of functions, written by a program; each is checked by the kernel. -/
import Derived.Test.YtphcdigmgbhjcaaVB
import Derived.Test.YtphcdigmgbhjcaaProg
import Derived.KernelRfl
set_option maxRecDepth 100000
namespace Go.Vw
open Go.Proofs
/-- internal/stringslite.CutPrefix -/
abbrev f_stringslite_CutPrefix : Nat := 171
def sc_stringslite_CutPrefix : SC := (.seq (.reg [⟨(some 4), (.mv (.c (.s ⟨⟨[]⟩⟩))), none⟩, ⟨(some 5), (.mv (.c (.b .false))), none⟩]) (.seq (.seq (.reg [⟨(some 6), (.mv (.t 0)), none⟩, ⟨(some 7), (.mv (.t 1)), none⟩, ⟨(some 8), (.call (.f 177) [(.t 6), (.t 7)]), none⟩, ⟨(some 9), (.un .not (.t 8)), none⟩]) (.cond (.t 9) (.seq (.reg [⟨(some 10), (.mv (.t 0)), none⟩, ⟨(some 4), (.mv (.t 10)), none⟩, ⟨(some 5), (.mv (.c (.b .false))), none⟩]) .ret) .skip)) (.seq (.reg [⟨(some 11), (.mv (.t 0)), none⟩, ⟨(some 12), (.mv (.t 1)), none⟩, ⟨(some 13), (.len .true (.t 12)), none⟩, ⟨(some 14), (.slice none (.t 11) (some (.t 13)) none), none⟩, ⟨(some 4), (.mv (.t 14)), none⟩, ⟨(some 5), (.mv (.c (.b .true))), none⟩]) .ret)))
theorem ok_stringslite_CutPrefix : slimF Try.prog Try.f171 = some (15, sc_stringslite_CutPrefix, [(.tmp 4), (.tmp 5)]) := by kernel_rfl
/-- internal/stringslite.HasPrefix -/
abbrev f_stringslite_HasPrefix : Nat := 177
def sc_stringslite_HasPrefix : SC := (.seq (.reg [⟨(some 4), (.mv (.c (.b .false))), none⟩]) (.seq (.reg [⟨(some 5), (.mv (.t 0)), none⟩, ⟨(some 6), (.len .true (.t 5)), none⟩, ⟨(some 7), (.mv (.t 1)), none⟩, ⟨(some 8), (.len .true (.t 7)), none⟩, ⟨(some 9), (.bin .geq (.t 6) (.t 8)), none⟩, ⟨(some 10), (.mv (.t 9)), none⟩, ⟨(some 11), (.mv (.t 0)), (some (10, .true))⟩, ⟨(some 12), (.mv (.t 1)), (some (10, .true))⟩, ⟨(some 13), (.len .true (.t 12)), (some (10, .true))⟩, ⟨(some 14), (.slice none (.t 11) none (some (.t 13))), (some (10, .true))⟩, ⟨(some 15), (.mv (.t 1)), (some (10, .true))⟩, ⟨(some 16), (.bin .eql (.t 14) (.t 15)), (some (10, .true))⟩, ⟨(some 17), (.pick (.t 10) (.t 16) (.c (.b .false))), none⟩, ⟨(some 4), (.mv (.t 17)), none⟩]) .ret))
theorem ok_stringslite_HasPrefix : slimF Try.prog Try.f177 = some (18, sc_stringslite_HasPrefix, [(.tmp 4)]) := by kernel_rfl
end Go.Vw
