
/- A slice of ints that came in stays one where no old block changes. -/
import Derived.Test.YtkjibmfggeibjaaSrc
namespace Go.Proofs.Ytkjibmfggeibjaa
open Go.RowKit
theorem ArgInts.kept {w w' : World} {a : Option Addr} {len cap : Nat} (h : ArgInts w a len cap) (k : Kept w w') : ArgInts w' a len cap := by
  obtain ⟨h1, h2, h3⟩ := h
  refine ⟨h1, h2, fun hp => ?_⟩
  obtain ⟨b, o, e, hb, hr⟩ := h3 hp
  refine ⟨b, o, e, Nat.lt_of_lt_of_le hb k.size, fun i hi => ?_⟩
  obtain ⟨v, hv, hc⟩ := hr i hi
  exact ⟨v, hv, by rw [kcell1 k hb]; exact hc⟩
theorem RowOf.drew {w : World} {b o len : Nat} {Q : Value → Prop} (h : RowOf w b o len Q) : RowOf w.drew b o len Q := h
end Go.Proofs.Ytkjibmfggeibjaa
