/- The hash that bytes are, walked: hash.Of. -/
import Derived.Test.YtbomfnlipbdigaaHaRefN
namespace Go.Proofs.Ytbomfnlipbdigaa
set_option linter.unusedVariables false
open Go.RowKit Go.Shelf

theorem Reads.get {w : World} {B n : Nat} {A : Option Addr} {l : List Nat} (h : Reads w B 1 A n (bv l)) {k b : Nat} (hb : l[k]? = some b) (ad : Addr) (hA : A = some ad) (hn : 0 < n) : w.cell? (ad.add k) = some (.int .u8 (b : Int)) := by
  obtain ⟨ad', e, _, hc⟩ := h.2 hn
  rw [hA] at e
  cases e
  exact hc k _ (by simp [bv, hb])

end Go.Proofs.Ytbomfnlipbdigaa
