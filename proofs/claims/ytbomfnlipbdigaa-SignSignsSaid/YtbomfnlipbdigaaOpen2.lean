/- Opening an argument that is a struct of two words. -/
import Derived.Test.YtbomfnlipbdigaaOpen
import Derived.ChangeSame
namespace Go.Proofs.Ytbomfnlipbdigaa
set_option linter.unusedVariables false
open Go.RowKit Go.WideShapes Go.ChangeShapes

section
variable {P : Program} {H : Type} {enc : TypeId × Value → H} {W : World}
theorem open_words2 {t e : TypeId} {f0 f1 : Field} {v : Value} {d : DataW H} {p : List MemPlace} {r : Reach} {b0 : Nat} (ht : P.underlying t = some (.struct #[f0, f1])) (he : P.underlying e = some (.int .u64)) (ce : P.cellsOf e = 1) (ct : P.cellsOf t = 2)
    (t0 : f0.type = e) (t1 : f1.type = e) (o0 : f0.offset = 0) (o1 : f1.offset = 1) (hv : Value.okWide P W r b0 t v) (h : DataW.Trod enc P W 0 (fun _ => true) true t v d p) :
    ∃ x y : Nat, v = .agg #[.int .u64 (x : Int), .int .u64 (y : Int)] ∧ x < 18446744073709551616 ∧ y < 18446744073709551616 := by
  obtain ⟨cs, rfl, hsz⟩ := okWide_struct ht hv
  obtain ⟨fuel, hf⟩ := h
  obtain ⟨y0, y1, n, _, hl, ha, hb⟩ := trod_struct2 ht hf
  rw [t0, ce, o0] at ha
  rw [t1, ce, o1] at hb
  rw [ct] at hl
  obtain ⟨a, ea, _, wa⟩ := DataW.trod_int he ha
  obtain ⟨b, eb, _, wb⟩ := DataW.trod_int he hb
  obtain ⟨a1, a2⟩ := word_of_wf wa
  obtain ⟨b1, b2⟩ := word_of_wf wb
  simp only [Value.cells] at hl ea eb
  obtain ⟨l⟩ := cs
  match l, hl with
  | [u, v], _ =>
    simp at ea eb
    subst ea; subst eb
    exact ⟨a.toNat, b.toNat, by rw [← a1, ← b1], a2, b2⟩
end
end Go.Proofs.Ytbomfnlipbdigaa
