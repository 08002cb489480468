/- TopCert: the witness, and what the condition gives. -/
import Derived.Test.YtfpmfegmehbfbaaGreatDoorZ13
import Derived.Test.YtfpmfegmehbfbaaGreatDoorZ35
import Derived.Test.YtfpmfegmehbfbaaGreatDoorZ48
import Derived.Test.YtfpmfegmehbfbaaGreatDoorZ49
import Derived.Test.YtfpmfegmehbfbaaGreatDoorTie
import Derived.Test.YtfpmfegmehbfbaaGreatDoorCards
import Derived.LaidMore
import Derived.Lay
import Derived.SevenTiedAt
import Derived.Stop.Joined
import Derived.ProofKit
import Derived.OpenShut
import Derived.ShutString
import Derived.ChangeOld
import Derived.SizedLaws
namespace Go.Proofs.YtfpmfegmehbfbaaGreatDoor.lawTopCert
open Go.ChangeShapes Go.WideShapes Go.ChangeAt Go.RowKit
open Go.ChangeMaps (open_string shut_string)

theorem own : ownKnob Tryz.prog.godebug = none := by kernel_rfl
theorem laidOut : laidOutB Tryz.prog = true := by kernel_rfl

/-- The listed plain data. -/
noncomputable def plain : List (String × DataW Unit) := Rows.topCertRow.laid.filter fun x => x.2.handleName?.isNone
/-- The settled world, the package's kinds laid in it. -/
noncomputable def wit0 (os : Os) : World := { World.holding Tryz.prog os ⟨#[], #[], []⟩ with heap := (World.holding Tryz.prog os ⟨#[], #[], []⟩).heap.setIfInBounds 2 (.cells #[.int .i64 1, .func (.func 366) #[] #[], .int .i64 2, .func (.func 110) #[] #[], .int .i64 4, .func (.func 367) #[] #[], .int .i64 12, .func (.func 368) #[] #[], .int .i64 48, .func (.func 371) #[] #[]] 326 (0, 0)) }
noncomputable def wit (os : Os) : World := (wit0 os).layVars Tryz.prog plain
theorem wit_os (os : Os) : (wit os).os = os := World.layVars_os _ _ _
theorem laidMet_lay {P : Program} {w0 : World} {laid : List (String × DataW Unit)} (args : Array Value) (hf : w0.layFits P laid [] = true) (hi : w0.layIfaces P laid (w0.layVars P laid) = true) :
    laidMet P laid ((w0.layVars P laid).forCall (fun _ _ => 0) ⟨#[], args, []⟩).memory := by
  have e1 : (laid.filter fun x => (laid.map (·.1)).contains x.1) = laid := List.filter_eq_self.2 fun x hx => List.contains_iff_mem.2 (List.mem_map.2 ⟨x, hx, rfl⟩)
  have e2 : (laid.filter fun x => !(laid.map (·.1)).contains x.1) = [] := List.filter_eq_nil_iff.2 fun x hx => by rw [List.contains_iff_mem.2 (List.mem_map.2 ⟨x, hx, rfl⟩)]; simp
  have h : laidMet P laid (w0.layVars P laid) := laidMet_layVars (w0 := w0) (laid.map (·.1)) [] (by rw [e1]) (by rw [e1]; exact hf) (by rw [e1]; exact hi) (by rw [e2]; exact LaidIn.none)
  exact h.of_heap (by simp [World.memory, World.forCall, Input.heap])
theorem wit_met (os : Os) (args : Array Value) : laidMetH Tryz.prog Rows.topCertRow.laid ((wit os).forCall (fun _ _ => 0) ⟨#[], args, []⟩).memory :=
  laidMetH_of_parts3 (fuel := 8) (laidMet_lay (laid := plain) args (by kernel_rfl) (by kernel_rfl)) (by kernel_rfl) (by kernel_rfl)
/-- The table's datum. -/
def kindsD : DataW Unit := match (Rows.laid_greatseal_der_kinds : DataW Unit) with
  | .iface _ d => d
  | x => x
theorem kinds_of {W : World} (h : laidMetH Tryz.prog Rows.topCertRow.laid W) : KindsW W :=
  kin_of (h.funcs (n := "greatseal/der.kinds") (d := kindsD) (List.mem_of_getElem? (i := 6) (by kernel_rfl)))
    (show kindsD.funcsOut = .agg [.agg [.lit (.int .i64 1), .held (103 :: [114, 101, 97, 116, 115, 101, 97, 108, 47, 100, 101, 114, 46, 107, 105, 110, 100, 115, 36, 49])], .agg [.lit (.int .i64 2), .held (103 :: [114, 101, 97, 116, 115, 101, 97, 108, 47, 100, 101, 114, 46, 108, 101, 97, 115, 116])], .agg [.lit (.int .i64 4), .held (103 :: [114, 101, 97, 116, 115, 101, 97, 108, 47, 100, 101, 114, 46, 107, 105, 110, 100, 115, 36, 50])], .agg [.lit (.int .i64 12), .held (103 :: [114, 101, 97, 116, 115, 101, 97, 108, 47, 100, 101, 114, 46, 107, 105, 110, 100, 115, 36, 51])], .agg [.lit (.int .i64 48), .held (103 :: [114, 101, 97, 116, 115, 101, 97, 108, 47, 100, 101, 114, 46, 107, 105, 110, 100, 115, 36, 52])]] by kernel_rfl) (by kernel_rfl) (by kernel_rfl) (by kernel_rfl) (by kernel_rfl) (by kernel_rfl)

set_option maxRecDepth 100000 in
theorem wit_shaped (os : Os) : ((wit os).forCall (fun _ _ => 0) ⟨#[], #[.agg #[.int .i64 0, .string ByteArray.empty, .string ByteArray.empty, .int .u64 0, .slice none 0 0, .int .i64 0, .int .i64 0, .bool false, .int .i64 0, .slice none 0 0, .slice none 0 0, .int .u64 0, .int .u64 0]], []⟩).Shaped Tryz.prog := World.shaped_of_ZipB (by kernel_rfl) (by kernel_rfl)
theorem wit_ok (os : Os) : Input.okWideB Tryz.prog ((wit os).forCall (fun _ _ => 0) ⟨#[], #[.agg #[.int .i64 0, .string ByteArray.empty, .string ByteArray.empty, .int .u64 0, .slice none 0 0, .int .i64 0, .int .i64 0, .bool false, .int .i64 0, .slice none 0 0, .slice none 0 0, .int .u64 0, .int .u64 0]], []⟩) 5 ⟨#[], #[.agg #[.int .i64 0, .string ByteArray.empty, .string ByteArray.empty, .int .u64 0, .slice none 0 0, .int .i64 0, .int .i64 0, .bool false, .int .i64 0, .slice none 0 0, .slice none 0 0, .int .u64 0, .int .u64 0]], []⟩ = true := by kernel_rfl
theorem wit_pre (os : Os) (H : Type) (enc : TypeId × Value → H) : Rows.topCertSpec.preB enc Tryz.prog Tryz.f5 Rows.topCertRow.domain false ((wit os).forCall (fun _ _ => 0) ⟨#[], #[.agg #[.int .i64 0, .string ByteArray.empty, .string ByteArray.empty, .int .u64 0, .slice none 0 0, .int .i64 0, .int .i64 0, .bool false, .int .i64 0, .slice none 0 0, .slice none 0 0, .int .u64 0, .int .u64 0]], []⟩).memory #[.agg #[.int .i64 0, .string ByteArray.empty, .string ByteArray.empty, .int .u64 0, .slice none 0 0, .int .i64 0, .int .i64 0, .bool false, .int .i64 0, .slice none 0 0, .slice none 0 0, .int .u64 0, .int .u64 0]] 8 = true := by kernel_rfl
theorem wit_size (os : Os) (H : Type) (enc : TypeId × Value → H) : Rows.topCertSpec.sizedB enc Tryz.prog Tryz.f5 false ((wit os).forCall (fun _ _ => 0) ⟨#[], #[.agg #[.int .i64 0, .string ByteArray.empty, .string ByteArray.empty, .int .u64 0, .slice none 0 0, .int .i64 0, .int .i64 0, .bool false, .int .i64 0, .slice none 0 0, .slice none 0 0, .int .u64 0, .int .u64 0]], []⟩).memory #[.agg #[.int .i64 0, .string ByteArray.empty, .string ByteArray.empty, .int .u64 0, .slice none 0 0, .int .i64 0, .int .i64 0, .bool false, .int .i64 0, .slice none 0 0, .slice none 0 0, .int .u64 0, .int .u64 0]] 8 = true := by kernel_rfl
theorem row_wf : Rows.topCertRow.wfByText (OpenSpec.ofChange Rows.topCertSpec) = true := by kernel_rfl
theorem row_func : Tryz.pinned.checked.prog.funcNamed Rows.topCertRow.func = some 5 := by kernel_rfl
end Go.Proofs.YtfpmfegmehbfbaaGreatDoor.lawTopCert
