/- The law 'greatseal/greatsealtop.TopCert' of the given program answers true whatever it is handed, and what was there lies as it lay: the frame of the proof; no condition. -/
import Derived.Test.YtfpmfegmehbfbaaGreatDoorZ46
import Derived.Test.YtfpmfegmehbfbaaGreatDoorDW
import Derived.Test.YtfpmfegmehbfbaaGreatDoorZ13
import Derived.Test.YtfpmfegmehbfbaaGreatDoorZ35
import Derived.Test.YtfpmfegmehbfbaaGreatDoorZ48
import Derived.Test.YtfpmfegmehbfbaaGreatDoorZ49
import Derived.Test.YtfpmfegmehbfbaaGreatDoorTie
import Derived.Test.YtfpmfegmehbfbaaGreatDoorCards
import Derived.LaidMore
import Derived.Lay
import Derived.SevenTiedAt
import Derived.Stop.Joined
import Derived.ProofKit
import Derived.OpenShut
import Derived.ShutString
import Derived.ChangeOld
import Derived.SizedLaws
namespace Go.Proofs.YtfpmfegmehbfbaaGreatDoor.lawTopCert
open Go.ChangeShapes Go.WideShapes Go.ChangeAt Go.RowKit
open Go.ChangeMaps (open_string shut_string)

set_option linter.unusedVariables false in
set_option maxRecDepth 100000 in
theorem lifted (os : Os) (started : os.Started) (H : Type) (enc : TypeId × Value → H) :
    ReturnsInHanded {} Tryz.checked os 5 .any (fun w args => (Rows.topCertSpec.pre enc Tryz.prog Tryz.f5 Rows.topCertRow.domain false w args ∧ laidMetH Tryz.prog Rows.topCertRow.laid w) ∧ sizedMet enc Tryz.prog Tryz.f5 (OpenSpec.ofChange Rows.topCertSpec) false w args) (Rows.topCertSpec.post enc Tryz.prog Tryz.f5 false true false false) := by
  refine returnsInHanded_of_change_and (C := Tryz.checked) (X := fun w _ => laidMetH Tryz.prog Rows.topCertRow.laid w) (fun _ _ _ hh h => h.of_heap hh) own started (by kernel_rfl) Tryz.func5
    (ChangeSpec.witness_shaped (enc := enc) (C := Tryz.checked) (os := os) (X := fun w _ => laidMetH Tryz.prog Rows.topCertRow.laid w) false (wit os) #[.agg #[.int .i64 0, .string ByteArray.empty, .string ByteArray.empty, .int .u64 0, .slice none 0 0, .int .i64 0, .int .i64 0, .bool false, .int .i64 0, .slice none 0 0, .slice none 0 0, .int .u64 0, .int .u64 0]] 8 (wit_os os)
      (wit_shaped os) (wit_ok os) (wit_pre os H enc) (wit_size os H enc)
      (wit_met os _)) ?_
  intro W base args ds gs before hval0 hW hcnd hsz0 hL _
  have hk := kinds_of hL
  have hval : ∀ (j : Nat) t v, Tryz.f5.params[j]? = some t → args[j]? = some v → Value.okWide Tryz.prog W .any base t v := hval0
  have hsz : (DataW.weightsEach Tryz.prog (Tryz.f5.params.toList ++ Rows.topCertSpec.plain.varTypes Tryz.prog) (ds ++ gs)).all (· ≤ reachBytes) = true := hsz0
  have hW' := hW
  obtain ⟨p, q, hA0, hV, rfl, hfz, hnd⟩ := hW
  have hA : DataW.TrodAll enc Tryz.prog W 0 (fun _ => true) true Tryz.f5.params.toList args.toList ds p := hA0
  rw [Tryz.params5] at hA hval hsz
  obtain ⟨v0, vs0, d0, ds0, p0, q0, hargs, rfl, rfl, h0, r0⟩ := trodAll_cons hA
  obtain ⟨rfl, rfl, rfl⟩ := trodAll_nil r0
  obtain rfl : args = #[v0] := by cases args; simp_all
  obtain ⟨rfl, rfl⟩ := trodVars_none hV
  have k0 := h0
  have lt0 : ∀ x ∈ p0, x.block < W.heap.size := by obtain ⟨m, hm⟩ := k0; exact DataW.trod_lt m _ _ _ hm
  obtain ⟨X0, rfl, w0⟩ := open_cert (hval 0 67 v0 rfl rfl) h0 (fun m hm => by have := List.all_eq_true.1 hsz m (DataW.weights_mem_each (j := 0) rfl rfl m hm); exact of_decide_eq_true this)
  clear hA0 hval0
  refine (walk_TopCert X0  W w0 hk).mono fun e W' ⟨he, hg⟩ => ?_
  subst he
  exact ⟨_, rfl, _, _, _, [], _, [], hW', trodAll_mk1 (shut_bool Tryz.underlying4 _), (trodAll_cons_mk (Below.trod laidOut (by kernel_rfl) (of_decide_eq_true (by kernel_rfl)) k0 (Ext.out hg) lt0) trodAll_mk0), rfl, (Ext.out hg).frame _, fun h => by cases h⟩

theorem over : Rows.topCertRow.holds Tryz.pinned (OpenSpec.ofChange Rows.topCertSpec) :=
  OpenClaim.holds_of_wide 5 Tryz.f5 rfl rfl rfl rfl rfl rfl rfl ⟨rfl, rfl, rfl, rfl, rfl⟩ rfl rfl rfl rfl rfl row_func Tryz.func5 tc_closed
    (of_decide_eq_true (by kernel_rfl)) (by unfold Func.isWrapper; first | (rw [if_pos (by decide +kernel)]; kernel_rfl) | (rw [if_neg (by decide +kernel)]; exact ⟨rfl, rfl⟩))
    (fun os started H enc _ => lifted os started H enc)

/-- The statement: the tied card. -/
theorem proved : Rows.TopCertCardSaid :=
  Claim7.holds_tied_plain_at .later [] [.data, .data, .data, .data, .sentinel, .sentinel, .funcsDeep, .pinned] true (true, "da27024f994a3ac5d2f0612c39ef95a0ccaca23a9cfb07844970c9759870bdce") true over (fun _ h => by cases h) row_wf (fun _ h => by cases h) topCert_row_tie rfl ⟨rfl, rfl⟩ (by kernel_rfl) rfl
    (fun f fn hf hfn => by
      obtain rfl : f = 5 := Option.some.inj ((show Tryz.prog.funcNamed "greatseal/greatsealtop.TopCert" = some 5 by kernel_rfl).symm.trans hf) |>.symm
      obtain rfl : fn = Tryz.f5 := (Option.some.inj (Tryz.func5.symm.trans hfn)).symm
      exact ⟨tc_looks, fun j t ht => by
        rw [Tryz.params5] at ht
        have hm : t ∈ [67] := by simpa using Array.mem_of_getElem? ht
        have hall : ([67].all fun u => !Tryz.prog.wantsStandIn u) = true := by kernel_rfl
        exact (show Tryz.prog.wantsStandIn t = false by simpa using List.all_eq_true.1 hall t hm)⟩)
    tc_goes
#print axioms proved
end Go.Proofs.YtfpmfegmehbfbaaGreatDoor.lawTopCert
