/- The law 'greatseal/greatsealtop.TopLog' of the given program answers true whatever it is handed, and what was there lies as it lay: the frame of the proof; no condition. -/
import Derived.Test.YtfpmfegmehbfbaaGreatDoorV43
import Derived.Test.YtfpmfegmehbfbaaGreatDoorDW
import Derived.Test.YtfpmfegmehbfbaaGreatDoorV13
import Derived.Test.YtfpmfegmehbfbaaGreatDoorV44
import Derived.Test.YtfpmfegmehbfbaaGreatDoorV45
import Derived.Test.YtfpmfegmehbfbaaGreatDoorV42
import Derived.Test.YtfpmfegmehbfbaaGreatDoorTie
import Derived.Test.YtfpmfegmehbfbaaGreatDoorCards
import Derived.LaidMore
import Derived.Lay
import Derived.SevenTiedAt
import Derived.Stop.Joined
import Derived.ProofKit
import Derived.OpenShut
import Derived.ShutString
import Derived.ChangeOld
import Derived.SizedLaws
namespace Go.Proofs.YtfpmfegmehbfbaaGreatDoor.lawTopLog
open Go.ChangeShapes Go.WideShapes Go.ChangeAt Go.RowKit
open Go.ChangeMaps (open_string shut_string)

set_option linter.unusedVariables false in
set_option maxRecDepth 100000 in
theorem lifted (os : Os) (started : os.Started) (H : Type) (enc : TypeId × Value → H) :
    ReturnsInHanded {} Tryz.checked os 4 .any (fun w args => (Rows.topLogSpec.pre enc Tryz.prog Tryz.f4 Rows.topLogRow.domain false w args ∧ laidMetH Tryz.prog Rows.topLogRow.laid w) ∧ sizedMet enc Tryz.prog Tryz.f4 (OpenSpec.ofChange Rows.topLogSpec) false w args) (Rows.topLogSpec.post enc Tryz.prog Tryz.f4 false true false false) := by
  refine returnsInHanded_of_change_and (C := Tryz.checked) (X := fun w _ => laidMetH Tryz.prog Rows.topLogRow.laid w) (fun _ _ _ hh h => h.of_heap hh) own started (by kernel_rfl) Tryz.func4
    (ChangeSpec.witness_shaped (enc := enc) (C := Tryz.checked) (os := os) (X := fun w _ => laidMetH Tryz.prog Rows.topLogRow.laid w) false (wit os) #[.slice none 0 0, .slice none 0 0] 8 (wit_os os)
      (wit_shaped os) (wit_ok os) (wit_pre os H enc) (wit_size os H enc)
      (wit_met os _)) ?_
  intro W base args ds gs before hval0 hW hcnd hsz0 hL _
  have hk := kinds_of hL
  have hT := tab_of (d := Rows.laid_math_bits_deBruijn64tab) hL (List.mem_of_getElem? (i := 1) (by kernel_rfl)) (by kernel_rfl)
  have hval : ∀ (j : Nat) t v, Tryz.f4.params[j]? = some t → args[j]? = some v → Value.okWide Tryz.prog W .any base t v := hval0
  have hsz : (DataW.weightsEach Tryz.prog (Tryz.f4.params.toList ++ Rows.topLogSpec.plain.varTypes Tryz.prog) (ds ++ gs)).all (· ≤ reachBytes) = true := hsz0
  have hW' := hW
  obtain ⟨p, q, hA0, hV, rfl, hfz, hnd⟩ := hW
  have hA : DataW.TrodAll enc Tryz.prog W 0 (fun _ => true) true Tryz.f4.params.toList args.toList ds p := hA0
  rw [Tryz.params4] at hA hval hsz
  obtain ⟨v0, vs0, d0, ds0, p0, q0, hargs, rfl, rfl, h0, r0⟩ := trodAll_cons hA
  obtain ⟨v1, vs1, d1, ds1, p1, q1, rfl, rfl, rfl, h1, r1⟩ := trodAll_cons r0
  obtain ⟨rfl, rfl, rfl⟩ := trodAll_nil r1
  obtain rfl : args = #[v0, v1] := by cases args; simp_all
  obtain ⟨rfl, rfl⟩ := trodVars_none hV
  have k0 := h0
  have lt0 : ∀ x ∈ p0, x.block < W.heap.size := by obtain ⟨m, hm⟩ := k0; exact DataW.trod_lt m _ _ _ hm
  have k1 := h1
  have lt1 : ∀ x ∈ p1, x.block < W.heap.size := by obtain ⟨m, hm⟩ := k1; exact DataW.trod_lt m _ _ _ hm
  obtain ⟨A0, l0, c0, rfl⟩ := okWide_slice Tryz.underlying22 (hval 0 22 v0 rfl rfl)
  obtain ⟨y0, rfl, u0, t0, w0, g0⟩ := open_bytes Tryz.underlying22 Tryz.underlying5 (by kernel_rfl) h0
  have b0 : c0 ≤ 140737488351232 := by have := cap_reach hsz (j := 0) (t := 22) rfl rfl Tryz.underlying22 (show Tryz.prog.bytesOf 5 = 1 by kernel_rfl) g0; omega
  obtain ⟨A1, l1, c1, rfl⟩ := okWide_slice Tryz.underlying23 (hval 1 23 v1 rfl rfl)
  obtain ⟨y1, rfl, u1, t1, w1, g1, m1⟩ := open_parts Tryz.underlying23 Tryz.underlying22 Tryz.underlying5 (by kernel_rfl) (by kernel_rfl) (by kernel_rfl) h1
  have b1 : c1 * 24 ≤ 140737488351232 := by have := cap_reach hsz (j := 1) (t := 23) rfl rfl Tryz.underlying23 (show Tryz.prog.bytesOf 22 = 24 by kernel_rfl) g1; omega
  have z1 : ∀ p ∈ y1, p.length ≤ 140737488351232 := fun p hp => by obtain ⟨m, hm, hle⟩ := m1 p hp; have := List.all_eq_true.1 hsz m (DataW.weights_mem_each (j := 1) rfl rfl m hm); simp only [reachBytes] at this; have := of_decide_eq_true this; omega
  clear hA0 hval0
  refine (walk_TopLog A0 c0 y0 A1 c1 y1 u0 b0 t0 u1 b1 z1 t1 W w0 w1 hk hT).mono fun e W' ⟨he, hg⟩ => ?_
  subst he
  exact ⟨_, rfl, _, _, _, [], _, [], hW', trodAll_mk1 (shut_bool Tryz.underlying4 _), (trodAll_cons_mk (Below.trod laidOut (by kernel_rfl) (of_decide_eq_true (by kernel_rfl)) k0 (Ext.out hg) lt0) (trodAll_cons_mk (Below.trod laidOut (by kernel_rfl) (of_decide_eq_true (by kernel_rfl)) k1 (Ext.out hg) lt1) trodAll_mk0)), rfl, (Ext.out hg).frame _, fun h => by cases h⟩

theorem over : Rows.topLogRow.holds Tryz.pinned (OpenSpec.ofChange Rows.topLogSpec) :=
  OpenClaim.holds_of_wide 4 Tryz.f4 rfl rfl rfl rfl rfl rfl rfl ⟨rfl, rfl, rfl, rfl, rfl⟩ rfl rfl rfl rfl rfl (by kernel_rfl) Tryz.func4 tl_closed
    (of_decide_eq_true (by kernel_rfl)) (by unfold Func.isWrapper; first | (rw [if_pos (by decide +kernel)]; kernel_rfl) | (rw [if_neg (by decide +kernel)]; exact ⟨rfl, rfl⟩))
    (fun os started H enc _ => lifted os started H enc)

/-- The statement: the tied card. -/
theorem proved : Rows.TopLogCardSaid :=
  Claim7.holds_tied_plain_at .later [] [.data, .data, .data, .data, .sentinel, .sentinel, .funcsDeep, .pinned] true (true, "da27024f994a3ac5d2f0612c39ef95a0ccaca23a9cfb07844970c9759870bdce") true over (fun _ h => by cases h) row_wf (fun _ h => by cases h) topLog_row_tie rfl ⟨rfl, rfl⟩ (by kernel_rfl) rfl
    (fun f fn hf hfn => by
      obtain rfl : f = 4 := Option.some.inj ((show Tryz.prog.funcNamed "greatseal/greatsealtop.TopLog" = some 4 by kernel_rfl).symm.trans hf) |>.symm
      obtain rfl : fn = Tryz.f4 := (Option.some.inj (Tryz.func4.symm.trans hfn)).symm
      exact ⟨tl_looks, fun j t ht => by
        rw [Tryz.params4] at ht
        have hm : t ∈ [22, 23] := by simpa using Array.mem_of_getElem? ht
        have hall : ([22, 23].all fun u => !Tryz.prog.wantsStandIn u) = true := by kernel_rfl
        exact (show Tryz.prog.wantsStandIn t = false by simpa using List.all_eq_true.1 hall t hm)⟩)
    tl_goes
#print axioms proved
end Go.Proofs.YtfpmfegmehbfbaaGreatDoor.lawTopLog
