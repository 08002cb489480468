/- The law 'greatseal/greatseallaw06.QuorumCombines' of the given program answers true whatever it is handed, and what was there lies as it lay: the frame of the proof; no condition. -/
import Derived.Test.YtiecfamjnnmpaaaGreatR20
import Derived.Test.YtiecfamjnnmpaaaGreatR21
import Derived.Test.YtiecfamjnnmpaaaGreatR22
import Derived.ProofKit
import Derived.OpenShut
import Derived.ShutString
import Derived.ChangeOld
import Derived.SizedLaws
namespace Go.Proofs.YtiecfamjnnmpaaaGreat.lawQuorumCombines
open Go.ChangeShapes Go.WideShapes Go.ChangeAt Go.RowKit
open Go.ChangeMaps (open_string shut_string)

theorem own : ownKnob Tryz.prog.godebug = none := by kernel_rfl
theorem laidOut : laidOutB Tryz.prog = true := by kernel_rfl

set_option linter.unusedVariables false in
set_option maxRecDepth 100000 in
theorem lifted (os : Os) (started : os.Started) (H : Type) (enc : TypeId × Value → H) :
    ReturnsInHanded {} Tryz.checked os 5 .any (Rows.quorumCombinesSpec.pre6 enc Tryz.prog Tryz.f5 Rows.quorumCombinesRow.domain false) (Rows.quorumCombinesSpec.post enc Tryz.prog Tryz.f5 false true false false) := by
  refine returnsInHanded_of_change_sized (C := Tryz.checked) own started (by kernel_rfl) Tryz.func5
    (ChangeSpec.witness6 (enc := enc) (C := Tryz.checked) false ⟨#[], #[.agg #[.int .i64 0, .int .i64 0, .int .u64 0, .slice none 0 0], .slice none 0 0, .slice none 0 0, .slice none 0 0], []⟩ 8 (by kernel_rfl) (by kernel_rfl) (by kernel_rfl) (by kernel_rfl)) ?_
  intro W base args ds gs before hval0 hW hcnd hsz0 _
  have hval : ∀ (j : Nat) t v, Tryz.f5.params[j]? = some t → args[j]? = some v → Value.okWide Tryz.prog W .any base t v := hval0
  have hsz : (DataW.weightsEach Tryz.prog (Tryz.f5.params.toList ++ Rows.quorumCombinesSpec.plain.varTypes Tryz.prog) (ds ++ gs)).all (· ≤ reachBytes) = true := hsz0
  have hW' := hW
  obtain ⟨p, q, hA0, hV, rfl, hfz, hnd⟩ := hW
  have hA : DataW.TrodAll enc Tryz.prog W 0 (fun _ => true) true Tryz.f5.params.toList args.toList ds p := hA0
  rw [Tryz.params5] at hA hval hsz
  obtain ⟨v0, vs0, d0, ds0, p0, q0, hargs, rfl, rfl, h0, r0⟩ := trodAll_cons hA
  obtain ⟨v1, vs1, d1, ds1, p1, q1, rfl, rfl, rfl, h1, r1⟩ := trodAll_cons r0
  obtain ⟨v2, vs2, d2, ds2, p2, q2, rfl, rfl, rfl, h2, r2⟩ := trodAll_cons r1
  obtain ⟨v3, vs3, d3, ds3, p3, q3, rfl, rfl, rfl, h3, r3⟩ := trodAll_cons r2
  obtain ⟨rfl, rfl, rfl⟩ := trodAll_nil r3
  obtain rfl : args = #[v0, v1, v2, v3] := by cases args; simp_all
  obtain ⟨rfl, rfl⟩ := trodVars_none hV
  have k0 := h0
  have lt0 : ∀ x ∈ p0, x.block < W.heap.size := by obtain ⟨m, hm⟩ := k0; exact DataW.trod_lt m _ _ _ hm
  have k1 := h1
  have lt1 : ∀ x ∈ p1, x.block < W.heap.size := by obtain ⟨m, hm⟩ := k1; exact DataW.trod_lt m _ _ _ hm
  have k2 := h2
  have lt2 : ∀ x ∈ p2, x.block < W.heap.size := by obtain ⟨m, hm⟩ := k2; exact DataW.trod_lt m _ _ _ hm
  have k3 := h3
  have lt3 : ∀ x ∈ p3, x.block < W.heap.size := by obtain ⟨m, hm⟩ := k3; exact DataW.trod_lt m _ _ _ hm
  obtain ⟨x0, y0, z0, A0, c0, l0, rfl, bx0, by0, bz0, bc0, bw0, bv0_, w0⟩ := open_crew Tryz.underlying26 Tryz.underlying3 Tryz.underlying3 Tryz.underlying23 Tryz.underlying24 (by kernel_rfl) (by kernel_rfl) (by kernel_rfl) (by kernel_rfl) (by kernel_rfl) rfl rfl rfl rfl Tryz.underlying37 (by kernel_rfl) rfl rfl (by kernel_rfl) (by kernel_rfl) Tryz.underlying3 Tryz.underlying23 (hval 0 26 v0 rfl rfl) h0
  obtain ⟨A1, l1, c1, rfl⟩ := okWide_slice Tryz.underlying22 (hval 1 22 v1 rfl rfl)
  obtain ⟨y1, rfl, u1, t1, w1, g1⟩ := open_bytes Tryz.underlying22 Tryz.underlying5 (by kernel_rfl) h1
  have b1 : c1 ≤ 140737488351232 := by have := cap_reach hsz (j := 1) (t := 22) rfl rfl Tryz.underlying22 (show Tryz.prog.bytesOf 5 = 1 by kernel_rfl) g1; omega
  obtain ⟨A2, l2, c2, rfl⟩ := okWide_slice Tryz.underlying24 (hval 2 24 v2 rfl rfl)
  obtain ⟨y2, rfl, u2, t2, v2_, w2, g2⟩ := open_shares Tryz.underlying24 Tryz.underlying37 (by kernel_rfl) rfl rfl (by kernel_rfl) (by kernel_rfl) Tryz.underlying3 Tryz.underlying23 h2
  have b2 : c2 * 16 ≤ 140737488351232 := by have := cap_reach hsz (j := 2) (t := 24) rfl rfl Tryz.underlying24 (show Tryz.prog.bytesOf 37 = 16 by kernel_rfl) g2; omega
  obtain ⟨A3, l3, c3, rfl⟩ := okWide_slice Tryz.underlying24 (hval 3 24 v3 rfl rfl)
  obtain ⟨y3, rfl, u3, t3, v3_, w3, g3⟩ := open_shares Tryz.underlying24 Tryz.underlying37 (by kernel_rfl) rfl rfl (by kernel_rfl) (by kernel_rfl) Tryz.underlying3 Tryz.underlying23 h3
  have b3 : c3 * 16 ≤ 140737488351232 := by have := cap_reach hsz (j := 3) (t := 24) rfl rfl Tryz.underlying24 (show Tryz.prog.bytesOf 37 = 16 by kernel_rfl) g3; omega
  clear hA0 hval0
  refine (walk_QuorumCombines x0 y0 z0 A0 c0 l0 A1 c1 y1 A2 c2 y2 A3 c3 y3 bx0 by0 bz0 bc0 bw0 bv0_ u1 b1 t1 u2 b2 t2 v2_ u3 b3 t3 v3_ W w0 w1 w2 w3).mono fun e W' ⟨he, hg⟩ => ?_
  subst he
  exact ⟨_, rfl, _, _, _, [], _, [], hW', trodAll_mk1 (shut_bool Tryz.underlying4 _), (trodAll_cons_mk (Below.trod laidOut (by kernel_rfl) (of_decide_eq_true (by kernel_rfl)) k0 (Ext.out hg) lt0) (trodAll_cons_mk (Below.trod laidOut (by kernel_rfl) (of_decide_eq_true (by kernel_rfl)) k1 (Ext.out hg) lt1) (trodAll_cons_mk (Below.trod laidOut (by kernel_rfl) (of_decide_eq_true (by kernel_rfl)) k2 (Ext.out hg) lt2) (trodAll_cons_mk (Below.trod laidOut (by kernel_rfl) (of_decide_eq_true (by kernel_rfl)) k3 (Ext.out hg) lt3) trodAll_mk0)))), rfl, (Ext.out hg).frame _, fun h => by cases h⟩

theorem over : Rows.quorumCombinesRow.holds Tryz.pinned (OpenSpec.ofChange Rows.quorumCombinesSpec) :=
  OpenClaim.holds_of_wide 5 Tryz.f5 rfl rfl rfl rfl rfl rfl rfl ⟨rfl, rfl, rfl, rfl, rfl⟩ rfl rfl rfl rfl rfl (by kernel_rfl) Tryz.func5 (by kernel_rfl)
    (of_decide_eq_true (by kernel_rfl)) (by unfold Func.isWrapper; first | (rw [if_pos (by decide +kernel)]; kernel_rfl) | (rw [if_neg (by decide +kernel)]; exact ⟨rfl, rfl⟩))
    (fun os started H enc _ => lifted os started H enc)

/-- The statement. -/
theorem proved : Rows.QuorumCombinesSaid := over
#print axioms proved
end Go.Proofs.YtiecfamjnnmpaaaGreat.lawQuorumCombines
