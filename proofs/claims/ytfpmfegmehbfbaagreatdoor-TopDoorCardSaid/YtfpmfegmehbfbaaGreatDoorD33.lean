/- Parts of the proofs, put together: Or39, Or40, Or41. -/
import Derived.Test.YtfpmfegmehbfbaaGreatDoorD32
/- The door, walked: Wish. -/
namespace Go.Proofs.YtfpmfegmehbfbaaGreatDoor
set_option linter.unusedVariables false
set_option linter.unusedSimpArgs false
set_option linter.unusedSimpArgs false
open Go.RowKit Go.Shelf Go.Maps

section
variable {W w : World} {g : Nat} {T : TypeId} {a b c d a' b' c' d' : Value}
theorem st4 (k : Blk W g T #[a, b, c, d]) : W.cell? ⟨g, 0, none⟩ = some a ∧ W.cell? ⟨g, 1, none⟩ = some b ∧ W.cell? ⟨g, 2, none⟩ = some c ∧ W.cell? ⟨g, 3, none⟩ = some d ∧
    W.frozen? ⟨g, 0, none⟩ = false ∧ W.frozen? ⟨g, 1, none⟩ = false ∧ W.frozen? ⟨g, 2, none⟩ = false ∧ W.frozen? ⟨g, 3, none⟩ = false := ⟨k.cell 0, k.cell 1, k.cell 2, k.cell 3, k.frozen 0, k.frozen 1, k.frozen 2, k.frozen 3⟩
theorem arr4f (k : Blk W g T #[a, b, c, d]) : W.cell? ⟨g, 0, none⟩ = some a ∧ W.cell? ⟨g, 1, none⟩ = some b ∧ W.cell? ⟨g, 2, none⟩ = some c ∧ W.cell? ⟨g, 3, none⟩ = some d := ⟨k.cell 0, k.cell 1, k.cell 2, k.cell 3⟩
theorem blk4 (k : Blk W g T #[a, b, c, d]) (a' b' c' d' : Value) : Blk ((((W.setCell ⟨g, 0, none⟩ a').setCell ⟨g, 1, none⟩ b').setCell ⟨g, 2, none⟩ c').setCell ⟨g, 3, none⟩ d') g T #[a', b', c', d'] := (((k.set_ 0 a').set_ 1 b').set_ 2 c').set_ 3 d'
theorem ext4 (h : Ext w W) (hg : w.heap.size ≤ g) (a' b' c' d' : Value) : Ext w ((((W.setCell ⟨g, 0, none⟩ a').setCell ⟨g, 1, none⟩ b').setCell ⟨g, 2, none⟩ c').setCell ⟨g, 3, none⟩ d') :=
  (((h.setCell (p := ⟨g, 0, none⟩) hg _).setCell (p := ⟨g, 1, none⟩) hg _).setCell (p := ⟨g, 2, none⟩) hg _).setCell (p := ⟨g, 3, none⟩) hg _
end
def wisV (r : WisR) (A : Option Addr) (c : Nat) : Value := .agg #[.int .i64 r.1, .slice A r.2.1.length c, .int .u64 (r.2.2.1 : Int), .int .i64 r.2.2.2]
def wisPost (r : WisR × Nat) (w : World) (e : Ending) (w' : World) : Prop := ∃ A c, e = .returned (.tuple #[wisV r.1 A c, .int .i64 (r.2 : Nat)]) ∧ Reads w' w'.heap.size 1 A r.1.2.1.length (tv r.1.2.1) ∧ r.1.2.1.length ≤ c ∧ Ext w w'
theorem wisPost_bad {w w' : World} {E : Nat} {e : Ending} (he : e = .returned (.tuple #[.agg #[.int .i64 0, .slice none 0 0, .int .u64 0, .int .i64 0], .int .i64 (E : Int)])) (x : Ext w w') : wisPost ((0, [], 0, 0), E) w e w' := ⟨none, 0, he, Reads.none_, Nat.le_refl _, x⟩
theorem wisF_1 {f : FroR} {id now : Int} {E : Nat} (h : chkF f = E) (h0 : E ≠ 0) : wisF f id now = ((0, [], 0, 0), E) := by unfold wisF; rw [if_pos (by rw [h]; exact h0), h]
theorem wisF_2 {f : FroR} {id now : Int} (h : chkF f = 0) (h1 : ¬ numP now) : wisF f id now = ((0, [], 0, 0), 1) := by unfold wisF; rw [if_neg (by rw [h]; simp), if_pos h1]
theorem wisF_3 {f : FroR} {id now : Int} (h : chkF f = 0) (h1 : numP now) {E : Nat} (h2 : askF f id = (E, none)) : wisF f id now = ((0, [], 0, 0), E) := by unfold wisF; rw [if_neg (by rw [h]; simp), if_neg (by simpa using h1), h2]
theorem wisF_4 {f : FroR} {id now : Int} (h : chkF f = 0) (h1 : numP now) {o : OrdR} (h2 : askF f id = (0, some o)) : wisF f id now = if holdsF f.auts o.auths now = false then ((0, [], 0, 0), 221) else ((o.acc, o.names, o.key, o.life), 0) := by unfold wisF; rw [if_neg (by rw [h]; simp), if_neg (by simpa using h1), h2]
theorem askX_parts {d : DoorX} {id : Int} {E : Nat} {ox : Option OrdX} (h : askX d id = (E, ox)) : (ox = none → E ≠ 0) ∧ ∀ x, ox = some x → E = 0 ∧ x ∈ d.ords ∧ x.o.st = 2 := by
  unfold askX at h
  split at h
  · cases h; exact ⟨fun _ => by decide, fun x e => by cases e⟩
  · split at h
    · cases h; exact ⟨fun _ => by decide, fun x e => by cases e⟩
    · next x hx =>
      split at h
      · cases h; exact ⟨fun _ => by decide, fun x e => by cases e⟩
      · next h2 => cases h; exact ⟨fun e => (by cases e), fun y e => (by cases e; exact ⟨rfl, List.mem_of_getElem? hx, Decidable.not_not.1 h2⟩)⟩
set_option maxRecDepth 100000 in
set_option maxHeartbeats 16000000 in
theorem oWish_any (d : DoorX) (id now : Int) (w : World) (hw : DoorW w w.heap.size d) (hu9 : d.auts.length < 100) (ha9 : d.accs.length < 100) :
    Calls Tryz.prog 39 #[frontV d, .int .i64 id, .int .i64 now] w (wisPost (wisF d.fro id now) w) := by
  obtain ⟨W0, e0, b0, b1, x0, s0⟩ := startP w #[.int .i64 d.next, .slice d.oA d.opn.length d.oc, .slice d.cA d.accs.length d.cc, .slice d.uA d.auts.length d.uc, .slice d.rA d.ords.length d.rc, .int .i64 d.ser] #[.int .i64 0, .slice none 0 0, .int .u64 0, .int .i64 0] 96 85
  have cC := oCheck_any d hu9 ha9 W0 (hw.ext x0)
  have cN := onum_any now
  obtain ⟨E, hE⟩ : ∃ E, chkF d.fro = E := ⟨_, rfl⟩
  rw [hE] at cC
  have HW := Lib.hid hw
  have HB0 := Lib.hid b0
  have HB1 := Lib.hid b1
  have HX0 := Lib.hid x0
  have HS0 := Lib.hid s0
  have HE := Lib.hid hE
  obtain ⟨m0, m1, m2, m3, m4, m5⟩ := arr6f b0
  unfold frontV at cC ⊢
  clear b0 b1 x0 s0 hw hE hu9 ha9
  go_enter Tryz.func39, Tryz.ntmps39
  go_upto_region 1 with (fail)
  try rw [e0]
  clear e0
  by_cases h0 : E = 0
  case neg =>
    have HR := Lib.hid (wisF_1 (id := id) (now := now) HE.out h0)
    have k0 := ne_beq h0
    clear h0 cN
    go_wp2_with (go_at_call 92; refine cC.mono ?_; clear cC m0 m1 m2 m3 m4 m5; rintro e w1 ⟨rfl, x1⟩; have b1 := ext_blk (x1) HB1.out; obtain ⟨q0, q1, q2, q3, f0, f1, f2, f3⟩ := st4 b1; have BB := Lib.hid (blk4 b1 (.int .i64 0) (.slice none 0 0) (.int .u64 0) (.int .i64 0)); clear b1)
    rw [HR.out]
    obtain ⟨r0, r1, r2, r3⟩ := arr4f BB.out
    refine bodyPost_ret (v := .tuple #[.agg #[.int .i64 0, .slice none 0 0, .int .u64 0, .int .i64 0], .int .i64 (E : Int)]) (by simp [results, Tryz.results39, go_sem, r0, r1, r2, r3]) rfl (wisPost_bad rfl (ext4 (HX0.out.trans (x1)) (by omega) _ _ _ _))
  subst h0
  by_cases hn : numP now
  case neg =>
    have HR := Lib.hid (wisF_2 (id := id) HE.out hn)
    rw [show decide (numP now) = false from decide_eq_false hn] at cN
    clear hn
    go_wp2_with (first | (go_at_call 92; refine cC.mono ?_; clear cC m0 m1 m2 m3 m4 m5; rintro e w1 ⟨rfl, x1⟩; have b1 := ext_blk (x1) HB1.out; obtain ⟨q0, q1, q2, q3, f0, f1, f2, f3⟩ := st4 b1; have BB := Lib.hid (blk4 b1 (.int .i64 0) (.slice none 0 0) (.int .u64 0) (.int .i64 0)); clear b1) | (go_at_call 93; refine (cN _).mono ?_; clear cN; rintro e w2 ⟨rfl, rfl⟩))
    rw [HR.out]
    obtain ⟨r0, r1, r2, r3⟩ := arr4f BB.out
    refine bodyPost_ret (v := .tuple #[.agg #[.int .i64 0, .slice none 0 0, .int .u64 0, .int .i64 0], .int .i64 1]) (by simp [results, Tryz.results39, go_sem, r0, r1, r2, r3]) rfl (wisPost_bad rfl (ext4 (HX0.out.trans (x1)) (by omega) _ _ _ _))
  rw [show decide (numP now) = true from decide_eq_true hn] at cN
  have HN := Lib.hid hn
  clear hn
  go_upto_region 6 with (first | (go_at_call 92; refine cC.mono ?_; clear cC m0 m1 m2 m3 m4 m5; rintro e w1 ⟨rfl, x1⟩) | (go_at_call 93; refine (cN _).mono ?_; clear cN; rintro e w2 ⟨rfl, rfl⟩))
  have HX1 := Lib.hid x1
  obtain ⟨m0, m1, m2, m3, m4, m5⟩ := arr6f (ext_blk x1 HB0.out)
  clear x1
  go_upto_region 7 with (fail)
  clear m0 m1 m2 m3 m4 m5
  obtain ⟨W4, e4⟩ : ∃ W, w1.alloc (.cells #[.int .i64 d.next, .slice d.oA d.opn.length d.oc, .slice d.cA d.accs.length d.cc, .slice d.uA d.auts.length d.uc, .slice d.rA d.ords.length d.rc, .int .i64 d.ser, .int .i64 now] 180) = W := ⟨_, rfl⟩
  try rw [e4]
  have HX4 : Hid (Ext W0 W4) := Lib.hid (by rw [← e4]; exact HX1.out.alloc _)
  have HD4 : Hid (DoorB W4 w1.heap.size d now) := Lib.hid (by rw [← e4]; exact Blk.new _ _ _)
  clear e4
  have cA := asked_any w1.heap.size d now id W4 HW.out.rl HD4.out (HW.out.ext (HX0.out.trans HX4.out)).ord
  unfold askedPost at cA
  cases hax : askX d id with
  | mk E2 ox =>
  have HAF := askX_f d id
  rw [hax] at cA HAF
  have HP := Lib.hid (askX_parts hax)
  cases ox with
  | none =>
    have h2 : E2 ≠ 0 := HP.out.1 rfl
    have HR := Lib.hid (wisF_3 HE.out HN.out HAF)
    have k0 := ne_beq h2
    clear h2 hax HAF
    unfold askV ordZ at cA
    simp only at cA
    go_upto_region 8 with (go_at_call 102; refine cA.mono ?_; clear cA; rintro e w5 ⟨rfl, x5⟩)
    obtain ⟨W5, e5⟩ : ∃ W, w5.alloc (.cells #[.int .i64 0, .int .i64 0, .slice none 0 0, .int .u64 0, .int .i64 0, .slice none 0 0, .int .i64 0, .int .i64 0] 109) = W := ⟨_, rfl⟩
    try rw [e5]
    have x5 : Ext W0 W5 := by rw [← e5]; exact (HX4.out.trans x5).alloc _
    clear e5
    have b1 := ext_blk (x5) HB1.out; obtain ⟨q0, q1, q2, q3, f0, f1, f2, f3⟩ := st4 b1; have BB := Lib.hid (blk4 b1 (.int .i64 0) (.slice none 0 0) (.int .u64 0) (.int .i64 0)); clear b1
    go_wp2
    rw [HR.out]
    obtain ⟨r0, r1, r2, r3⟩ := arr4f BB.out
    refine bodyPost_ret (v := .tuple #[.agg #[.int .i64 0, .slice none 0 0, .int .u64 0, .int .i64 0], .int .i64 (E2 : Int)]) (by simp [results, Tryz.results39, go_sem, r0, r1, r2, r3]) rfl (wisPost_bad rfl (ext4 (HX0.out.trans (x5)) (by omega) _ _ _ _))
  | some x =>
    obtain ⟨rfl, hxm, hst⟩ := HP.out.2 x rfl
    have HXM := Lib.hid hxm
    have HR0 := Lib.hid (wisF_4 HE.out HN.out HAF)
    clear hax HAF HP hxm hst
    unfold askV ordXV at cA
    simp only at cA
    go_upto_region 8 with (go_at_call 102; refine cA.mono ?_; clear cA; rintro e w5 ⟨rfl, x5⟩)
    obtain ⟨W5, e5⟩ : ∃ W, w5.alloc (.cells #[.int .i64 x.o.id, .int .i64 x.o.acc, .slice x.nA x.o.names.length x.nc, .int .u64 (x.o.key : Int), .int .i64 x.o.life, .slice x.aA x.o.auths.length x.ac, .int .i64 x.o.st, .int .i64 x.o.ser] 109) = W := ⟨_, rfl⟩
    try rw [e5]
    have HX5 : Hid (Ext W0 W5) := Lib.hid (by rw [← e5]; exact (HX4.out.trans x5).alloc _)
    have HB5 : Hid (Blk W5 w5.heap.size 109 #[.int .i64 x.o.id, .int .i64 x.o.acc, .slice x.nA x.o.names.length x.nc, .int .u64 (x.o.key : Int), .int .i64 x.o.life, .slice x.aA x.o.auths.length x.ac, .int .i64 x.o.st, .int .i64 x.o.ser]) := Lib.hid (by rw [← e5]; exact Blk.new _ _ _)
    have HD5 : Hid (DoorB W5 w1.heap.size d now) := Lib.hid (by rw [← e5]; exact DoorB.ext HD4.out (x5.alloc _))
    have HS5 : Hid (W0.heap.size ≤ w5.heap.size) := Lib.hid (HX4.out.trans x5).size
    clear e5 x5
    have hwx := HW.out.rw x HXM.out
    have cH := holds_any w1.heap.size d now x.o.auths (auths_in HE.out x HXM.out) hwx.al HW.out.ul x.aA x.ac W5 HD5.out ((HW.out.ext (HX0.out.trans HX5.out)).rw x HXM.out).auths (HW.out.ext (HX0.out.trans HX5.out)).aut
    have c5 := HB5.out.cell 5
    cases hh : holdsF d.auts x.o.auths now with
    | false =>
      rw [hh] at cH
      have HR := HR0.out
      rw [dfro_auts, if_pos hh] at HR
      have HR1 := Lib.hid HR
      clear HR HR0 hh hwx
      go_wp2_with (go_at_call 103; refine cH.mono ?_; clear cH; rintro e w6 ⟨rfl, x6⟩; have b1 := ext_blk (HX5.out.trans x6) HB1.out; obtain ⟨q0, q1, q2, q3, f0, f1, f2, f3⟩ := st4 b1; have BB := Lib.hid (blk4 b1 (.int .i64 0) (.slice none 0 0) (.int .u64 0) (.int .i64 0)); clear b1)
      rw [HR1.out]
      obtain ⟨r0, r1, r2, r3⟩ := arr4f BB.out
      refine bodyPost_ret (v := .tuple #[.agg #[.int .i64 0, .slice none 0 0, .int .u64 0, .int .i64 0], .int .i64 221]) (by simp [results, Tryz.results39, go_sem, r0, r1, r2, r3]) rfl (wisPost_bad rfl (ext4 (HX0.out.trans (HX5.out.trans x6)) (by omega) _ _ _ _))
    | true =>
      rw [hh] at cH
      have HR := HR0.out
      rw [dfro_auts, if_neg (by rw [hh]; simp)] at HR
      have HR1 := Lib.hid HR
      clear HR HR0 hh hwx
      go_upto_region 12 with (go_at_call 103; refine cH.mono ?_; clear cH; rintro e w6 ⟨rfl, x6⟩)
      have HX6 := Lib.hid (HX5.out.trans x6)
      have HB6 := Lib.hid (ext_blk x6 HB5.out)
      have HC12 : Hid (∀ W, Ext w6 W → (W.cell? ⟨w5.heap.size, 1, none⟩ = some (.int .i64 x.o.acc) ∧ W.cell? ⟨w5.heap.size, 2, none⟩ = some (.slice x.nA x.o.names.length x.nc) ∧ W.cell? ⟨w5.heap.size, 3, none⟩ = some (.int .u64 (x.o.key : Int)) ∧ W.cell? ⟨w5.heap.size, 4, none⟩ = some (.int .i64 x.o.life))) := Lib.hid fun W y =>
        ⟨(ext_blk y HB6.out).cell 1, (ext_blk y HB6.out).cell 2, (ext_blk y HB6.out).cell 3, (ext_blk y HB6.out).cell 4⟩
      have cT := cloneT_any x.nA x.o.names.length x.nc (tv x.o.names) (tv_one _) (HW.out.rw x HXM.out).nl w6.drew ((HW.out.ext (HX0.out.trans (HX6.out.drew))).rw x HXM.out).names
      clear x6 c5
      refine E_start (n := 13) (ls := #[false, false, false, false, false, false, false, false, false, false, false, false, false]) (fun w' => w'.cell? ⟨w5.heap.size, 1, none⟩ = some (.int .i64 x.o.acc) ∧ w'.cell? ⟨w5.heap.size, 2, none⟩ = some (.slice x.nA x.o.names.length x.nc) ∧ w'.cell? ⟨w5.heap.size, 3, none⟩ = some (.int .u64 (x.o.key : Int)) ∧ w'.cell? ⟨w5.heap.size, 4, none⟩ = some (.int .i64 x.o.life)) 12 (by kernel_rfl) (by kernel_rfl) (by kernel_rfl) (HC12.out _ (Ext.refl w6).drew) (fun hHeld => ?_)
      refine E_take (i := 0) (some 42) (ls' := #[true, false, false, false, false, false, false, false, false, false, false, false, false]) rfl rfl (by kernel_rfl) (by kernel_rfl) (by kernel_rfl) (by kernel_rfl) (by kernel_rfl) (by rfl) (v := ?_) ?_ hHeld ?_
      rotate_left 1
      · intro w hSw; (try dsimp only at hSw); go_simp; try with_reducible rfl
      try simp only [Act.put, List.setIfInBounds_toArray, List.set_cons_zero, List.set_cons_succ]
      refine E_take (i := 1) (some 43) (ls' := #[true, true, false, false, false, false, false, false, false, false, false, false, false]) rfl rfl (by kernel_rfl) (by kernel_rfl) (by kernel_rfl) (by kernel_rfl) (by kernel_rfl) (by rfl) (v := ?_) ?_ hHeld ?_
      rotate_left 1
      · intro w hSw; (try dsimp only at hSw); go_simp; try with_reducible rfl
      try simp only [Act.put, List.setIfInBounds_toArray, List.set_cons_zero, List.set_cons_succ]
      refine E_take (i := 2) (some 44) (ls' := #[true, true, true, false, false, false, false, false, false, false, false, false, false]) rfl rfl (by kernel_rfl) (by kernel_rfl) (by kernel_rfl) (by kernel_rfl) (by kernel_rfl) (by rfl) (v := ?_) ?_ hHeld ?_
      rotate_left 1
      · intro w hSw; (try dsimp only at hSw); go_simp; try with_reducible rfl
      try simp only [Act.put, List.setIfInBounds_toArray, List.set_cons_zero, List.set_cons_succ]
      refine E_take (i := 3) (some 45) (ls' := #[true, true, true, true, false, false, false, false, false, false, false, false, false]) rfl rfl (by kernel_rfl) (by kernel_rfl) (by kernel_rfl) (by kernel_rfl) (by kernel_rfl) (by rfl) (v := ?_) ?_ hHeld ?_
      rotate_left 1
      · intro w hSw; (try dsimp only at hSw); go_simp; try with_reducible rfl
      try simp only [Act.put, List.setIfInBounds_toArray, List.set_cons_zero, List.set_cons_succ]
      refine E_take (i := 5) (some 47) (ls' := #[true, true, true, true, false, true, false, false, false, false, false, false, false]) rfl rfl (by kernel_rfl) (by kernel_rfl) (by kernel_rfl) (by kernel_rfl) (by kernel_rfl) (by rfl) (v := ?_) ?_ hHeld ?_
      rotate_left 1
      · intro w hSw; (try dsimp only at hSw); go_simp; try with_reducible rfl
      try simp only [Act.put, List.setIfInBounds_toArray, List.set_cons_zero, List.set_cons_succ]
      refine E_take (i := 6) (some 48) (ls' := #[true, true, true, true, false, true, true, false, false, false, false, false, false]) rfl rfl (by kernel_rfl) (by kernel_rfl) (by kernel_rfl) (by kernel_rfl) (by kernel_rfl) (by rfl) (v := ?_) ?_ hHeld ?_
      rotate_left 1
      · intro w hSw; (try dsimp only at hSw); go_simp; try with_reducible rfl
      try simp only [Act.put, List.setIfInBounds_toArray, List.set_cons_zero, List.set_cons_succ]
      refine E_take (i := 7) (some 49) (ls' := #[true, true, true, true, false, true, true, true, false, false, false, false, false]) rfl rfl (by kernel_rfl) (by kernel_rfl) (by kernel_rfl) (by kernel_rfl) (by kernel_rfl) (by rfl) (v := ?_) ?_ hHeld ?_
      rotate_left 1
      · intro w hSw; (try dsimp only at hSw); go_simp; try with_reducible rfl
      try simp only [Act.put, List.setIfInBounds_toArray, List.set_cons_zero, List.set_cons_succ]
      refine E_take (i := 8) (some 50) (ls' := #[true, true, true, true, false, true, true, true, true, false, false, false, false]) rfl rfl (by kernel_rfl) (by kernel_rfl) (by kernel_rfl) (by kernel_rfl) (by kernel_rfl) (by rfl) (v := ?_) ?_ hHeld ?_
      rotate_left 1
      · intro w hSw; (try dsimp only at hSw); go_simp; try with_reducible rfl
      try simp only [Act.put, List.setIfInBounds_toArray, List.set_cons_zero, List.set_cons_succ]
      refine E_take (i := 10) (some 52) (ls' := #[true, true, true, true, false, true, true, true, true, false, true, false, false]) rfl rfl (by kernel_rfl) (by kernel_rfl) (by kernel_rfl) (by kernel_rfl) (by kernel_rfl) (by rfl) (v := ?_) ?_ hHeld ?_
      rotate_left 1
      · intro w hSw; (try dsimp only at hSw); go_simp; try with_reducible rfl
      try simp only [Act.put, List.setIfInBounds_toArray, List.set_cons_zero, List.set_cons_succ]
      refine E_one (i := 4) (ls' := #[true, true, true, true, true, true, true, true, true, false, true, false, false]) rfl (by kernel_rfl) (by kernel_rfl) (by rfl) (fun K hK => ?_)
      go_simp
      go_at_call 104
      refine cT.mono ?_
      clear cT
      rintro e w7 ⟨v7, rfl, ho7, x7⟩
      have X7 : Ext w6 w7 := (Ext.refl w6).drew.trans x7
      obtain ⟨A7, c7, rfl, hc7, -⟩ := own_slice ho7
      have HO7 := Lib.hid ho7
      have HX7 := Lib.hid (HX6.out.trans X7)
      have HB7 := Lib.hid (ext_blk X7 HB6.out)
      have b1 := ext_blk HX7.out HB1.out
      obtain ⟨q0, q1, q2, q3, f0, f1, f2, f3⟩ := st4 b1
      have BB := Lib.hid (blk4 b1 (.int .i64 x.o.acc) (.slice A7 x.o.names.length c7) (.int .u64 (x.o.key : Int)) (.int .i64 x.o.life))
      have hne : w5.heap.size ≠ w.heap.size + 1 := by have := HS5.out; have := HS0.out; omega
      have HB8 := Lib.hid ((((HB7.out.far (p := ⟨w.heap.size + 1, 0, none⟩) hne (.int .i64 x.o.acc)).far (p := ⟨w.heap.size + 1, 1, none⟩) hne (.slice A7 x.o.names.length c7)).far (p := ⟨w.heap.size + 1, 2, none⟩) hne (.int .u64 (x.o.key : Int))).far (p := ⟨w.heap.size + 1, 3, none⟩) hne (.int .i64 x.o.life))
      clear b1 hne
      have hHeld2 := HC12.out _ X7
      clear hHeld
      have hHeld := hHeld2
      clear hHeld2
      refine hK _ _ (fun _ => hHeld) ?_
      clear hK K
      try simp only [Act.put, List.setIfInBounds_toArray, List.set_cons_zero, List.set_cons_succ]
      refine E_take (i := 9) (some 51) (ls' := #[true, true, true, true, true, true, true, true, true, true, true, false, false]) rfl rfl (by kernel_rfl) (by kernel_rfl) (by kernel_rfl) (by kernel_rfl) (by kernel_rfl) (by rfl) (v := ?_) ?_ hHeld ?_
      rotate_left 1
      · intro w hSw; (try dsimp only at hSw); go_simp; try with_reducible rfl
      try simp only [Act.put, List.setIfInBounds_toArray, List.set_cons_zero, List.set_cons_succ]
      refine E_one (i := 11) (ls' := #[true, true, true, true, true, true, true, true, true, true, true, true, false]) rfl (by kernel_rfl) (by kernel_rfl) (by rfl) (fun K hK => ?_)
      go_simp
      have hHeld2 := (show _ ∧ _ ∧ _ ∧ _ from ⟨HB8.out.cell 1, HB8.out.cell 2, HB8.out.cell 3, HB8.out.cell 4⟩)
      clear hHeld
      have hHeld := hHeld2
      clear hHeld2
      refine hK _ _ (fun _ => hHeld) ?_
      clear hK K
      try simp only [Act.put, List.setIfInBounds_toArray, List.set_cons_zero, List.set_cons_succ]
      refine E_one (i := 12) (ls' := #[true, true, true, true, true, true, true, true, true, true, true, true, true]) rfl (by kernel_rfl) (by kernel_rfl) (by rfl) (fun K hK => ?_)
      go_simp
      refine hK _ _ (fun h => absurd rfl h) ?_
      clear hK K
      try simp only [Act.put, List.setIfInBounds_toArray, List.set_cons_zero, List.set_cons_succ]
      refine E_done (by kernel_rfl) ?_
      clear hHeld HC12
      have hs0 := HS0.out
      have hw7 : W0.heap.size ≤ w6.drew.heap.size := HX6.out.size
      go_wp2
      rw [HR1.out]
      obtain ⟨r0, r1, r2, r3⟩ := arr4f BB.out
      refine bodyPost_ret (v := .tuple #[.agg #[.int .i64 x.o.acc, .slice A7 x.o.names.length c7, .int .u64 (x.o.key : Int), .int .i64 x.o.life], .int .i64 0]) (by simp [results, Tryz.results39, go_sem, r0, r1, r2, r3]) rfl ⟨A7, c7, rfl, ?_, hc7, ext4 (HX0.out.trans HX7.out) (by omega) _ _ _ _⟩
      exact Reads.of_own (own_far (own_far (own_far (own_far HO7.out (g := w.heap.size + 1) (by omega) 0 (.int .i64 x.o.acc)) (g := w.heap.size + 1) (by omega) 1 (.slice A7 x.o.names.length c7)) (g := w.heap.size + 1) (by omega) 2 (.int .u64 (x.o.key : Int))) (g := w.heap.size + 1) (by omega) 3 (.int .i64 x.o.life))
end Go.Proofs.YtfpmfegmehbfbaaGreatDoor

/- The door, walked: Saw. -/
namespace Go.Proofs.YtfpmfegmehbfbaaGreatDoor
set_option linter.unusedVariables false
set_option linter.unusedSimpArgs false
set_option linter.unusedSimpArgs false
open Go.RowKit Go.Shelf Go.Maps

theorem sawF_1 {f : FroR} {id now : Int} {ok : Bool} {E : Nat} (h : chkF f = E) (h0 : E ≠ 0) : sawF f id ok now = (froZ, E) := by unfold sawF; rw [if_pos (by rw [h]; exact h0), h]
theorem sawF_2 {f : FroR} {id now : Int} {ok : Bool} (h : chkF f = 0) (h1 : ¬ (0 ≤ now ∧ now + 50 ≤ 1099511627776)) : sawF f id ok now = (froZ, 1) := by unfold sawF; rw [if_neg (by rw [h]; simp), if_pos h1]
theorem sawF_3 {f : FroR} {id now : Int} {ok : Bool} (h : chkF f = 0) (h1 : 0 ≤ now ∧ now + 50 ≤ 1099511627776) : sawF f id ok now = if id < 1 then (froZ, 131) else match f.auts[id.toNat - 1]? with
  | none => (froZ, 131)
  | some a => if a.st ≠ 2 then (froZ, 221) else ({ f with auts := f.auts.set (id.toNat - 1) (if ok = true then { a with st := 3, fr := now, un := now + 50 } else { a with st := 4 }) }, 0) := by unfold sawF; rw [if_neg (by rw [h]; simp), if_neg (by simpa using h1)]; rfl
/-- A cell of a row of authorizations is turned. -/
theorem aut_put {w : World} {base g cap n : Nat} {l : List AutR} (h : w.ownsRow base 192 7 (.slice (some ⟨g, 0, none⟩) n cap) n (autV l)) {a : Nat} {x y : AutR} (hx : l[a]? = some x) {i : Nat} {u : Value} (hi : i < 7) (he : (autC x).set i u = autC y) :
    (w.setCell ⟨g, a * 7 + i, none⟩ u).ownsRow base 192 7 (.slice (some ⟨g, 0, none⟩) n cap) n (autV (l.set a y)) ∧ (l.set a y)[a]? = some y := by
  obtain ⟨o4, -⟩ := h.stored (a * 7 + i) u
  have hset := fm_set autC (k := 7) (fun _ => rfl) hx (i := i) (u := u) (y := y) hi he
  rw [show autV l = l.flatMap autC from rfl, hset] at o4
  exact ⟨o4, by rw [List.getElem?_set_self (List.getElem?_eq_some_iff.1 hx).1]⟩
set_option maxRecDepth 100000 in
set_option maxHeartbeats 16000000 in
theorem oSaw_any (d : DoorX) (id : Int) (ok : Bool) (now : Int) (w : World) (hw : DoorW w w.heap.size d) (hu9 : d.auts.length < 100) (ha9 : d.accs.length < 100) :
    Calls Tryz.prog 40 #[frontV d, .int .i64 id, .bool ok, .int .i64 now] w (outS d (sawF d.fro id ok now) w) := by
  obtain ⟨W0, e0, b0, b1, x0, s0⟩ := startP w #[.int .i64 d.next, .slice d.oA d.opn.length d.oc, .slice d.cA d.accs.length d.cc, .slice d.uA d.auts.length d.uc, .slice d.rA d.ords.length d.rc, .int .i64 d.ser] #[.int .i64 0, .slice none 0 0, .slice none 0 0, .slice none 0 0, .slice none 0 0, .int .i64 0] 96 96
  have cC := oCheck_any d hu9 ha9 W0 (hw.ext x0)
  have cN := fun n => onum_any n
  obtain ⟨E, hE⟩ : ∃ E, chkF d.fro = E := ⟨_, rfl⟩
  rw [hE] at cC
  have HW := Lib.hid hw
  have HB0 := Lib.hid b0
  have HB1 := Lib.hid b1
  have HX0 := Lib.hid x0
  have HS0 := Lib.hid s0
  have HE := Lib.hid hE
  have HU9 := Lib.hid hu9
  obtain ⟨m0, m1, m2, m3, m4, m5⟩ := arr6f b0
  unfold frontV at cC ⊢
  clear b0 b1 x0 s0 hw hE hu9 ha9
  go_enter Tryz.func40, Tryz.ntmps40
  go_upto_region 1 with (fail)
  try rw [e0]
  clear e0
  by_cases h0 : E = 0
  case neg =>
    have HR := Lib.hid (sawF_1 (id := id) (ok := ok) (now := now) HE.out h0)
    have k0 := ne_beq h0
    clear h0 cN
    go_wp2_with (go_at_call 92; refine cC.mono ?_; clear cC m0 m1 m2 m3 m4 m5; rintro e w1 ⟨rfl, x1⟩; have b2 := ext_blk (x1) HB1.out; obtain ⟨q0, q1, q2, q3, q4, q5, f0, f1, f2, f3, f4, f5⟩ := st6 b2; have BB := Lib.hid (blk6 b2 (.int .i64 0) (.slice none 0 0) (.slice none 0 0) (.slice none 0 0) (.slice none 0 0) (.int .i64 0)); clear b2)
    rw [HR.out]
    obtain ⟨r0, r1, r2, r3, r4, r5⟩ := arr6f BB.out
    refine bodyPost_ret (v := .tuple #[.agg #[.int .i64 0, .slice none 0 0, .slice none 0 0, .slice none 0 0, .slice none 0 0, .int .i64 0], .int .i64 (E : Int)]) (by simp [results, Tryz.results40, go_sem, r0, r1, r2, r3, r4, r5]) rfl (outS_bad rfl (ext6 (HX0.out.trans (x1)) (by omega) _ _ _ _ _ _))
  subst h0
  by_cases hn : numP now
  case neg =>
    have HR := Lib.hid (sawF_2 (id := id) (ok := ok) HE.out (show ¬ (0 ≤ now ∧ now + 50 ≤ 1099511627776) from fun h => hn ⟨h.1, by omega⟩))
    have cN := cN now
    rw [show decide (numP now) = false from decide_eq_false hn] at cN
    clear hn
    go_wp2_with (first | (go_at_call 92; refine cC.mono ?_; clear cC m0 m1 m2 m3 m4 m5; rintro e w1 ⟨rfl, x1⟩; have b2 := ext_blk (x1) HB1.out; obtain ⟨q0, q1, q2, q3, q4, q5, f0, f1, f2, f3, f4, f5⟩ := st6 b2; have BB := Lib.hid (blk6 b2 (.int .i64 0) (.slice none 0 0) (.slice none 0 0) (.slice none 0 0) (.slice none 0 0) (.int .i64 0)); clear b2) | (go_at_call 93; refine (cN _).mono ?_; clear cN; rintro e w2 ⟨rfl, rfl⟩))
    rw [HR.out]
    obtain ⟨r0, r1, r2, r3, r4, r5⟩ := arr6f BB.out
    refine bodyPost_ret (v := .tuple #[.agg #[.int .i64 0, .slice none 0 0, .slice none 0 0, .slice none 0 0, .slice none 0 0, .int .i64 0], .int .i64 1]) (by simp [results, Tryz.results40, go_sem, r0, r1, r2, r3, r4, r5]) rfl (outS_bad rfl (ext6 (HX0.out.trans (x1)) (by omega) _ _ _ _ _ _))
  have e1 : IntKind.i64.wrap (now + 50) = now + 50 := by rw [IntKind.wrap_i64]; have := hn.1; have := hn.2; omega
  have c1 := cN now
  have c2 := cN (now + 50)
  rw [show decide (numP now) = true from decide_eq_true hn] at c1
  by_cases h5 : numP (now + 50)
  case neg =>
    have HR := Lib.hid (sawF_2 (id := id) (ok := ok) HE.out (show ¬ (0 ≤ now ∧ now + 50 ≤ 1099511627776) from fun h => h5 ⟨by omega, h.2⟩))
    rw [show decide (numP (now + 50)) = false from decide_eq_false h5] at c2
    clear hn h5 cN
    go_wp2_with (first | (go_at_call 92; refine cC.mono ?_; clear cC m0 m1 m2 m3 m4 m5; rintro e w1 ⟨rfl, x1⟩; have b2 := ext_blk (x1) HB1.out; obtain ⟨q0, q1, q2, q3, q4, q5, f0, f1, f2, f3, f4, f5⟩ := st6 b2; have BB := Lib.hid (blk6 b2 (.int .i64 0) (.slice none 0 0) (.slice none 0 0) (.slice none 0 0) (.slice none 0 0) (.int .i64 0)); clear b2) | (go_at_call 93; refine (c1 _).mono ?_; clear c1; rintro e w2 ⟨rfl, rfl⟩) | (go_at_call 93; refine (c2 _).mono ?_; clear c2; rintro e w2 ⟨rfl, rfl⟩))
    rw [HR.out]
    obtain ⟨r0, r1, r2, r3, r4, r5⟩ := arr6f BB.out
    refine bodyPost_ret (v := .tuple #[.agg #[.int .i64 0, .slice none 0 0, .slice none 0 0, .slice none 0 0, .slice none 0 0, .int .i64 0], .int .i64 1]) (by simp [results, Tryz.results40, go_sem, r0, r1, r2, r3, r4, r5]) rfl (outS_bad rfl (ext6 (HX0.out.trans (x1)) (by omega) _ _ _ _ _ _))
  rw [show decide (numP (now + 50)) = true from decide_eq_true h5] at c2
  have HR := Lib.hid (sawF_3 (id := id) (ok := ok) (now := now) HE.out ⟨hn.1, h5.2⟩)
  have HN := Lib.hid (And.intro hn h5)
  clear hn h5 cN
  go_upto_region 7 with (first | (go_at_call 92; refine cC.mono ?_; clear cC m0 m1 m2 m3 m4 m5; rintro e w1 ⟨rfl, x1⟩) | (go_at_call 93; refine (c1 _).mono ?_; clear c1; rintro e w2 ⟨rfl, rfl⟩) | (go_at_call 93; refine (c2 _).mono ?_; clear c2; rintro e w2 ⟨rfl, rfl⟩))
  have HX1 := Lib.hid x1
  obtain ⟨m0, m1, m2, m3, m4, m5⟩ := arr6f (ext_blk x1 HB0.out)
  have hlb : (d.auts.length : Int) < 100 := by have := HU9.out; omega
  clear x1
  by_cases g1 : id < 1
  · have d1 : decide (id < 1) = true := decide_eq_true g1
    have HR := HR.out
    rw [if_pos g1] at HR
    have HR1 := Lib.hid HR
    clear HR g1 m0 m1 m2 m3 m4 m5
    have b2 := ext_blk (HX1.out) HB1.out; obtain ⟨q0, q1, q2, q3, q4, q5, f0, f1, f2, f3, f4, f5⟩ := st6 b2; have BB := Lib.hid (blk6 b2 (.int .i64 0) (.slice none 0 0) (.slice none 0 0) (.slice none 0 0) (.slice none 0 0) (.int .i64 0)); clear b2
    go_wp2
    rw [HR1.out]
    obtain ⟨r0, r1, r2, r3, r4, r5⟩ := arr6f BB.out
    refine bodyPost_ret (v := .tuple #[.agg #[.int .i64 0, .slice none 0 0, .slice none 0 0, .slice none 0 0, .slice none 0 0, .int .i64 0], .int .i64 131]) (by simp [results, Tryz.results40, go_sem, r0, r1, r2, r3, r4, r5]) rfl (outS_bad rfl (ext6 (HX0.out.trans (HX1.out)) (by omega) _ _ _ _ _ _))
  have d1 : decide (id < 1) = false := decide_eq_false g1
  obtain ⟨a, rfl⟩ : ∃ a : Nat, id = (a : Int) + 1 := ⟨(id - 1).toNat, by omega⟩
  have HR := HR.out
  rw [if_neg g1, show ((a : Int) + 1).toNat - 1 = a by omega, dfro_auts] at HR
  by_cases g2 : (d.auts.length : Int) < (a : Int) + 1
  · have d2 : decide ((d.auts.length : Int) < (a : Int) + 1) = true := decide_eq_true g2
    rw [List.getElem?_eq_none (by omega)] at HR
    have HR1 := Lib.hid HR
    clear HR g1 g2
    have b2 := ext_blk (HX1.out) HB1.out; obtain ⟨q0, q1, q2, q3, q4, q5, f0, f1, f2, f3, f4, f5⟩ := st6 b2; have BB := Lib.hid (blk6 b2 (.int .i64 0) (.slice none 0 0) (.slice none 0 0) (.slice none 0 0) (.slice none 0 0) (.int .i64 0)); clear b2
    go_wp2
    rw [HR1.out]
    obtain ⟨r0, r1, r2, r3, r4, r5⟩ := arr6f BB.out
    refine bodyPost_ret (v := .tuple #[.agg #[.int .i64 0, .slice none 0 0, .slice none 0 0, .slice none 0 0, .slice none 0 0, .int .i64 0], .int .i64 131]) (by simp [results, Tryz.results40, go_sem, r0, r1, r2, r3, r4, r5]) rfl (outS_bad rfl (ext6 (HX0.out.trans (HX1.out)) (by omega) _ _ _ _ _ _))
  have d2 : decide ((d.auts.length : Int) < (a : Int) + 1) = false := decide_eq_false g2
  obtain ⟨x, hx⟩ : ∃ u, d.auts[a]? = some u := ⟨_, List.getElem?_eq_getElem (by omega)⟩
  rw [hx] at HR
  simp only at HR
  obtain ⟨ad, hA, hlt, r0, r1, r2, r3, r4, r5, r6⟩ := reads_aut (HW.out.ext (HX0.out.trans HX1.out)).aut hx

  rw [hA] at m3
  have hal : (a : Int) < (d.auts.length : Int) := by omega
  have e2 : IntKind.i64.wrap ((a : Int) + 1 - 1) = (a : Int) := by rw [IntKind.wrap_i64]; omega
  have HHX := Lib.hid hx
  clear r0 r1 r2 r3 r5 r6 hlt hx g1 g2
  by_cases g3 : x.st = 2
  case neg =>
    have d3 : (x.st != 2) = true := by simp [g3]
    rw [if_pos g3] at HR
    have HR1 := Lib.hid HR
    clear HR g3
    have b2 := ext_blk (HX1.out) HB1.out; obtain ⟨q0, q1, q2, q3, q4, q5, f0, f1, f2, f3, f4, f5⟩ := st6 b2; have BB := Lib.hid (blk6 b2 (.int .i64 0) (.slice none 0 0) (.slice none 0 0) (.slice none 0 0) (.slice none 0 0) (.int .i64 0)); clear b2
    go_wp2
    rw [HR1.out]
    obtain ⟨r0, r1, r2, r3, r4, r5⟩ := arr6f BB.out
    refine bodyPost_ret (v := .tuple #[.agg #[.int .i64 0, .slice none 0 0, .slice none 0 0, .slice none 0 0, .slice none 0 0, .int .i64 0], .int .i64 221]) (by simp [results, Tryz.results40, go_sem, r0, r1, r2, r3, r4, r5]) rfl (outS_bad rfl (ext6 (HX0.out.trans (HX1.out)) (by omega) _ _ _ _ _ _))
  rw [if_neg (by simpa using g3)] at HR
  have HR1 := Lib.hid HR
  have d3 : (x.st != 2) = false := by simp [g3]
  clear HR g3
  go_upto_region 12 with (fail)
  clear m0 m1 m2 m3 m4 m5 r4 hA
  obtain ⟨m0, m1, m2, m3, m4, m5⟩ := arr6f (ext_blk HX1.out HB0.out)
  go_upto_region 13 with (fail)
  clear m0 m1 m2 m3 m4 m5
  obtain ⟨W4, e4⟩ : ∃ W, w1.alloc (.cells #[.int .i64 d.next, .slice d.oA d.opn.length d.oc, .slice d.cA d.accs.length d.cc, .slice d.uA d.auts.length d.uc, .slice d.rA d.ords.length d.rc, .int .i64 d.ser, .int .i64 now] 180) = W := ⟨_, rfl⟩
  try rw [e4]
  have HX4 : Hid (Ext W0 W4) := Lib.hid (by rw [← e4]; exact HX1.out.alloc _)
  have HD4 : Hid (DoorB W4 w1.heap.size d now) := Lib.hid (by rw [← e4]; exact Blk.new _ _ _)
  have HSB : Hid (W0.heap.size ≤ w1.heap.size ∧ w1.heap.size < W4.heap.size) := Lib.hid ⟨HX1.out.size, Blk.lt HD4.out⟩
  clear e4
  have cA := auth_any w1.heap.size d now a (by omega) HW.out.ul W4 HD4.out (HW.out.ext (HX0.out.trans HX4.out)).aut
  go_upto_region 14 with (go_at_call 105; refine cA.mono ?_; clear cA; rintro e w5 ⟨g, cap, rfl, hb5, ho5, hg5⟩)
  have HB5 := Lib.hid hb5
  have HO5 := Lib.hid ho5
  have HG5 := Lib.hid hg5
  have hgb : Hid (W4.heap.size ≤ g) := Lib.hid (own_ge ho5 g rfl)
  have p4 := own_fm autC (fun _ => rfl) ho5 HHX.out (i := 4) (by decide)
  have p5 := own_fm autC (fun _ => rfl) ho5 HHX.out (i := 5) (by decide)
  have p6 := own_fm autC (fun _ => rfl) ho5 HHX.out (i := 6) (by decide)
  simp only [autC, List.getElem?_cons_succ, List.getElem?_cons_zero] at p4 p5 p6
  have f4 := ho5.frozenAt (a * 7 + 4)
  have f5 := ho5.frozenAt (a * 7 + 5)
  have f6 := ho5.frozenAt (a * 7 + 6)
  clear hb5 ho5 hg5
  have xw := HW.out.uw x (List.mem_of_getElem? HHX.out)
  have HXW := Lib.hid xw
  clear xw
  cases ok with
  | false =>
    go_upto_region 17 with (fail)
    obtain ⟨o1, h1⟩ := aut_put HO5.out HHX.out (i := 4) (u := .int .i64 4) (y := { x with st := 4 }) (by decide) rfl
    obtain ⟨W6, e6⟩ : ∃ W, W = w5.setCell ⟨g, a * 7 + 4, none⟩ (.int .i64 4) := ⟨_, rfl⟩
    have hBg : w1.heap.size ≠ g := by have := hgb.out; have := HSB.out; omega
    have hlen : (d.auts.set a { x with st := 4 }).length = d.auts.length := List.length_set
    obtain ⟨d6, hd6⟩ : ∃ y, y = withU d (d.auts.set a { x with st := 4 }) (some ⟨g, 0, none⟩) cap := ⟨_, rfl⟩
    have HD6 : Hid (DoorB W6 w1.heap.size d6 now) := Lib.hid (by
      have hb := (Blk.far HB5.out (p := ⟨g, a * 7 + 4, none⟩) hBg (.int .i64 4))
      rw [e6, hd6]
      unfold DoorB withU at hb ⊢
      simp only at hb ⊢
      rw [hlen]
      exact hb)
    have HG6 : Hid (W4.grownBy W6 (some w1.heap.size)) := Lib.hid (by rw [e6]; exact (grown_new HG5.out (p := ⟨g, a * 7 + 4, none⟩) hgb.out (.int .i64 4)))
    rw [← e6] at o1
    try rw [← e6]
    have HO6 := Lib.hid o1
    have X6 : Ext W0 W6 := Ext.of (HX4.out.out.grown HG6.out HX4.out.size (fun k hk => by cases hk; exact HSB.out.1))
    have HX6 := Lib.hid X6
    have hs0 := HS0.out
    have hsb := HSB.out
    have HDW : Hid (DoorW W6 W6.heap.size d6) := Lib.hid (by
      have hr := Reads.of_own HO6.out
      rw [← hlen] at hr
      rw [hd6]
      refine withU_w (HW.out.ext (HX0.out.trans X6)) hr (by rw [hlen]; exact own_cap HO5.out) (by rw [hlen]; exact HW.out.ul) (fun y hy => ?_)
      rcases List.mem_or_eq_of_mem_set hy with hy | rfl
      · exact HW.out.uw y hy
      · exact ⟨HXW.out.id, HXW.out.acc, wf64_of (by simp) (by simp), HXW.out.fr, HXW.out.un, HXW.out.name, HXW.out.tok⟩)
    have HDL : Hid (∀ S : Nat → Prop, DoorL S d → DoorL (fun k => S k ∨ W4.heap.size ≤ k) d6) := Lib.hid fun S hS => by
      rw [hd6]
      refine withU_l hS (fun k hk => .inl hk) ?_
      rw [hlen]
      exact Lies.own HO6.out (fun k hk => .inr hk)
    have hfr : Hid (d6.fro = { d.fro with auts := d.auts.set a { x with st := 4 } }) := Lib.hid (by rw [hd6]; rfl)
    have b2 := ext_blk X6 HB1.out
    obtain ⟨q0, q1, q2, q3, q4, q5, f0, f1, f2, f3, f4, f5⟩ := st6 b2
    have BB := Lib.hid (blk6 b2 (.int .i64 d6.next) (.slice d6.oA d6.opn.length d6.oc) (.slice d6.cA d6.accs.length d6.cc) (.slice d6.uA d6.auts.length d6.uc) (.slice d6.rA d6.ords.length d6.rc) (.int .i64 d6.ser))
    obtain ⟨a0, a1, a2, a3, a4, a5, a6⟩ := arr7 HD6.out
    clear b2 e6 hd6 X6 hlen o1
    go_wp2
    rw [HR1.out]
    obtain ⟨r0, r1, r2, r3, r4, r5⟩ := arr6f BB.out
    refine bodyPost_ret (v := .tuple #[.agg #[.int .i64 d6.next, .slice d6.oA d6.opn.length d6.oc, .slice d6.cA d6.accs.length d6.cc, .slice d6.uA d6.auts.length d6.uc, .slice d6.rA d6.ords.length d6.rc, .int .i64 d6.ser], .int .i64 0]) (by simp [results, Tryz.results40, go_sem, r0, r1, r2, r3, r4, r5]) rfl ⟨d6, rfl, by rw [hfr.out]; rfl, ?_, ?_, ext6 (HX0.out.trans HX6.out) (by omega) _ _ _ _ _ _⟩
    · exact HDW.out.grownTo ((HDL.out _ HW.out.lies).mono (fun k hk => by rcases hk with hk | hk <;> omega)) (grown6 W6 (w.heap.size + 1) _ _ _ _ _ _)
    · intro S hS
      exact (HDL.out S hS).mono (fun k hk => by rcases hk with hk | hk; exact .inl hk; exact .inr (by omega))
  | true =>
    go_upto_region 17 with (fail)
    obtain ⟨o1, h1⟩ := aut_put HO5.out HHX.out (i := 4) (u := .int .i64 4) (y := { x with st := 4 }) (by decide) rfl
    obtain ⟨o2, h2⟩ := aut_put o1 h1 (i := 4) (u := .int .i64 3) (y := { x with st := 3 }) (by decide) rfl
    obtain ⟨o3, h3⟩ := aut_put o2 h2 (i := 5) (u := .int .i64 now) (y := { x with st := 3, fr := now }) (by decide) rfl
    obtain ⟨o4, h4⟩ := aut_put o3 h3 (i := 6) (u := .int .i64 (now + 50)) (y := { x with st := 3, fr := now, un := now + 50 }) (by decide) rfl
    rw [List.set_set, List.set_set, List.set_set] at o4
    obtain ⟨W6, e6⟩ : ∃ W, W = (((w5.setCell ⟨g, a * 7 + 4, none⟩ (.int .i64 4)).setCell ⟨g, a * 7 + 4, none⟩ (.int .i64 3)).setCell ⟨g, a * 7 + 5, none⟩ (.int .i64 now)).setCell ⟨g, a * 7 + 6, none⟩ (.int .i64 (now + 50)) := ⟨_, rfl⟩
    have hBg : w1.heap.size ≠ g := by have := hgb.out; have := HSB.out; omega
    have hlen : (d.auts.set a { x with st := 3, fr := now, un := now + 50 }).length = d.auts.length := List.length_set
    obtain ⟨d6, hd6⟩ : ∃ y, y = withU d (d.auts.set a { x with st := 3, fr := now, un := now + 50 }) (some ⟨g, 0, none⟩) cap := ⟨_, rfl⟩
    have HD6 : Hid (DoorB W6 w1.heap.size d6 now) := Lib.hid (by
      have hb := (Blk.far (Blk.far (Blk.far (Blk.far HB5.out (p := ⟨g, a * 7 + 4, none⟩) hBg (.int .i64 4)) (p := ⟨g, a * 7 + 4, none⟩) hBg (.int .i64 3)) (p := ⟨g, a * 7 + 5, none⟩) hBg (.int .i64 now)) (p := ⟨g, a * 7 + 6, none⟩) hBg (.int .i64 (now + 50)))
      rw [e6, hd6]
      unfold DoorB withU at hb ⊢
      simp only at hb ⊢
      rw [hlen]
      exact hb)
    have HG6 : Hid (W4.grownBy W6 (some w1.heap.size)) := Lib.hid (by rw [e6]; exact (grown_new (grown_new (grown_new (grown_new HG5.out (p := ⟨g, a * 7 + 4, none⟩) hgb.out (.int .i64 4)) (p := ⟨g, a * 7 + 4, none⟩) hgb.out (.int .i64 3)) (p := ⟨g, a * 7 + 5, none⟩) hgb.out (.int .i64 now)) (p := ⟨g, a * 7 + 6, none⟩) hgb.out (.int .i64 (now + 50))))
    rw [← e6] at o4
    try rw [← e6]
    have HO6 := Lib.hid o4
    have X6 : Ext W0 W6 := Ext.of (HX4.out.out.grown HG6.out HX4.out.size (fun k hk => by cases hk; exact HSB.out.1))
    have HX6 := Lib.hid X6
    have hs0 := HS0.out
    have hsb := HSB.out
    have HDW : Hid (DoorW W6 W6.heap.size d6) := Lib.hid (by
      have hr := Reads.of_own HO6.out
      rw [← hlen] at hr
      rw [hd6]
      refine withU_w (HW.out.ext (HX0.out.trans X6)) hr (by rw [hlen]; exact own_cap HO5.out) (by rw [hlen]; exact HW.out.ul) (fun y hy => ?_)
      rcases List.mem_or_eq_of_mem_set hy with hy | rfl
      · exact HW.out.uw y hy
      · exact ⟨HXW.out.id, HXW.out.acc, wf64_of (by simp) (by simp), wf64_of (by simp only; have := HN.out.1.1; omega) (by simp only; have := HN.out.1.2; omega), wf64_of (by simp only; have := HN.out.2.1; omega) (by simp only; have := HN.out.2.2; omega), HXW.out.name, HXW.out.tok⟩)
    have HDL : Hid (∀ S : Nat → Prop, DoorL S d → DoorL (fun k => S k ∨ W4.heap.size ≤ k) d6) := Lib.hid fun S hS => by
      rw [hd6]
      refine withU_l hS (fun k hk => .inl hk) ?_
      rw [hlen]
      exact Lies.own HO6.out (fun k hk => .inr hk)
    have hfr : Hid (d6.fro = { d.fro with auts := d.auts.set a { x with st := 3, fr := now, un := now + 50 } }) := Lib.hid (by rw [hd6]; rfl)
    have b2 := ext_blk X6 HB1.out
    obtain ⟨q0, q1, q2, q3, q4, q5, f0, f1, f2, f3, f4, f5⟩ := st6 b2
    have BB := Lib.hid (blk6 b2 (.int .i64 d6.next) (.slice d6.oA d6.opn.length d6.oc) (.slice d6.cA d6.accs.length d6.cc) (.slice d6.uA d6.auts.length d6.uc) (.slice d6.rA d6.ords.length d6.rc) (.int .i64 d6.ser))
    obtain ⟨a0, a1, a2, a3, a4, a5, a6⟩ := arr7 HD6.out
    clear b2 e6 hd6 X6 hlen o4
    go_wp2
    rw [HR1.out]
    obtain ⟨r0, r1, r2, r3, r4, r5⟩ := arr6f BB.out
    refine bodyPost_ret (v := .tuple #[.agg #[.int .i64 d6.next, .slice d6.oA d6.opn.length d6.oc, .slice d6.cA d6.accs.length d6.cc, .slice d6.uA d6.auts.length d6.uc, .slice d6.rA d6.ords.length d6.rc, .int .i64 d6.ser], .int .i64 0]) (by simp [results, Tryz.results40, go_sem, r0, r1, r2, r3, r4, r5]) rfl ⟨d6, rfl, by rw [hfr.out]; rfl, ?_, ?_, ext6 (HX0.out.trans HX6.out) (by omega) _ _ _ _ _ _⟩
    · exact HDW.out.grownTo ((HDL.out _ HW.out.lies).mono (fun k hk => by rcases hk with hk | hk <;> omega)) (grown6 W6 (w.heap.size + 1) _ _ _ _ _ _)
    · intro S hS
      exact (HDL.out S hS).mono (fun k hk => by rcases hk with hk | hk; exact .inl hk; exact .inr (by omega))
end Go.Proofs.YtfpmfegmehbfbaaGreatDoor

/- The door, walked: Done. -/
namespace Go.Proofs.YtfpmfegmehbfbaaGreatDoor
set_option linter.unusedVariables false
set_option linter.unusedSimpArgs false
set_option linter.unusedSimpArgs false
open Go.RowKit Go.Shelf Go.Maps

end Go.Proofs.YtfpmfegmehbfbaaGreatDoor
