/- Parts of the proofs, put together: Or27. -/
import Derived.Test.YtfpmfegmehbfbaaGreatDoorD26
/- The door, walked: issues, revokes. -/
namespace Go.Proofs.YtfpmfegmehbfbaaGreatDoor
set_option linter.unusedVariables false
set_option linter.unusedSimpArgs false
open Go.RowKit Go.Shelf Go.Maps

theorem dfro_ords (d : DoorX) : d.fro.ords = d.ords.map (·.o) := rfl
theorem ords_get {d : DoorX} {a : Nat} {x : OrdX} (h : d.ords[a]? = some x) : d.fro.ords[a]? = some x.o := by rw [dfro_ords, List.getElem?_map, h]; rfl
theorem map_set_o (l : List OrdX) (a : Nat) (x : OrdX) : (l.set a x).map (·.o) = (l.map (·.o)).set a x.o := by rw [List.map_set]
theorem own_ords {w : World} {base g n cap : Nat} {e : TypeId} {l : List OrdX} (h : w.ownsRow base e 8 (.slice (some ⟨g, 0, none⟩) n cap) n (ordV l)) {a : Nat} {x : OrdX} (hx : l[a]? = some x) :
    w.cell? ⟨g, a * 8 + 5, none⟩ = some (.slice x.aA x.o.auths.length x.ac) ∧ w.cell? ⟨g, a * 8 + 6, none⟩ = some (.int .i64 x.o.st) := by
  have p5 := own_fm ordC (fun _ => rfl) h hx (i := 5) (by decide)
  have p6 := own_fm ordC (fun _ => rfl) h hx (i := 6) (by decide)
  simp only [ordC, List.getElem?_cons_succ, List.getElem?_cons_zero] at p5 p6
  exact ⟨p5, p6⟩
set_option maxRecDepth 100000 in
set_option maxHeartbeats 8000000 in
theorem issues_any (b : Nat) (d : DoorX) (now : Int) (q : QueR) (A : Option Addr) (c : Nat) (w : World) (hw : DoorW w w.heap.size d) (hL : DoorL (fun k => k ≠ b) d) (h : DoorB w b d now)
    (hAu : ∀ x ∈ d.ords, ∀ s ∈ x.o.auths, 1 ≤ s ∧ s ≤ d.auts.length) :
    Calls Tryz.prog 100 #[.pointer (some ⟨b, 0, none⟩), queV q A c] w (methPost b d now (issF d.fro q now) w) := by
  obtain ⟨qk, qa, qn, qy, qs, ql, qi, qe, qss⟩ := q
  unfold queV
  obtain ⟨W0, e0⟩ : ∃ W, w.alloc (.cells #[.int .i64 qk, .int .i64 qa, .int .i64 qn, .int .u64 (qy : Int), .slice A qs.length c, .int .i64 ql, .int .i64 qi, .int .u64 (qe : Int), .int .u64 (qss : Int)] 98) = W := ⟨_, rfl⟩
  have x0 : Ext w W0 := by rw [← e0]; exact (Ext.refl w).alloc _
  have b0 : Blk W0 w.heap.size 98 #[.int .i64 qk, .int .i64 qa, .int .i64 qn, .int .u64 (qy : Int), .slice A qs.length c, .int .i64 ql, .int .i64 qi, .int .u64 (qe : Int), .int .u64 (qss : Int)] := by rw [← e0]; exact Blk.new w _ _
  have s0 : w.heap.size < W0.heap.size := Blk.lt b0
  have HW := Lib.hid hw
  have HL := Lib.hid hL
  have HD := Lib.hid h
  have HB := Lib.hid b0
  have HX := Lib.hid x0
  have HS0 := Lib.hid s0
  have HAU := Lib.hid hAu
  obtain ⟨k0, k1, k2, k3, k4, k5, k6, k7, k8⟩ := arr9 b0
  obtain ⟨a0, a1, a2, a3, a4, a5, a6⟩ := arr7 (DoorB.ext h x0)
  have hul := hw.rl
  clear hw hL h b0 x0 s0 hAu
  go_enter Tryz.func100, Tryz.ntmps100
  go_upto_region 1 with (fail)
  try rw [e0]
  clear e0
  by_cases g1 : qi < 1
  · have hR : issF d.fro ⟨qk, qa, qn, qy, qs, ql, qi, qe, qss⟩ now = bad 131 := by unfold issF; rw [if_pos g1]
    have HR := Lib.hid hR
    have d1 : decide (qi < 1) = true := decide_eq_true g1
    clear g1 hR
    have j0 := fun q : Later W0 => q.cell k1
    have j1 := fun q : Later W0 => q.cell k6
    have j2 := fun q : Later W0 => q.cell a4
    try (have j3 := fun q : Later W0 => q.cell r1)
    clear k0 k1 k2 k3 k4 k5 k6 k7 k8 a0 a1 a2 a3 a4 a5 a6
    refine wp_region_later (by kernel_rfl) (by kernel_rfl) ?_
    repeat (go_big_quiet_step ((fail)))
    refine wpQuiet_nil ?_
    rintro W2 ⟨q, hq⟩
    have x2 : Ext w W2 := by rw [hq]; exact HX.out.trans q.ext
    have y2 : Ext W0 W2 := by rw [hq]; exact q.ext
    clear hq q j0 j1 j2
    (try clear j3)
    (try clear r1)
    go_wp2
    go_ret2
    rw [HR.out]
    exact methPost_bad (E := 131) (by decide) rfl (grown_ext x2 (some b))
  have d1 : decide (qi < 1) = false := decide_eq_false g1
  obtain ⟨a, rfl⟩ : ∃ a : Nat, qi = (a : Int) + 1 := ⟨(qi - 1).toNat, by omega⟩
  by_cases g2 : (d.ords.length : Int) < (a : Int) + 1
  · have hR : issF d.fro ⟨qk, qa, qn, qy, qs, ql, (a : Int) + 1, qe, qss⟩ now = bad 131 := by
      unfold issF
      rw [if_neg g1]
      simp only
      rw [show ((a : Int) + 1).toNat - 1 = a by omega, dfro_ords, List.getElem?_eq_none (by rw [List.length_map]; omega)]
    have HR := Lib.hid hR
    have d2 : decide ((d.ords.length : Int) < (a : Int) + 1) = true := decide_eq_true g2
    clear g1 g2 hR
    have j0 := fun q : Later W0 => q.cell k1
    have j1 := fun q : Later W0 => q.cell k6
    have j2 := fun q : Later W0 => q.cell a4
    try (have j3 := fun q : Later W0 => q.cell r1)
    clear k0 k1 k2 k3 k4 k5 k6 k7 k8 a0 a1 a2 a3 a4 a5 a6
    refine wp_region_later (by kernel_rfl) (by kernel_rfl) ?_
    repeat (go_big_quiet_step ((fail)))
    refine wpQuiet_nil ?_
    rintro W2 ⟨q, hq⟩
    have x2 : Ext w W2 := by rw [hq]; exact HX.out.trans q.ext
    have y2 : Ext W0 W2 := by rw [hq]; exact q.ext
    clear hq q j0 j1 j2
    (try clear j3)
    (try clear r1)
    go_wp2
    go_ret2
    rw [HR.out]
    exact methPost_bad (E := 131) (by decide) rfl (grown_ext x2 (some b))
  have d2 : decide ((d.ords.length : Int) < (a : Int) + 1) = false := decide_eq_false g2
  obtain ⟨x, hx⟩ : ∃ u, d.ords[a]? = some u := ⟨_, List.getElem?_eq_getElem (by omega)⟩
  obtain ⟨ad, hA, hlt, r0, r1, r2, r3, r4, r5, r6, r7⟩ := reads_ord HW.out.ord hx
  rw [hA] at a4
  have r1 := HX.out.cell r1
  have hal : (a : Int) < (d.ords.length : Int) := by omega
  have hab : (a : Int) ≤ 1099511627776 := by omega
  have hR0 : issF d.fro ⟨qk, qa, qn, qy, qs, ql, (a : Int) + 1, qe, qss⟩ now = if x.o.acc ≠ qa then bad 131 else if x.o.st ≠ 1 ∨ holdsF d.auts x.o.auths now = false then bad 221 else ({ d.fro with ords := d.fro.ords.set a { x.o with st := 2 } }, (a : Int) + 1, 0) := by
    unfold issF
    rw [if_neg g1]
    simp only
    rw [show ((a : Int) + 1).toNat - 1 = a by omega, ords_get hx]
    rfl
  have HHX := Lib.hid hx
  clear hlt r0 r2 r3 r4 r5 r6 r7 hx g1 g2 hul
  by_cases g3 : x.o.acc = qa
  case neg =>
    rw [if_pos g3] at hR0
    have HR := Lib.hid hR0
    have d3 : (x.o.acc != qa) = true := by simp [g3]
    clear g3 hR0
    have j0 := fun q : Later W0 => q.cell k1
    have j1 := fun q : Later W0 => q.cell k6
    have j2 := fun q : Later W0 => q.cell a4
    try (have j3 := fun q : Later W0 => q.cell r1)
    clear k0 k1 k2 k3 k4 k5 k6 k7 k8 a0 a1 a2 a3 a4 a5 a6
    refine wp_region_later (by kernel_rfl) (by kernel_rfl) ?_
    repeat (go_big_quiet_step ((fail)))
    refine wpQuiet_nil ?_
    rintro W2 ⟨q, hq⟩
    have x2 : Ext w W2 := by rw [hq]; exact HX.out.trans q.ext
    have y2 : Ext W0 W2 := by rw [hq]; exact q.ext
    clear hq q j0 j1 j2
    (try clear j3)
    (try clear r1)
    go_wp2
    go_ret2
    rw [HR.out]
    exact methPost_bad (E := 131) (by decide) rfl (grown_ext x2 (some b))
  rw [if_neg (by simpa using g3)] at hR0
  have HR := Lib.hid hR0
  have d3 : (x.o.acc != qa) = false := by simp [g3]
  clear g3 hR0
  have j0 := fun q : Later W0 => q.cell k1
  have j1 := fun q : Later W0 => q.cell k6
  have j2 := fun q : Later W0 => q.cell a4
  try (have j3 := fun q : Later W0 => q.cell r1)
  clear k0 k1 k2 k3 k4 k5 k6 k7 k8 a0 a1 a2 a3 a4 a5 a6
  refine wp_region_later (by kernel_rfl) (by kernel_rfl) ?_
  repeat (go_big_quiet_step ((fail)))
  refine wpQuiet_nil ?_
  rintro W2 ⟨q, hq⟩
  have x2 : Ext w W2 := by rw [hq]; exact HX.out.trans q.ext
  have y2 : Ext W0 W2 := by rw [hq]; exact q.ext
  clear hq q j0 j1 j2
  (try clear j3)
  (try clear r1)
  have cA := order_any b d now a (by omega) HW.out.rl W2 (DoorB.ext HD.out x2) ((HW.out.ord.below x2.out).more x2.size)
  obtain ⟨k0, k1, k2, k3, k4, k5, k6, k7, k8⟩ := arr9 (ext_blk y2 HB.out)
  have HX2 := Lib.hid x2
  have HY2 := Lib.hid y2
  have hS2 : Hid (w.heap.size < W2.heap.size) := Lib.hid (by have := HS0.out; have := y2.size; omega)
  clear x2 y2 hA hal
  by_cases g4 : x.o.st = 1
  case neg =>
    have HR2 := HR.out
    rw [if_pos (.inl g4)] at HR2
    have HRb := Lib.hid HR2
    clear HR2 HR
    have d4 : (x.o.st != 1) = true := by simp [g4]
    clear g4
    go_wp2_with (go_at_call 192; refine cA.mono ?_; clear cA k0 k1 k2 k3 k4 k5 k6 k7 k8; rintro e w3 ⟨g, cap, rfl, hb3, ho3, hg3⟩; obtain ⟨p5, p6⟩ := own_ords ho3 HHX.out; have HG3 := Lib.hid hg3; clear hb3 ho3 hg3)
    go_ret2
    rw [HRb.out]
    exact methPost_bad (E := 221) (by decide) rfl ((grown_ext HX2.out (some b)).trans HG3.out)
  have d4 : (x.o.st != 1) = false := by simp [g4]
  have xw := HW.out.rw x (List.mem_of_getElem? HHX.out)
  have hLx := HL.out.a x (List.mem_of_getElem? HHX.out)
  have cH := fun (W : World) (hg : w.grownBy W (some b)) g cap (hb : DoorB W b (withO d d.ords (some ⟨g, 0, none⟩) cap) now) =>
    holds_any b (withO d d.ords (some ⟨g, 0, none⟩) cap) now x.o.auths (HAU.out x (List.mem_of_getElem? HHX.out)) xw.al HW.out.ul x.aA x.ac W hb
      (xw.auths.stay hLx hg.size (fun k hk hb => hg.block k hb (by simpa using hk))) (HW.out.aut.stay HL.out.u hg.size (fun k hk hb => hg.block k hb (by simpa using hk)))
  cases g5 : holdsF d.auts x.o.auths now with
  | false =>
    have HR2 := HR.out
    rw [if_pos (.inr g5)] at HR2
    have HRb := Lib.hid HR2
    clear HR2 HR
    have cH2 := fun (W : World) (hg : w.grownBy W (some b)) g cap (hb : DoorB W b (withO d d.ords (some ⟨g, 0, none⟩) cap) now) => by
      have := cH W hg g cap hb
      rw [show holdsF (withO d d.ords (some ⟨g, 0, none⟩) cap).auts x.o.auths now = false from g5] at this
      exact this
    clear g4 g5 cH xw hLx
    go_wp2_with (first
      | (go_at_call 192; refine cA.mono ?_; clear cA k0 k1 k2 k3 k4 k5 k6 k7 k8; rintro e w3 ⟨g, cap, rfl, hb3, ho3, hg3⟩; obtain ⟨p5, p6⟩ := own_ords ho3 HHX.out; have HG3 := Lib.hid hg3; have HB3 := Lib.hid hb3; have HO3 := Lib.hid ho3; clear hb3 ho3 hg3)
      | (go_at_call 103; refine (cH2 _ ((grown_ext HX2.out (some b)).trans HG3.out) g cap HB3.out).mono ?_; clear cH2; rintro e w4 ⟨rfl, x4⟩))
    go_ret2
    rw [HRb.out]
    exact methPost_bad (E := 221) (by decide) rfl (((grown_ext HX2.out (some b)).trans HG3.out).trans (grown_ext x4 (some b)))
  | true =>
    have HR2 := HR.out
    rw [if_neg (by rintro (h | h); exact h g4; rw [g5] at h; cases h)] at HR2
    have HRb := Lib.hid HR2
    clear HR2 HR
    have cH2 := fun (W : World) (hg : w.grownBy W (some b)) g cap (hb : DoorB W b (withO d d.ords (some ⟨g, 0, none⟩) cap) now) => by
      have := cH W hg g cap hb
      rw [show holdsF (withO d d.ords (some ⟨g, 0, none⟩) cap).auts x.o.auths now = true from g5] at this
      exact this
    clear g4 g5 cH xw hLx
    go_wp2_with (first
      | (go_at_call 192; refine cA.mono ?_; clear cA k0 k1 k2 k3 k4 k5 k6 k7 k8; rintro e w3 ⟨g, cap, rfl, hb3, ho3, hg3⟩; obtain ⟨p5, p6⟩ := own_ords ho3 HHX.out; have hgb : Hid (W2.heap.size ≤ g) := Lib.hid (own_ge ho3 g rfl); have k6 := HG3_cell hg3 (ext_blk HY2.out HB.out) (by have := Blk.lt HD.out; have := HS0.out; simp; omega); have HG3 := Lib.hid hg3; have HB3 := Lib.hid hb3; have HO3 := Lib.hid ho3; clear hb3 ho3 hg3)
      | (go_at_call 103; refine (cH2 _ ((grown_ext HX2.out (some b)).trans HG3.out) g cap HB3.out).mono ?_; clear cH2; rintro e w4 ⟨rfl, x4⟩; have k6 := x4.cell k6; have p6 := x4.cell p6; have ho4 := own_ext HO3.out x4; have f6 := ho4.frozenAt (a * 8 + 6); have HO4 := Lib.hid ho4; clear ho4; have hqg : ¬ w.heap.size = g := (by have h2 := hS2.out; have h3 := hgb.out; omega); have hqh : ¬ g = w.heap.size := (by omega)))
    go_ret2
    have hgb := hgb.out
    have hbl := Blk.lt HD.out
    have hS2 := hS2.out
    have xw := HW.out.rw x (List.mem_of_getElem? HHX.out)
    obtain ⟨o4, hg4⟩ := HO4.out.stored (a * 8 + 6) (.int .i64 2)
    have hset := fm_set ordC (k := 8) (fun _ => rfl) HHX.out (i := 6) (u := .int .i64 2) (y := { x with o := { x.o with st := 2 } }) (by decide) rfl
    rw [show ordV d.ords = d.ords.flatMap ordC from rfl, hset] at o4
    have hg5 := grown_new (((grown_ext HX2.out (some b)).trans HG3.out).trans (grown_ext x4 (some b))) (p := ⟨g, a * 8 + 6, none⟩) (by simp only; omega) (.int .i64 2)
    have hlen : (d.ords.set a { x with o := { x.o with st := 2 } }).length = d.ords.length := List.length_set
    rw [HRb.out]
    refine ⟨rfl, hg5, fun _ => ⟨withO d (d.ords.set a { x with o := { x.o with st := 2 } }) (some ⟨g, 0, none⟩) cap, ?_, ?_, ?_, fun S hS => ?_⟩⟩
    · unfold DoorX.fro withO
      simp only
      rw [map_set_o]
    · have := Blk.far (DoorB.ext HB3.out x4) (p := ⟨g, a * 8 + 6, none⟩) (by simp; omega) (.int .i64 2)
      unfold DoorB withO at this ⊢
      simp only at this ⊢
      rw [hlen]
      exact this
    · have hr := Reads.of_own o4
      rw [← hlen] at hr
      have hd5 := HW.out.grownTo HL.out hg5
      refine withO_w hd5 hr (by rw [hlen]; exact own_cap HO4.out) (by rw [hlen]; exact HW.out.rl) (fun y hy => ?_)
      rcases List.mem_or_eq_of_mem_set hy with hy | rfl
      · exact hd5.rw y hy
      · have := hd5.rw x (List.mem_of_getElem? HHX.out)
        exact ⟨this.id, this.acc, this.key, this.life, wf64_of (by simp) (by simp), this.ser, this.names, this.nc, this.nl, this.ns, this.auths, this.ac, this.al, this.aw⟩
    · refine withO_l hS (fun k hk => .inl hk) ?_ (fun y hy => ?_)
      · rw [hlen]
        exact Lies.own o4 (fun k hk => .inr (by omega))
      · rcases List.mem_or_eq_of_mem_set hy with hy | rfl
        · exact ⟨(hS.n y hy).mono (fun k hk => .inl hk), (hS.a y hy).mono (fun k hk => .inl hk)⟩
        · exact ⟨(hS.n x (List.mem_of_getElem? HHX.out)).mono (fun k hk => .inl hk), (hS.a x (List.mem_of_getElem? HHX.out)).mono (fun k hk => .inl hk)⟩

/-! ### what is revoked -/
def revB (q : QueR) (o : OrdR) : Bool := decide (o.st = 5) && decide (o.acc = q.acc) && decide (o.ser = q.id)
set_option maxRecDepth 100000 in
set_option maxHeartbeats 8000000 in
theorem revokes_any (b : Nat) (d : DoorX) (now : Int) (q : QueR) (A : Option Addr) (c : Nat) (w : World) (hw : DoorW w w.heap.size d) (h : DoorB w b d now) :
    Calls Tryz.prog 101 #[.pointer (some ⟨b, 0, none⟩), queV q A c] w (methPost b d now (revF d.fro q) w) := by
  obtain ⟨W0, e0⟩ : ∃ W, w.alloc (.cells #[.int .i64 q.kind, .int .i64 q.acc, .int .i64 q.nonce, .int .u64 (q.key : Int), .slice A q.names.length c, .int .i64 q.life, .int .i64 q.id, .int .u64 (q.e : Int), .int .u64 (q.s : Int)] 98) = W := ⟨_, rfl⟩
  have x0 : Ext w W0 := by rw [← e0]; exact (Ext.refl w).alloc _
  have b0 : QueB W0 w.heap.size q A c := by rw [← e0]; exact Blk.new w _ _
  have HW := Lib.hid hw
  have HD := Lib.hid h
  have HB := Lib.hid b0
  have HX := Lib.hid x0
  obtain ⟨a0, a1, a2, a3, a4, a5, a6⟩ := arr7 (DoorB.ext h x0)
  obtain ⟨RA, hRA⟩ : ∃ R, d.rA = R := ⟨_, rfl⟩
  have hord := hw.ord
  rw [hRA] at hord a4
  have HRD := Lib.hid hord
  unfold queV
  clear hw h b0 x0 hRA hord
  go_enter Tryz.func101, Tryz.ntmps101
  go_upto_region 1 with (fail)
  try rw [e0]
  clear e0
  go_wp2
  clear a0 a1 a2 a3 a4 a5 a6
  go_loopg [14] d.ords.length (fun m s14 wr => ∃ j : Nat, j + m = d.ords.length ∧ s14 = .int .i64 j ∧ (∀ x ∈ d.ords.take j, revB q x.o = false) ∧ Ext W0 wr)
  case atStart => exact ⟨0, by omega, rfl, by simp, Ext.refl W0⟩
  case round =>
    obtain ⟨j, hj, rfl, hok, hx⟩ := hrel
    have hjb : (j : Int) ≤ 1099511627776 := by have := HW.out.rl; omega
    by_cases hjl : j < d.ords.length
    · obtain ⟨x, hi⟩ : ∃ s, d.ords[j]? = some s := ⟨_, List.getElem?_eq_getElem hjl⟩
      obtain ⟨ad, rfl, hlt, q0, q1, q2, q3, q4, q5, q6, q7⟩ := reads_ord (HRD.out.below (HX.out.trans hx).out) hi
      have e1 : d.ords.take (j + 1) = d.ords.take j ++ [x] := by rw [List.take_add_one, hi]; rfl
      have xa : Ext wr (wr.alloc (.cells #[.int .i64 x.o.id, .int .i64 x.o.acc, .slice x.nA x.o.names.length x.nc, .int .u64 (x.o.key : Int), .int .i64 x.o.life, .slice x.aA x.o.auths.length x.ac, .int .i64 x.o.st, .int .i64 x.o.ser] 109)) := (Ext.refl wr).alloc _
      obtain ⟨k0, k1, k2, k3, k4, k5, k6, k7, k8⟩ := arr9 (ext_blk (hx.trans xa) HB.out)
      have hjo : (j : Int) < (d.ords.length : Int) := by omega
      have HX2 := Lib.hid (hx.trans xa)
      have HJ := Lib.hid hj
      have HOK := Lib.hid hok
      have HE := Lib.hid e1
      have HIM : Hid (x ∈ d.ords) := Lib.hid (List.mem_of_getElem? hi)
      clear hlt hx hj hok e1 hi xa
      by_cases g1 : x.o.st = 5
      case neg =>
        have d1 : (x.o.st == 5) = false := by simp [g1]
        have hok' : Hid (∀ y ∈ d.ords.take (j + 1), revB q y.o = false) := Lib.hid fun y hy => by
          rw [HE.out] at hy
          rcases List.mem_append.1 hy with hy | hy
          · exact HOK.out y hy
          · rw [List.mem_singleton] at hy; subst hy; simp [revB, g1]
        clear g1
        go_wp2
        have hj := HJ.out
        go_roundg (gk - 1)
        case measure => omega
        case rel => exact ⟨j + 1, by omega, int_congr (by omega), hok'.out, HX2.out⟩
      have d1 : (x.o.st == 5) = true := by simp [g1]
      by_cases g2 : x.o.acc = q.acc
      case neg =>
        have d2 : (x.o.acc == q.acc) = false := by simp [g2]
        have hok' : Hid (∀ y ∈ d.ords.take (j + 1), revB q y.o = false) := Lib.hid fun y hy => by
          rw [HE.out] at hy
          rcases List.mem_append.1 hy with hy | hy
          · exact HOK.out y hy
          · rw [List.mem_singleton] at hy; subst hy; simp [revB, g2]
        clear g1 g2
        go_wp2
        have hj := HJ.out
        go_roundg (gk - 1)
        case measure => omega
        case rel => exact ⟨j + 1, by omega, int_congr (by omega), hok'.out, HX2.out⟩
      have d2 : (x.o.acc == q.acc) = true := by simp [g2]
      by_cases g3 : x.o.ser = q.id
      · have d3 : (x.o.ser == q.id) = true := by simp [g3]
        have HR : Hid (revF d.fro q = (d.fro, q.id, 0)) := Lib.hid (by
          unfold revF
          rw [if_pos]
          rw [List.any_eq_true]
          refine ⟨x.o, by rw [dfro_ords]; exact List.mem_map.2 ⟨x, HIM.out, rfl⟩, by simp [g1, g2, g3]⟩)
        clear g1 g2 g3
        go_wp2
        go_ret2
        rw [HR.out]
        have x9 := HX.out.trans HX2.out
        exact ⟨rfl, grown_ext x9 (some b), fun _ => ⟨d, rfl, DoorB.ext HD.out x9, HW.out.ext x9, fun S hS => hS.mono (fun k hk => .inl hk)⟩⟩
      · have d3 : (x.o.ser == q.id) = false := by simp [g3]
        have hok' : Hid (∀ y ∈ d.ords.take (j + 1), revB q y.o = false) := Lib.hid fun y hy => by
          rw [HE.out] at hy
          rcases List.mem_append.1 hy with hy | hy
          · exact HOK.out y hy
          · rw [List.mem_singleton] at hy; subst hy; simp [revB, g3]
        clear g1 g2 g3
        go_wp2
        have hj := HJ.out
        go_roundg (gk - 1)
        case measure => omega
        case rel => exact ⟨j + 1, by omega, int_congr (by omega), hok'.out, HX2.out⟩
    · obtain rfl : j = d.ords.length := by omega
      rw [List.take_length] at hok
      have HR : Hid (revF d.fro q = bad 131) := Lib.hid (by
        unfold revF
        rw [if_neg]
        rw [List.any_eq_true]
        rintro ⟨o, ho, h⟩
        rw [dfro_ords] at ho
        obtain ⟨x, hx, rfl⟩ := List.mem_map.1 ho
        have := hok x hx
        unfold revB at this
        rw [h] at this
        cases this)
      have HX2 := Lib.hid hx
      have hjd : decide (d.ords.length < d.ords.length) = false := by simp
      clear hx hj hok
      go_wp2
      go_ret2
      rw [HR.out]
      exact methPost_bad (E := 131) (by decide) rfl (grown_ext (HX.out.trans HX2.out) (some b))
end Go.Proofs.YtfpmfegmehbfbaaGreatDoor
