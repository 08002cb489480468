/- Parts of the proofs, put together: Or21. -/
import Derived.Test.YtfpmfegmehbfbaaGreatDoorD23
/- The door, walked: whether an order may be. -/
namespace Go.Proofs.YtfpmfegmehbfbaaGreatDoor
set_option linter.unusedVariables false
set_option linter.unusedSimpArgs false
open Go.RowKit Go.Shelf Go.Maps

theorem arr8 {W : World} {g : Nat} {T : TypeId} {a b c d e f h i : Value} (k : Blk W g T #[a, b, c, d, e, f, h, i]) : W.cell? ⟨g, 0, none⟩ = some a ∧ W.cell? ⟨g, 1, none⟩ = some b ∧ W.cell? ⟨g, 2, none⟩ = some c ∧ W.cell? ⟨g, 3, none⟩ = some d ∧ W.cell? ⟨g, 4, none⟩ = some e ∧ W.cell? ⟨g, 5, none⟩ = some f ∧ W.cell? ⟨g, 6, none⟩ = some h ∧ W.cell? ⟨g, 7, none⟩ = some i :=
  ⟨k.cell 0, k.cell 1, k.cell 2, k.cell 3, k.cell 4, k.cell 5, k.cell 6, k.cell 7⟩
/-- May an order be, where these serial numbers were met? -/
def mayO (d : DoorX) (i : Nat) (l : List Int) (o : OrdR) : Prop := ordP d.accs.length d.auts i o ∧ serP d.ser o ∧ (o.st = 5 → o.ser ∉ l)
def addI (l : List Int) (o : OrdR) : List Int := if o.st = 5 then l ++ [o.ser] else l
def mayPost (d : DoorX) (i : Nat) (l : List Int) (o : OrdR) (m : Nat) (w : World) (e : Ending) (w' : World) : Prop :=
  (mayO d i l o ∧ e = .returned (.bool true) ∧ SetIs w' m (addI l o) ∧ w.grownBy w' (some m)) ∨ (¬ mayO d i l o ∧ e = .returned (.bool false) ∧ Ext w w')
theorem mayPost_no {d : DoorX} {i : Nat} {l : List Int} {o : OrdR} {m : Nat} {w w' : World} {e : Ending} (h : ¬ mayO d i l o) (he : e = .returned (.bool false)) (x : Ext w w') : mayPost d i l o m w e w' := .inr ⟨h, he, x⟩
theorem mayPost_yes {d : DoorX} {i : Nat} {l : List Int} {o : OrdR} {m : Nat} {w w' : World} {e : Ending} (h : mayO d i l o) (he : e = .returned (.bool true)) (hs : SetIs w' m (addI l o)) (x : w.grownBy w' (some m)) : mayPost d i l o m w e w' := .inl ⟨h, he, hs, x⟩
/-- As many of an order's authorizations are right. -/
def hasTo (f : List AutR) (o : OrdR) (j : Nat) : Prop := ∀ k (h : k < o.auths.length) (h' : k < o.names.length), k < j → hasP f o.acc o.auths[k] o.names[k]
theorem hasTo_succ {f : List AutR} {o : OrdR} {j : Nat} {n : Int} {s : ByteArray} (h : hasTo f o j) (hn : o.auths[j]? = some n) (hs : o.names[j]? = some s) (hp : hasP f o.acc n s) : hasTo f o (j + 1) := fun k h1 h2 h3 => by
  by_cases e : k = j
  · subst e
    obtain ⟨_, rfl⟩ := List.getElem?_eq_some_iff.1 hn
    obtain ⟨_, rfl⟩ := List.getElem?_eq_some_iff.1 hs
    exact hp
  · exact h k h1 h2 (by omega)
theorem hasTo_no {d : DoorX} {i : Nat} {l : List Int} {o : OrdR} {j : Nat} {n : Int} {s : ByteArray} (hn : o.auths[j]? = some n) (hs : o.names[j]? = some s) (hp : ¬ hasP d.auts o.acc n s) : ¬ mayO d i l o := fun h => hp (by
  obtain ⟨h1, rfl⟩ := List.getElem?_eq_some_iff.1 hn
  obtain ⟨h2, rfl⟩ := List.getElem?_eq_some_iff.1 hs
  exact h.1.2.2.2.2.2.2.2.2 j h1 h2)
set_option maxRecDepth 100000 in
set_option maxHeartbeats 16000000 in
theorem mayOrd_any (b : Nat) (d : DoorX) (now : Int) (i : Nat) (x : OrdX) (hi : d.ords[i]? = some x) (hib : (i : Int) ≤ 1099511627776) (m : Nat) (l : List Int) (hl : l.length ≤ 1099511627776) (w : World) (xw : OrdW w w.heap.size x) (h : DoorB w b d now)
    (hr : Reads w w.heap.size 8 d.rA d.ords.length (ordV d.ords)) (hu : Reads w w.heap.size 7 d.uA d.auts.length (autV d.auts)) (hul : d.auts.length ≤ 1099511627776) (hs : SetIs w m l) :
    Calls Tryz.prog 176 #[.pointer (some ⟨b, 0, none⟩), .int .i64 (i : Int), .map (some m)] w (mayPost d i l x.o m w) := by
  obtain ⟨a0, a1, a2, a3, a4, a5, a6⟩ := arr7 h
  have hil : (i : Int) < (d.ords.length : Int) := by have := (List.getElem?_eq_some_iff.1 hi).1; omega
  obtain ⟨ad, hA, hlt, q0, q1, q2, q3, q4, q5, q6, q7⟩ := reads_ord hr hi
  rw [hA] at a4
  have HB := Lib.hid (Blk.new w 109 #[.int .i64 x.o.id, .int .i64 x.o.acc, .slice x.nA x.o.names.length x.nc, .int .u64 (x.o.key : Int), .int .i64 x.o.life, .slice x.aA x.o.auths.length x.ac, .int .i64 x.o.st, .int .i64 x.o.ser])
  have HD := Lib.hid h
  have HXW := Lib.hid xw
  have HU := Lib.hid hu
  have HUL := Lib.hid hul
  have HL := Lib.hid hl
  have HS := Lib.hid hs
  clear h hr hi hA hlt xw hu hul hl hs
  go_enter Tryz.func176, Tryz.ntmps176
  go_upto_region 2 with (fail)
  obtain ⟨W1, e1⟩ : ∃ W, W = w.alloc (.cells #[.int .i64 x.o.id, .int .i64 x.o.acc, .slice x.nA x.o.names.length x.nc, .int .u64 (x.o.key : Int), .int .i64 x.o.life, .slice x.aA x.o.auths.length x.ac, .int .i64 x.o.st, .int .i64 x.o.ser] 109) := ⟨_, rfl⟩
  rw [← e1] at HB ⊢
  have HX1 : Hid (Ext w W1) := by rw [e1]; exact (Ext.refl w).alloc _
  have HDB := Lib.hid (DoorB.ext HD.out HX1.out)
  clear e1 a0 a1 a2 a3 a4 a5 a6 q0 q1 q2 q3 q4 q5 q6 q7
  have cA := hasAcc_any b d now x.o.acc W1 HDB.out
  have cO := orderable_any x.o.names HXW.out.nl HXW.out.ns x.nA x.nc HXW.out.nc W1 ((HXW.out.names.below HX1.out.out).more HX1.out.size)
  have cI := In_any x.o.key HXW.out.key
  have HK := Lib.hid fun (W : World) (y : Ext W1 W) => arr8 (ext_blk y HB.out)
  have k : ∀ W, Ext W1 W → _ := fun W y => HK.out W y
  obtain ⟨k0, k1, k2, k3, k4, k5, k6, k7⟩ := HK.out W1 (Ext.refl W1)
  clear k
  by_cases h1 : x.o.id = (i : Int) + 1
  case neg =>
    have hno : Hid (¬ mayO d i l x.o) := Lib.hid fun h => h1 (h.1.1)
    have d1 : (x.o.id != (i : Int) + 1) = true := by simp [h1]
    clear h1 cA cO cI
    go_wp2
    go_ret
    exact mayPost_no hno.out rfl HX1.out
  have d1 : (x.o.id != (i : Int) + 1) = false := by simp [h1]
  by_cases h2 : 1 ≤ x.o.acc ∧ x.o.acc ≤ (d.accs.length : Int)
  case neg =>
    have hno : Hid (¬ mayO d i l x.o) := Lib.hid fun h => h2 (⟨h.1.2.1, h.1.2.2.1⟩)
    rw [show decide (1 ≤ x.o.acc ∧ x.o.acc ≤ (d.accs.length : Int)) = false from decide_eq_false h2] at cA
    clear h1 h2 cO cI
    go_wp2_with (go_at_call 96; refine cA.mono ?_; clear cA; rintro e w2 ⟨rfl, rfl⟩)
    go_ret
    exact mayPost_no hno.out rfl HX1.out
  rw [show decide (1 ≤ x.o.acc ∧ x.o.acc ≤ (d.accs.length : Int)) = true from decide_eq_true h2] at cA
  by_cases h3 : namesP x.o.names
  case neg =>
    have hno : Hid (¬ mayO d i l x.o) := Lib.hid fun h => h3 (h.1.2.2.2.1)
    rw [show decide (namesP x.o.names) = false from decide_eq_false h3] at cO
    clear h1 h2 h3 cI
    go_wp2_with (first | (go_at_call 96; refine cA.mono ?_; clear cA; rintro e w2 ⟨rfl, rfl⟩) | (go_at_call 177; refine cO.mono ?_; clear cO; rintro e w3 ⟨rfl, x3⟩; have x9 := x3; clear k0 k1 k2 k3 k4 k5 k6 k7; obtain ⟨k0, k1, k2, k3, k4, k5, k6, k7⟩ := HK.out _ x3))
    go_ret
    exact mayPost_no hno.out rfl (HX1.out.trans x9)
  rw [show decide (namesP x.o.names) = true from decide_eq_true h3] at cO
  by_cases h4 : inB x.o.key = true
  case neg =>
    have hno : Hid (¬ mayO d i l x.o) := Lib.hid fun h => h4 (h.1.2.2.2.2.1)
    rw [show inB x.o.key = false from (by cases e : inB x.o.key with | false => rfl | true => exact absurd e h4)] at cI
    clear h1 h2 h3 h4
    go_wp2_with (first | (go_at_call 96; refine cA.mono ?_; clear cA; rintro e w2 ⟨rfl, rfl⟩) | (go_at_call 177; refine cO.mono ?_; clear cO; rintro e w3 ⟨rfl, x3⟩; have x9 := x3; clear k0 k1 k2 k3 k4 k5 k6 k7; obtain ⟨k0, k1, k2, k3, k4, k5, k6, k7⟩ := HK.out _ x3) | (go_at_call 115; refine (cI _).mono ?_; clear cI; rintro e w4 ⟨rfl, x4⟩; clear k0 k1 k2 k3 k4 k5 k6 k7 x9; have x9 := x3.trans x4; obtain ⟨k0, k1, k2, k3, k4, k5, k6, k7⟩ := HK.out _ x9))
    go_ret
    exact mayPost_no hno.out rfl (HX1.out.trans x9)
  rw [show inB x.o.key = true from h4] at cI
  by_cases h5 : 1 ≤ x.o.life
  case neg =>
    have hno : Hid (¬ mayO d i l x.o) := Lib.hid fun h => h5 (h.1.2.2.2.2.2.1)
    have d5 : decide (x.o.life < 1) = true := decide_eq_true (by omega)
    clear h1 h2 h3 h4 h5
    go_wp2_with (first | (go_at_call 96; refine cA.mono ?_; clear cA; rintro e w2 ⟨rfl, rfl⟩) | (go_at_call 177; refine cO.mono ?_; clear cO; rintro e w3 ⟨rfl, x3⟩; have x9 := x3; clear k0 k1 k2 k3 k4 k5 k6 k7; obtain ⟨k0, k1, k2, k3, k4, k5, k6, k7⟩ := HK.out _ x3) | (go_at_call 115; refine (cI _).mono ?_; clear cI; rintro e w4 ⟨rfl, x4⟩; clear k0 k1 k2 k3 k4 k5 k6 k7 x9; have x9 := x3.trans x4; obtain ⟨k0, k1, k2, k3, k4, k5, k6, k7⟩ := HK.out _ x9))
    go_ret
    exact mayPost_no hno.out rfl (HX1.out.trans x9)
  have d5 : decide (x.o.life < 1) = false := decide_eq_false (by omega)
  by_cases h6 : x.o.life ≤ 1000
  case neg =>
    have hno : Hid (¬ mayO d i l x.o) := Lib.hid fun h => h6 (h.1.2.2.2.2.2.2.1)
    have d6 : decide (1000 < x.o.life) = true := decide_eq_true (by omega)
    clear h1 h2 h3 h4 h5 h6
    go_wp2_with (first | (go_at_call 96; refine cA.mono ?_; clear cA; rintro e w2 ⟨rfl, rfl⟩) | (go_at_call 177; refine cO.mono ?_; clear cO; rintro e w3 ⟨rfl, x3⟩; have x9 := x3; clear k0 k1 k2 k3 k4 k5 k6 k7; obtain ⟨k0, k1, k2, k3, k4, k5, k6, k7⟩ := HK.out _ x3) | (go_at_call 115; refine (cI _).mono ?_; clear cI; rintro e w4 ⟨rfl, x4⟩; clear k0 k1 k2 k3 k4 k5 k6 k7 x9; have x9 := x3.trans x4; obtain ⟨k0, k1, k2, k3, k4, k5, k6, k7⟩ := HK.out _ x9))
    go_ret
    exact mayPost_no hno.out rfl (HX1.out.trans x9)
  have d6 : decide (1000 < x.o.life) = false := decide_eq_false (by omega)
  by_cases h7 : x.o.auths.length = x.o.names.length
  case neg =>
    have hno : Hid (¬ mayO d i l x.o) := Lib.hid fun h => h7 (h.1.2.2.2.2.2.2.2.1)
    have d7 : ((x.o.auths.length : Int) != (x.o.names.length : Int)) = true := by simp [bne_iff_ne]; omega
    clear h1 h2 h3 h4 h5 h6 h7
    go_wp2_with (first | (go_at_call 96; refine cA.mono ?_; clear cA; rintro e w2 ⟨rfl, rfl⟩) | (go_at_call 177; refine cO.mono ?_; clear cO; rintro e w3 ⟨rfl, x3⟩; have x9 := x3; clear k0 k1 k2 k3 k4 k5 k6 k7; obtain ⟨k0, k1, k2, k3, k4, k5, k6, k7⟩ := HK.out _ x3) | (go_at_call 115; refine (cI _).mono ?_; clear cI; rintro e w4 ⟨rfl, x4⟩; clear k0 k1 k2 k3 k4 k5 k6 k7 x9; have x9 := x3.trans x4; obtain ⟨k0, k1, k2, k3, k4, k5, k6, k7⟩ := HK.out _ x9))
    go_ret
    exact mayPost_no hno.out rfl (HX1.out.trans x9)
  have d7 : ((x.o.auths.length : Int) != (x.o.names.length : Int)) = false := by rw [h7]; simp
  have HN := Lib.hid (And.intro h1 (And.intro h2.1 (And.intro h2.2 (And.intro h3 (And.intro h4 (And.intro h5 (And.intro h6 h7)))))))
  obtain ⟨ad1, hA1⟩ : ∃ ad, x.aA = some ad := by
    obtain ⟨ad, e, _⟩ := HXW.out.auths.2 (by have := h3.2.2.1; omega)
    exact ⟨ad, e⟩
  rw [hA1] at HK k5 ⊢
  have HA1 := Lib.hid hA1
  clear h1 h2 h3 h4 h5 h6 h7 hA1
  go_wp2_with (first
    | (go_at_call 96; refine cA.mono ?_; clear cA; rintro e w2 ⟨rfl, rfl⟩)
    | (go_at_call 177; refine cO.mono ?_; clear cO; rintro e w3 ⟨rfl, x3⟩; clear k0 k1 k2 k3 k4 k5 k6 k7; obtain ⟨k0, k1, k2, k3, k4, k5, k6, k7⟩ := HK.out _ x3)
    | (go_at_call 115; refine (cI _).mono ?_; clear cI; rintro e w4 ⟨rfl, x4⟩; clear k0 k1 k2 k3 k4 k5 k6 k7; have y4 := x3.trans x4; obtain ⟨k0, k1, k2, k3, k4, k5, k6, k7⟩ := HK.out _ y4))
  clear k0 k1 k2 k3 k4 k5 k6 k7 d1 d5 d6 d7
  have HY4 := Lib.hid y4
  clear x3 x4 y4
  go_loopg [64] x.o.auths.length (fun g s64 wr => ∃ j : Nat, j + g = x.o.auths.length ∧ s64 = .int .i64 j ∧ hasTo d.auts x.o j ∧ Ext w4 wr)
  case atStart => exact ⟨0, by omega, rfl, fun k h1 h2 h3 => by omega, Ext.refl w4⟩
  case round =>
    obtain ⟨j, hj, rfl, hok, hx⟩ := hrel
    have hjb : (j : Int) ≤ 1099511627776 := by have := HXW.out.al; omega
    have y5 := HY4.out.trans hx
    obtain ⟨k0, k1, k2, k3, k4, k5, k6, k7⟩ := HK.out _ y5
    obtain ⟨a0, a1, a2, a3, a4, a5, a6⟩ := arr7 (DoorB.ext HDB.out y5)
    by_cases hjl : j < x.o.auths.length
    · obtain ⟨n, hn⟩ : ∃ n, x.o.auths[j]? = some n := ⟨_, List.getElem?_eq_getElem hjl⟩
      obtain ⟨s, hs⟩ : ∃ s, x.o.names[j]? = some s := ⟨_, List.getElem?_eq_getElem (by have := HN.out.2.2.2.2.2.2.2; omega)⟩
      obtain ⟨ad1', hA1', p1⟩ := reads_id HXW.out.auths hn
      rw [HA1.out] at hA1'
      cases hA1'
      obtain ⟨ad2, hA2, p2⟩ := reads_text HXW.out.names hs
      have z5 := HX1.out.trans y5
      have p1 := z5.cell p1
      have p2 := z5.cell p2
      rw [hA2] at k2
      have hjn : (j : Int) < (x.o.names.length : Int) := by have := HN.out.2.2.2.2.2.2.2; omega
      have hwn := wf64_out (HXW.out.aw n (List.mem_of_getElem? hn))
      have HJ := Lib.hid hj
      have HO := Lib.hid hok
      have HHN := Lib.hid hn
      have HHS := Lib.hid hs
      have HZ := Lib.hid hx
      have HZ5 := Lib.hid z5
      clear hj hok hn hs hx hA2
      by_cases g1 : n < 1
      · have hno : Hid (¬ mayO d i l x.o) := Lib.hid (hasTo_no HHN.out HHS.out fun h => by have := h.1; omega)
        have d1 : decide (n < 1) = true := decide_eq_true g1
        clear g1 hwn
        go_wp2
        have j0 := fun q : Later wr => q.cell k1
        have j1 := fun q : Later wr => q.cell k2
        have j2 := fun q : Later wr => q.cell a3
        have j3 := fun q : Later wr => q.cell p2
        try (have j4 := fun q : Later wr => q.cell r1)
        try (have j5 := fun q : Later wr => q.cell r2)
        clear k0 k1 k2 k3 k4 k5 k6 k7 a0 a1 a2 a3 a4 a5 a6
        refine wp_region_later (by kernel_rfl) (by kernel_rfl) ?_
        repeat (go_big_quiet_step ((fail)))
        refine wpQuiet_nil ?_
        rintro W2 ⟨q, hq⟩
        have x6 : Ext w W2 := by rw [hq]; exact HZ5.out.trans q.ext
        clear j0 j1 j2 j3
        (try clear j4)
        (try clear j5)
        clear hq q
        go_wp2
        go_ret
        exact mayPost_no hno.out rfl x6
      have d1 : decide (n < 1) = false := decide_eq_false g1
      obtain ⟨a, rfl⟩ : ∃ a : Nat, n = (a : Int) + 1 := ⟨(n - 1).toNat, by omega⟩
      by_cases g2 : (d.auts.length : Int) < (a : Int) + 1
      · have hno : Hid (¬ mayO d i l x.o) := Lib.hid (hasTo_no HHN.out HHS.out fun h => by have := h.2.1; omega)
        have d2 : decide ((d.auts.length : Int) < (a : Int) + 1) = true := decide_eq_true g2
        clear g1 g2 hwn
        go_wp2
        have j0 := fun q : Later wr => q.cell k1
        have j1 := fun q : Later wr => q.cell k2
        have j2 := fun q : Later wr => q.cell a3
        have j3 := fun q : Later wr => q.cell p2
        try (have j4 := fun q : Later wr => q.cell r1)
        try (have j5 := fun q : Later wr => q.cell r2)
        clear k0 k1 k2 k3 k4 k5 k6 k7 a0 a1 a2 a3 a4 a5 a6
        refine wp_region_later (by kernel_rfl) (by kernel_rfl) ?_
        repeat (go_big_quiet_step ((fail)))
        refine wpQuiet_nil ?_
        rintro W2 ⟨q, hq⟩
        have x6 : Ext w W2 := by rw [hq]; exact HZ5.out.trans q.ext
        clear j0 j1 j2 j3
        (try clear j4)
        (try clear j5)
        clear hq q
        go_wp2
        go_ret
        exact mayPost_no hno.out rfl x6
      have d2 : decide ((d.auts.length : Int) < (a : Int) + 1) = false := decide_eq_false g2
      obtain ⟨u, hu⟩ : ∃ u, d.auts[a]? = some u := ⟨_, List.getElem?_eq_getElem (by omega)⟩
      obtain ⟨ad3, hA3, hlt3, r0, r1, r2, r3, r4, r5, r6⟩ := reads_aut HU.out hu
      rw [hA3] at a3
      have r1 := HZ5.out.cell r1
      have r2 := HZ5.out.cell r2
      have hal : (a : Int) < (d.auts.length : Int) := by omega
      have hab : (a : Int) ≤ 1099511627776 := by have := HUL.out; omega
      have e1 : IntKind.i64.wrap ((a : Int) + 1 - 1) = (a : Int) := by rw [IntKind.wrap_i64]; omega
      have HHU := Lib.hid hu
      clear hA3 hlt3 r0 r3 r4 r5 r6 hu g1 g2 hwn
      by_cases g3 : u.acc = x.o.acc
      · have d3 : (u.acc != x.o.acc) = false := by simp [g3]
        by_cases g4 : u.name = s
        · have d4 : (!u.name.toList == s.toList) = false := by simp [g4]
          have hok' : Hid (hasTo d.auts x.o (j + 1)) := Lib.hid (hasTo_succ HO.out HHN.out HHS.out ⟨by omega, by omega, fun v hv => by
            rw [show ((a : Int) + 1).toNat - 1 = a by omega, HHU.out] at hv
            cases hv; exact ⟨g3, g4⟩⟩)
          clear g3 g4
          go_wp2
          have j0 := fun q : Later wr => q.cell k1
          have j1 := fun q : Later wr => q.cell k2
          have j2 := fun q : Later wr => q.cell a3
          have j3 := fun q : Later wr => q.cell p2
          try (have j4 := fun q : Later wr => q.cell r1)
          try (have j5 := fun q : Later wr => q.cell r2)
          clear k0 k1 k2 k3 k4 k5 k6 k7 a0 a1 a2 a3 a4 a5 a6
          refine wp_region_later (by kernel_rfl) (by kernel_rfl) ?_
          repeat (go_big_quiet_step ((fail)))
          refine wpQuiet_nil ?_
          rintro W2 ⟨q, hq⟩
          have x6 : Ext w W2 := by rw [hq]; exact HZ5.out.trans q.ext
          clear j0 j1 j2 j3
          (try clear j4)
          (try clear j5)
          have x7 : Ext w4 W2 := by rw [hq]; exact HZ.out.trans q.ext
          clear hq q
          go_wp2
          have hj := HJ.out
          go_roundg (gk - 1)
          case measure => omega
          case rel => exact ⟨j + 1, by omega, int_congr (by omega), hok'.out, x7⟩
        · have d4 : (!u.name.toList == s.toList) = true := by rw [str_beq_false g4]; rfl
          have hno : Hid (¬ mayO d i l x.o) := Lib.hid (hasTo_no HHN.out HHS.out fun h => by
            have := h.2.2 u (by rw [show ((a : Int) + 1).toNat - 1 = a by omega, HHU.out]; rfl)
            exact g4 this.2)
          clear g3 g4
          go_wp2
          have j0 := fun q : Later wr => q.cell k1
          have j1 := fun q : Later wr => q.cell k2
          have j2 := fun q : Later wr => q.cell a3
          have j3 := fun q : Later wr => q.cell p2
          try (have j4 := fun q : Later wr => q.cell r1)
          try (have j5 := fun q : Later wr => q.cell r2)
          clear k0 k1 k2 k3 k4 k5 k6 k7 a0 a1 a2 a3 a4 a5 a6
          refine wp_region_later (by kernel_rfl) (by kernel_rfl) ?_
          repeat (go_big_quiet_step ((fail)))
          refine wpQuiet_nil ?_
          rintro W2 ⟨q, hq⟩
          have x6 : Ext w W2 := by rw [hq]; exact HZ5.out.trans q.ext
          clear j0 j1 j2 j3
          (try clear j4)
          (try clear j5)
          clear hq q
          go_wp2
          go_ret
          exact mayPost_no hno.out rfl x6
      · have d3 : (u.acc != x.o.acc) = true := by simp [g3]
        have hno : Hid (¬ mayO d i l x.o) := Lib.hid (hasTo_no HHN.out HHS.out fun h => by
          have := h.2.2 u (by rw [show ((a : Int) + 1).toNat - 1 = a by omega, HHU.out]; rfl)
          exact g3 this.1)
        clear g3
        go_wp2
        have j0 := fun q : Later wr => q.cell k1
        have j1 := fun q : Later wr => q.cell k2
        have j2 := fun q : Later wr => q.cell a3
        have j3 := fun q : Later wr => q.cell p2
        try (have j4 := fun q : Later wr => q.cell r1)
        try (have j5 := fun q : Later wr => q.cell r2)
        clear k0 k1 k2 k3 k4 k5 k6 k7 a0 a1 a2 a3 a4 a5 a6
        refine wp_region_later (by kernel_rfl) (by kernel_rfl) ?_
        repeat (go_big_quiet_step ((fail)))
        refine wpQuiet_nil ?_
        rintro W2 ⟨q, hq⟩
        have x6 : Ext w W2 := by rw [hq]; exact HZ5.out.trans q.ext
        clear j0 j1 j2 j3
        (try clear j4)
        (try clear j5)
        clear hq q
        go_wp2
        go_ret
        exact mayPost_no hno.out rfl x6
    · have hP : ordP d.accs.length d.auts i x.o := ⟨HN.out.1, HN.out.2.1, HN.out.2.2.1, HN.out.2.2.2.1, HN.out.2.2.2.2.1, HN.out.2.2.2.2.2.1, HN.out.2.2.2.2.2.2.1, HN.out.2.2.2.2.2.2.2, fun k h1 h2 => hok k h1 h2 (by omega)⟩
      have z5 := HX1.out.trans y5
      have hst := wf64_out HXW.out.st
      have hjd : decide (j < x.o.auths.length) = false := decide_eq_false hjl
      have HP := Lib.hid hP
      have HZ5 := Lib.hid z5
      have hS := SetIs.ext HS.out z5
      have HSS := Lib.hid hS
      clear hP hok hx y5 hj hjl z5 hS a0 a1 a2 a3 a4 a6 k0 k1 k2 k3 k4 k5
      have HX9 : Hid (w.grownBy wr (some m)) := Lib.hid (grown_ext HZ5.out (some m))
      have HWS := Lib.hid HXW.out.ser
      obtain ⟨lo, hi5⟩ := wf64_out HXW.out.ser
      by_cases s5 : x.o.st = 5
      · have e1 : (x.o.st == 1) = false := by simp [s5]
        have e2 : (x.o.st == 2) = false := by simp [s5]
        have e5 : (x.o.st == 5) = true := by simp [s5]
        have HS5 := Lib.hid s5
        have j6 := fun q : Later wr => q.cell k7
        have j7 := fun q : Later wr => q.cell a5
        clear s5 hst
        by_cases g1 : x.o.ser < 1
        · have d1 : decide (x.o.ser < 1) = true := decide_eq_true g1
          have hno : Hid (¬ mayO d i l x.o) := Lib.hid fun h => by have := h.2.1; unfold serP at this; rw [if_pos HS5.out] at this; omega
          clear g1
          go_wp2
          clear k6 k7 a5
          refine wp_region_later (by kernel_rfl) (by kernel_rfl) ?_
          repeat (go_big_quiet_step ((fail)))
          refine wpQuiet_nil ?_
          rintro W2 ⟨q, hq⟩
          have x6 : Ext w W2 := by rw [hq]; exact HZ5.out.trans q.ext
          clear hq q j6 j7
          go_wp2
          go_ret
          exact mayPost_no hno.out rfl x6
        have d1 : decide (x.o.ser < 1) = false := decide_eq_false g1
        by_cases g2 : d.ser < x.o.ser
        · have d2 : decide (d.ser < x.o.ser) = true := decide_eq_true g2
          have hno : Hid (¬ mayO d i l x.o) := Lib.hid fun h => by have := h.2.1; unfold serP at this; rw [if_pos HS5.out] at this; omega
          clear g1 g2
          go_wp2
          clear k6 k7 a5
          refine wp_region_later (by kernel_rfl) (by kernel_rfl) ?_
          repeat (go_big_quiet_step ((fail)))
          refine wpQuiet_nil ?_
          rintro W2 ⟨q, hq⟩
          have x6 : Ext w W2 := by rw [hq]; exact HZ5.out.trans q.ext
          clear hq q j6 j7
          go_wp2
          go_ret
          exact mayPost_no hno.out rfl x6
        have d2 : decide (d.ser < x.o.ser) = false := decide_eq_false g2
        by_cases g3 : x.o.ser ∈ l
        · have hlk : ∀ q : Later wr, (Instr.lookup 268 (.map (some m)) (.int .i64 x.o.ser) false).run Tryz.prog q.W = .ok (.bool true) q.W := fun q => by rw [SetIs.look (SetIs.ext HSS.out q.ext) x.o.ser HWS.out, decide_eq_true g3]
          have hno : Hid (¬ mayO d i l x.o) := Lib.hid fun h => h.2.2 HS5.out g3
          clear g1 g2 g3
          go_wp2
          clear k6 k7 a5
          refine wp_region_later (by kernel_rfl) (by kernel_rfl) ?_
          repeat (go_big_quiet_step ((fail)))
          refine wpQuiet_nil ?_
          rintro W2 ⟨q, hq⟩
          have x6 : Ext w W2 := by rw [hq]; exact HZ5.out.trans q.ext
          clear hq q j6 j7
          clear hlk
          go_wp2
          go_ret
          exact mayPost_no hno.out rfl x6
        · have hlk : ∀ q : Later wr, (Instr.lookup 268 (.map (some m)) (.int .i64 x.o.ser) false).run Tryz.prog q.W = .ok (.bool false) q.W := fun q => by rw [SetIs.look (SetIs.ext HSS.out q.ext) x.o.ser HWS.out, decide_eq_false g3]
          have hyes : Hid (mayO d i l x.o) := Lib.hid ⟨HP.out, by unfold serP; rw [if_pos HS5.out]; omega, fun _ => g3⟩
          clear g1 g2 g3
          go_wp2
          have K7 := Lib.hid k7
          clear k6 k7 a5
          refine wp_region_later (by kernel_rfl) (by kernel_rfl) ?_
          repeat (go_big_quiet_step ((fail)))
          refine wpQuiet_nil ?_
          rintro W2 ⟨q, hq⟩
          have x6 : Ext w W2 := by rw [hq]; exact HZ5.out.trans q.ext
          have HS2 : Hid (SetIs W2 m l) := by rw [hq]; exact Lib.hid (SetIs.ext HSS.out q.ext)
          have k7 : W2.cell? ⟨w.heap.size, 7, none⟩ = some (.int .i64 x.o.ser) := by rw [hq]; exact q.cell K7.out
          clear hq q j6 j7
          clear hlk
          go_wp2_with (at_mapUpdate; refine wpList_mapUpdate_own _ rfl _ _ _ 268 rfl 3 4 keyInt Tryz.underlying268 _ m _ _ rfl HS2.out (by have := HL.out; simp only [maxLen]; omega) _ _ _ rfl rfl (keyOf_int_mk Tryz.underlying3 HWS.out) tt [] (plainElem_bool Tryz.underlying4 true) ?_; intro w3 hown3 hg3; have O3 := Lib.hid (SetIs.put_ hown3); have HG3 := Lib.hid hg3; clear hown3 hg3)
          go_ret
          exact mayPost_yes hyes.out rfl (by unfold addI; rw [if_pos HS5.out]; exact O3.out) (World.grownBy.trans (grown_ext x6 (some m)) HG3.out)
      · have e5 : (x.o.st == 5) = false := by simp [s5]
        have HS5 := Lib.hid s5
        clear a5
        by_cases s1 : x.o.st = 1
        · have e1 : (x.o.st == 1) = true := by simp [s1]
          have HS1 : Hid (x.o.st = 1 ∨ x.o.st = 2) := Lib.hid (.inl s1)
          clear s1 s5 hst
          by_cases g1 : x.o.ser = 0
          · have f1 : (x.o.ser == 0) = true := by simp [g1]
            have hyes : Hid (mayO d i l x.o) := Lib.hid ⟨HP.out, by unfold serP; rw [if_neg HS5.out]; exact ⟨HS1.out, g1⟩, fun h => absurd h HS5.out⟩
            clear g1
            go_wp2
            go_ret
            exact mayPost_yes hyes.out rfl (by unfold addI; rw [if_neg HS5.out]; exact HSS.out) HX9.out
          · have f1 : (x.o.ser == 0) = false := by simp [g1]
            have hno : Hid (¬ mayO d i l x.o) := Lib.hid fun h => by have := h.2.1; unfold serP at this; rw [if_neg HS5.out] at this; exact g1 this.2
            clear g1
            go_wp2
            go_ret
            exact mayPost_no hno.out rfl HZ5.out
        · have e1 : (x.o.st == 1) = false := by simp [s1]
          by_cases s2 : x.o.st = 2
          · have e2 : (x.o.st == 2) = true := by simp [s2]
            have HS1 : Hid (x.o.st = 1 ∨ x.o.st = 2) := Lib.hid (.inr s2)
            clear s1 s2 s5 hst
            by_cases g1 : x.o.ser = 0
            · have f1 : (x.o.ser == 0) = true := by simp [g1]
              have hyes : Hid (mayO d i l x.o) := Lib.hid ⟨HP.out, by unfold serP; rw [if_neg HS5.out]; exact ⟨HS1.out, g1⟩, fun h => absurd h HS5.out⟩
              clear g1
              go_wp2
              go_ret
              exact mayPost_yes hyes.out rfl (by unfold addI; rw [if_neg HS5.out]; exact HSS.out) HX9.out
            · have f1 : (x.o.ser == 0) = false := by simp [g1]
              have hno : Hid (¬ mayO d i l x.o) := Lib.hid fun h => by have := h.2.1; unfold serP at this; rw [if_neg HS5.out] at this; exact g1 this.2
              clear g1
              go_wp2
              go_ret
              exact mayPost_no hno.out rfl HZ5.out
          · have e2 : (x.o.st == 2) = false := by simp [s2]
            have hno : Hid (¬ mayO d i l x.o) := Lib.hid fun h => by have := h.2.1; unfold serP at this; rw [if_neg HS5.out] at this; omega
            clear s1 s2 s5 hst
            go_wp2
            go_ret
            exact mayPost_no hno.out rfl HZ5.out
end Go.Proofs.YtfpmfegmehbfbaaGreatDoor
