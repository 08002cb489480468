/- Parts of the proofs, put together: Or21, Or22, Or23, Or24, Or25, Or26, Or27, Open6. -/
import Derived.Test.YtbhdmfijdhcehaaGreatDoorO12
import Derived.Test.YtbhdmfijdhcehaaGreatDoorO13
/- The door, walked: whether an order may be. -/
namespace Go.Proofs.YtbhdmfijdhcehaaGreatDoor
set_option linter.unusedVariables false
set_option linter.unusedSimpArgs false
open Go.RowKit Go.Shelf Go.Maps

theorem arr8 {W : World} {g : Nat} {T : TypeId} {a b c d e f h i : Value} (k : Blk W g T #[a, b, c, d, e, f, h, i]) : W.cell? ⟨g, 0, none⟩ = some a ∧ W.cell? ⟨g, 1, none⟩ = some b ∧ W.cell? ⟨g, 2, none⟩ = some c ∧ W.cell? ⟨g, 3, none⟩ = some d ∧ W.cell? ⟨g, 4, none⟩ = some e ∧ W.cell? ⟨g, 5, none⟩ = some f ∧ W.cell? ⟨g, 6, none⟩ = some h ∧ W.cell? ⟨g, 7, none⟩ = some i :=
  ⟨k.cell 0, k.cell 1, k.cell 2, k.cell 3, k.cell 4, k.cell 5, k.cell 6, k.cell 7⟩
/-- May an order be, where these serial numbers were met? -/
def mayO (d : DoorX) (i : Nat) (l : List Int) (o : OrdR) : Prop := ordP d.accs.length d.auts i o ∧ serP d.ser o ∧ (o.st = 5 → o.ser ∉ l)
def addI (l : List Int) (o : OrdR) : List Int := if o.st = 5 then l ++ [o.ser] else l
def mayPost (d : DoorX) (i : Nat) (l : List Int) (o : OrdR) (m : Nat) (w : World) (e : Ending) (w' : World) : Prop :=
  (mayO d i l o ∧ e = .returned (.bool true) ∧ SetIs w' m (addI l o) ∧ w.grownBy w' (some m)) ∨ (¬ mayO d i l o ∧ e = .returned (.bool false) ∧ Ext w w')
theorem mayPost_no {d : DoorX} {i : Nat} {l : List Int} {o : OrdR} {m : Nat} {w w' : World} {e : Ending} (h : ¬ mayO d i l o) (he : e = .returned (.bool false)) (x : Ext w w') : mayPost d i l o m w e w' := .inr ⟨h, he, x⟩
theorem mayPost_yes {d : DoorX} {i : Nat} {l : List Int} {o : OrdR} {m : Nat} {w w' : World} {e : Ending} (h : mayO d i l o) (he : e = .returned (.bool true)) (hs : SetIs w' m (addI l o)) (x : w.grownBy w' (some m)) : mayPost d i l o m w e w' := .inl ⟨h, he, hs, x⟩
/-- As many of an order's authorizations are right. -/
def hasTo (f : List AutR) (o : OrdR) (j : Nat) : Prop := ∀ k (h : k < o.auths.length) (h' : k < o.names.length), k < j → hasP f o.acc o.auths[k] o.names[k]
theorem hasTo_succ {f : List AutR} {o : OrdR} {j : Nat} {n : Int} {s : ByteArray} (h : hasTo f o j) (hn : o.auths[j]? = some n) (hs : o.names[j]? = some s) (hp : hasP f o.acc n s) : hasTo f o (j + 1) := fun k h1 h2 h3 => by
  by_cases e : k = j
  · subst e
    obtain ⟨_, rfl⟩ := List.getElem?_eq_some_iff.1 hn
    obtain ⟨_, rfl⟩ := List.getElem?_eq_some_iff.1 hs
    exact hp
  · exact h k h1 h2 (by omega)
theorem hasTo_no {d : DoorX} {i : Nat} {l : List Int} {o : OrdR} {j : Nat} {n : Int} {s : ByteArray} (hn : o.auths[j]? = some n) (hs : o.names[j]? = some s) (hp : ¬ hasP d.auts o.acc n s) : ¬ mayO d i l o := fun h => hp (by
  obtain ⟨h1, rfl⟩ := List.getElem?_eq_some_iff.1 hn
  obtain ⟨h2, rfl⟩ := List.getElem?_eq_some_iff.1 hs
  exact h.1.2.2.2.2.2.2.2.2 j h1 h2)
set_option maxRecDepth 100000 in
set_option maxHeartbeats 16000000 in
theorem mayOrd_any (b : Nat) (d : DoorX) (now : Int) (i : Nat) (x : OrdX) (hi : d.ords[i]? = some x) (hib : (i : Int) ≤ 1099511627776) (m : Nat) (l : List Int) (hl : l.length ≤ 1099511627776) (w : World) (xw : OrdW w w.heap.size x) (h : DoorB w b d now)
    (hr : Reads w w.heap.size 8 d.rA d.ords.length (ordV d.ords)) (hu : Reads w w.heap.size 7 d.uA d.auts.length (autV d.auts)) (hul : d.auts.length ≤ 1099511627776) (hs : SetIs w m l) :
    Calls Tryz.prog 65 #[.pointer (some ⟨b, 0, none⟩), .int .i64 (i : Int), .map (some m)] w (mayPost d i l x.o m w) := by
  obtain ⟨a0, a1, a2, a3, a4, a5, a6⟩ := arr7 h
  have hil : (i : Int) < (d.ords.length : Int) := by have := (List.getElem?_eq_some_iff.1 hi).1; omega
  obtain ⟨ad, hA, hlt, q0, q1, q2, q3, q4, q5, q6, q7⟩ := reads_ord hr hi
  rw [hA] at a4
  have HB := Lib.hid (Blk.new w 78 #[.int .i64 x.o.id, .int .i64 x.o.acc, .slice x.nA x.o.names.length x.nc, .int .u64 (x.o.key : Int), .int .i64 x.o.life, .slice x.aA x.o.auths.length x.ac, .int .i64 x.o.st, .int .i64 x.o.ser])
  have HD := Lib.hid h
  have HXW := Lib.hid xw
  have HU := Lib.hid hu
  have HUL := Lib.hid hul
  have HL := Lib.hid hl
  have HS := Lib.hid hs
  clear h hr hi hA hlt xw hu hul hl hs
  go_enter Tryz.func65, Tryz.ntmps65
  go_upto_region 2 with (fail)
  obtain ⟨W1, e1⟩ : ∃ W, W = w.alloc (.cells #[.int .i64 x.o.id, .int .i64 x.o.acc, .slice x.nA x.o.names.length x.nc, .int .u64 (x.o.key : Int), .int .i64 x.o.life, .slice x.aA x.o.auths.length x.ac, .int .i64 x.o.st, .int .i64 x.o.ser] 78) := ⟨_, rfl⟩
  rw [← e1] at HB ⊢
  have HX1 : Hid (Ext w W1) := by rw [e1]; exact (Ext.refl w).alloc _
  have HDB := Lib.hid (DoorB.ext HD.out HX1.out)
  clear e1 a0 a1 a2 a3 a4 a5 a6 q0 q1 q2 q3 q4 q5 q6 q7
  have cA := hasAcc_any b d now x.o.acc W1 HDB.out
  have cO := orderable_any x.o.names HXW.out.nl HXW.out.ns x.nA x.nc HXW.out.nc W1 ((HXW.out.names.below HX1.out.out).more HX1.out.size)
  have cI := In_any x.o.key HXW.out.key
  have HK := Lib.hid fun (W : World) (y : Ext W1 W) => arr8 (ext_blk y HB.out)
  have k : ∀ W, Ext W1 W → _ := fun W y => HK.out W y
  obtain ⟨k0, k1, k2, k3, k4, k5, k6, k7⟩ := HK.out W1 (Ext.refl W1)
  clear k
  by_cases h1 : x.o.id = (i : Int) + 1
  case neg =>
    have hno : Hid (¬ mayO d i l x.o) := Lib.hid fun h => h1 (h.1.1)
    have d1 : (x.o.id != (i : Int) + 1) = true := by simp [h1]
    clear h1 cA cO cI
    go_wp2
    go_ret
    exact mayPost_no hno.out rfl HX1.out
  have d1 : (x.o.id != (i : Int) + 1) = false := by simp [h1]
  by_cases h2 : 1 ≤ x.o.acc ∧ x.o.acc ≤ (d.accs.length : Int)
  case neg =>
    have hno : Hid (¬ mayO d i l x.o) := Lib.hid fun h => h2 (⟨h.1.2.1, h.1.2.2.1⟩)
    rw [show decide (1 ≤ x.o.acc ∧ x.o.acc ≤ (d.accs.length : Int)) = false from decide_eq_false h2] at cA
    clear h1 h2 cO cI
    go_wp2_with (go_at_call 47; refine cA.mono ?_; clear cA; rintro e w2 ⟨rfl, rfl⟩)
    go_ret
    exact mayPost_no hno.out rfl HX1.out
  rw [show decide (1 ≤ x.o.acc ∧ x.o.acc ≤ (d.accs.length : Int)) = true from decide_eq_true h2] at cA
  by_cases h3 : namesP x.o.names
  case neg =>
    have hno : Hid (¬ mayO d i l x.o) := Lib.hid fun h => h3 (h.1.2.2.2.1)
    rw [show decide (namesP x.o.names) = false from decide_eq_false h3] at cO
    clear h1 h2 h3 cI
    go_wp2_with (first | (go_at_call 47; refine cA.mono ?_; clear cA; rintro e w2 ⟨rfl, rfl⟩) | (go_at_call 85; refine cO.mono ?_; clear cO; rintro e w3 ⟨rfl, x3⟩; have x9 := x3; clear k0 k1 k2 k3 k4 k5 k6 k7; obtain ⟨k0, k1, k2, k3, k4, k5, k6, k7⟩ := HK.out _ x3))
    go_ret
    exact mayPost_no hno.out rfl (HX1.out.trans x9)
  rw [show decide (namesP x.o.names) = true from decide_eq_true h3] at cO
  by_cases h4 : inB x.o.key = true
  case neg =>
    have hno : Hid (¬ mayO d i l x.o) := Lib.hid fun h => h4 (h.1.2.2.2.2.1)
    rw [show inB x.o.key = false from (by cases e : inB x.o.key with | false => rfl | true => exact absurd e h4)] at cI
    clear h1 h2 h3 h4
    go_wp2_with (first | (go_at_call 47; refine cA.mono ?_; clear cA; rintro e w2 ⟨rfl, rfl⟩) | (go_at_call 85; refine cO.mono ?_; clear cO; rintro e w3 ⟨rfl, x3⟩; have x9 := x3; clear k0 k1 k2 k3 k4 k5 k6 k7; obtain ⟨k0, k1, k2, k3, k4, k5, k6, k7⟩ := HK.out _ x3) | (go_at_call 86; refine (cI _).mono ?_; clear cI; rintro e w4 ⟨rfl, x4⟩; clear k0 k1 k2 k3 k4 k5 k6 k7 x9; have x9 := x3.trans x4; obtain ⟨k0, k1, k2, k3, k4, k5, k6, k7⟩ := HK.out _ x9))
    go_ret
    exact mayPost_no hno.out rfl (HX1.out.trans x9)
  rw [show inB x.o.key = true from h4] at cI
  by_cases h5 : 1 ≤ x.o.life
  case neg =>
    have hno : Hid (¬ mayO d i l x.o) := Lib.hid fun h => h5 (h.1.2.2.2.2.2.1)
    have d5 : decide (x.o.life < 1) = true := decide_eq_true (by omega)
    clear h1 h2 h3 h4 h5
    go_wp2_with (first | (go_at_call 47; refine cA.mono ?_; clear cA; rintro e w2 ⟨rfl, rfl⟩) | (go_at_call 85; refine cO.mono ?_; clear cO; rintro e w3 ⟨rfl, x3⟩; have x9 := x3; clear k0 k1 k2 k3 k4 k5 k6 k7; obtain ⟨k0, k1, k2, k3, k4, k5, k6, k7⟩ := HK.out _ x3) | (go_at_call 86; refine (cI _).mono ?_; clear cI; rintro e w4 ⟨rfl, x4⟩; clear k0 k1 k2 k3 k4 k5 k6 k7 x9; have x9 := x3.trans x4; obtain ⟨k0, k1, k2, k3, k4, k5, k6, k7⟩ := HK.out _ x9))
    go_ret
    exact mayPost_no hno.out rfl (HX1.out.trans x9)
  have d5 : decide (x.o.life < 1) = false := decide_eq_false (by omega)
  by_cases h6 : x.o.life ≤ 1000
  case neg =>
    have hno : Hid (¬ mayO d i l x.o) := Lib.hid fun h => h6 (h.1.2.2.2.2.2.2.1)
    have d6 : decide (1000 < x.o.life) = true := decide_eq_true (by omega)
    clear h1 h2 h3 h4 h5 h6
    go_wp2_with (first | (go_at_call 47; refine cA.mono ?_; clear cA; rintro e w2 ⟨rfl, rfl⟩) | (go_at_call 85; refine cO.mono ?_; clear cO; rintro e w3 ⟨rfl, x3⟩; have x9 := x3; clear k0 k1 k2 k3 k4 k5 k6 k7; obtain ⟨k0, k1, k2, k3, k4, k5, k6, k7⟩ := HK.out _ x3) | (go_at_call 86; refine (cI _).mono ?_; clear cI; rintro e w4 ⟨rfl, x4⟩; clear k0 k1 k2 k3 k4 k5 k6 k7 x9; have x9 := x3.trans x4; obtain ⟨k0, k1, k2, k3, k4, k5, k6, k7⟩ := HK.out _ x9))
    go_ret
    exact mayPost_no hno.out rfl (HX1.out.trans x9)
  have d6 : decide (1000 < x.o.life) = false := decide_eq_false (by omega)
  by_cases h7 : x.o.auths.length = x.o.names.length
  case neg =>
    have hno : Hid (¬ mayO d i l x.o) := Lib.hid fun h => h7 (h.1.2.2.2.2.2.2.2.1)
    have d7 : ((x.o.auths.length : Int) != (x.o.names.length : Int)) = true := by simp [bne_iff_ne]; omega
    clear h1 h2 h3 h4 h5 h6 h7
    go_wp2_with (first | (go_at_call 47; refine cA.mono ?_; clear cA; rintro e w2 ⟨rfl, rfl⟩) | (go_at_call 85; refine cO.mono ?_; clear cO; rintro e w3 ⟨rfl, x3⟩; have x9 := x3; clear k0 k1 k2 k3 k4 k5 k6 k7; obtain ⟨k0, k1, k2, k3, k4, k5, k6, k7⟩ := HK.out _ x3) | (go_at_call 86; refine (cI _).mono ?_; clear cI; rintro e w4 ⟨rfl, x4⟩; clear k0 k1 k2 k3 k4 k5 k6 k7 x9; have x9 := x3.trans x4; obtain ⟨k0, k1, k2, k3, k4, k5, k6, k7⟩ := HK.out _ x9))
    go_ret
    exact mayPost_no hno.out rfl (HX1.out.trans x9)
  have d7 : ((x.o.auths.length : Int) != (x.o.names.length : Int)) = false := by rw [h7]; simp
  have HN := Lib.hid (And.intro h1 (And.intro h2.1 (And.intro h2.2 (And.intro h3 (And.intro h4 (And.intro h5 (And.intro h6 h7)))))))
  obtain ⟨ad1, hA1⟩ : ∃ ad, x.aA = some ad := by
    obtain ⟨ad, e, _⟩ := HXW.out.auths.2 (by have := h3.2.2.1; omega)
    exact ⟨ad, e⟩
  rw [hA1] at HK k5 ⊢
  have HA1 := Lib.hid hA1
  clear h1 h2 h3 h4 h5 h6 h7 hA1
  go_wp2_with (first
    | (go_at_call 47; refine cA.mono ?_; clear cA; rintro e w2 ⟨rfl, rfl⟩)
    | (go_at_call 85; refine cO.mono ?_; clear cO; rintro e w3 ⟨rfl, x3⟩; clear k0 k1 k2 k3 k4 k5 k6 k7; obtain ⟨k0, k1, k2, k3, k4, k5, k6, k7⟩ := HK.out _ x3)
    | (go_at_call 86; refine (cI _).mono ?_; clear cI; rintro e w4 ⟨rfl, x4⟩; clear k0 k1 k2 k3 k4 k5 k6 k7; have y4 := x3.trans x4; obtain ⟨k0, k1, k2, k3, k4, k5, k6, k7⟩ := HK.out _ y4))
  clear k0 k1 k2 k3 k4 k5 k6 k7 d1 d5 d6 d7
  have HY4 := Lib.hid y4
  clear x3 x4 y4
  go_loopg [64] x.o.auths.length (fun g s64 wr => ∃ j : Nat, j + g = x.o.auths.length ∧ s64 = .int .i64 j ∧ hasTo d.auts x.o j ∧ Ext w4 wr)
  case atStart => exact ⟨0, by omega, rfl, fun k h1 h2 h3 => by omega, Ext.refl w4⟩
  case round =>
    obtain ⟨j, hj, rfl, hok, hx⟩ := hrel
    have hjb : (j : Int) ≤ 1099511627776 := by have := HXW.out.al; omega
    have y5 := HY4.out.trans hx
    obtain ⟨k0, k1, k2, k3, k4, k5, k6, k7⟩ := HK.out _ y5
    obtain ⟨a0, a1, a2, a3, a4, a5, a6⟩ := arr7 (DoorB.ext HDB.out y5)
    by_cases hjl : j < x.o.auths.length
    · obtain ⟨n, hn⟩ : ∃ n, x.o.auths[j]? = some n := ⟨_, List.getElem?_eq_getElem hjl⟩
      obtain ⟨s, hs⟩ : ∃ s, x.o.names[j]? = some s := ⟨_, List.getElem?_eq_getElem (by have := HN.out.2.2.2.2.2.2.2; omega)⟩
      obtain ⟨ad1', hA1', p1⟩ := reads_id HXW.out.auths hn
      rw [HA1.out] at hA1'
      cases hA1'
      obtain ⟨ad2, hA2, p2⟩ := reads_text HXW.out.names hs
      have z5 := HX1.out.trans y5
      have p1 := z5.cell p1
      have p2 := z5.cell p2
      rw [hA2] at k2
      have hjn : (j : Int) < (x.o.names.length : Int) := by have := HN.out.2.2.2.2.2.2.2; omega
      have hwn := wf64_out (HXW.out.aw n (List.mem_of_getElem? hn))
      have HJ := Lib.hid hj
      have HO := Lib.hid hok
      have HHN := Lib.hid hn
      have HHS := Lib.hid hs
      have HZ := Lib.hid hx
      have HZ5 := Lib.hid z5
      clear hj hok hn hs hx hA2
      by_cases g1 : n < 1
      · have hno : Hid (¬ mayO d i l x.o) := Lib.hid (hasTo_no HHN.out HHS.out fun h => by have := h.1; omega)
        have d1 : decide (n < 1) = true := decide_eq_true g1
        clear g1 hwn
        go_wp2
        have j0 := fun q : Later wr => q.cell k1
        have j1 := fun q : Later wr => q.cell k2
        have j2 := fun q : Later wr => q.cell a3
        have j3 := fun q : Later wr => q.cell p2
        try (have j4 := fun q : Later wr => q.cell r1)
        try (have j5 := fun q : Later wr => q.cell r2)
        clear k0 k1 k2 k3 k4 k5 k6 k7 a0 a1 a2 a3 a4 a5 a6
        refine wp_region_later (by kernel_rfl) (by kernel_rfl) ?_
        repeat (go_big_quiet_step ((fail)))
        refine wpQuiet_nil ?_
        rintro W2 ⟨q, hq⟩
        have x6 : Ext w W2 := by rw [hq]; exact HZ5.out.trans q.ext
        clear j0 j1 j2 j3
        (try clear j4)
        (try clear j5)
        clear hq q
        go_wp2
        go_ret
        exact mayPost_no hno.out rfl x6
      have d1 : decide (n < 1) = false := decide_eq_false g1
      obtain ⟨a, rfl⟩ : ∃ a : Nat, n = (a : Int) + 1 := ⟨(n - 1).toNat, by omega⟩
      by_cases g2 : (d.auts.length : Int) < (a : Int) + 1
      · have hno : Hid (¬ mayO d i l x.o) := Lib.hid (hasTo_no HHN.out HHS.out fun h => by have := h.2.1; omega)
        have d2 : decide ((d.auts.length : Int) < (a : Int) + 1) = true := decide_eq_true g2
        clear g1 g2 hwn
        go_wp2
        have j0 := fun q : Later wr => q.cell k1
        have j1 := fun q : Later wr => q.cell k2
        have j2 := fun q : Later wr => q.cell a3
        have j3 := fun q : Later wr => q.cell p2
        try (have j4 := fun q : Later wr => q.cell r1)
        try (have j5 := fun q : Later wr => q.cell r2)
        clear k0 k1 k2 k3 k4 k5 k6 k7 a0 a1 a2 a3 a4 a5 a6
        refine wp_region_later (by kernel_rfl) (by kernel_rfl) ?_
        repeat (go_big_quiet_step ((fail)))
        refine wpQuiet_nil ?_
        rintro W2 ⟨q, hq⟩
        have x6 : Ext w W2 := by rw [hq]; exact HZ5.out.trans q.ext
        clear j0 j1 j2 j3
        (try clear j4)
        (try clear j5)
        clear hq q
        go_wp2
        go_ret
        exact mayPost_no hno.out rfl x6
      have d2 : decide ((d.auts.length : Int) < (a : Int) + 1) = false := decide_eq_false g2
      obtain ⟨u, hu⟩ : ∃ u, d.auts[a]? = some u := ⟨_, List.getElem?_eq_getElem (by omega)⟩
      obtain ⟨ad3, hA3, hlt3, r0, r1, r2, r3, r4, r5, r6⟩ := reads_aut HU.out hu
      rw [hA3] at a3
      have r1 := HZ5.out.cell r1
      have r2 := HZ5.out.cell r2
      have hal : (a : Int) < (d.auts.length : Int) := by omega
      have hab : (a : Int) ≤ 1099511627776 := by have := HUL.out; omega
      have e1 : IntKind.i64.wrap ((a : Int) + 1 - 1) = (a : Int) := by rw [IntKind.wrap_i64]; omega
      have HHU := Lib.hid hu
      clear hA3 hlt3 r0 r3 r4 r5 r6 hu g1 g2 hwn
      by_cases g3 : u.acc = x.o.acc
      · have d3 : (u.acc != x.o.acc) = false := by simp [g3]
        by_cases g4 : u.name = s
        · have d4 : (!u.name.toList == s.toList) = false := by simp [g4]
          have hok' : Hid (hasTo d.auts x.o (j + 1)) := Lib.hid (hasTo_succ HO.out HHN.out HHS.out ⟨by omega, by omega, fun v hv => by
            rw [show ((a : Int) + 1).toNat - 1 = a by omega, HHU.out] at hv
            cases hv; exact ⟨g3, g4⟩⟩)
          clear g3 g4
          go_wp2
          have j0 := fun q : Later wr => q.cell k1
          have j1 := fun q : Later wr => q.cell k2
          have j2 := fun q : Later wr => q.cell a3
          have j3 := fun q : Later wr => q.cell p2
          try (have j4 := fun q : Later wr => q.cell r1)
          try (have j5 := fun q : Later wr => q.cell r2)
          clear k0 k1 k2 k3 k4 k5 k6 k7 a0 a1 a2 a3 a4 a5 a6
          refine wp_region_later (by kernel_rfl) (by kernel_rfl) ?_
          repeat (go_big_quiet_step ((fail)))
          refine wpQuiet_nil ?_
          rintro W2 ⟨q, hq⟩
          have x6 : Ext w W2 := by rw [hq]; exact HZ5.out.trans q.ext
          clear j0 j1 j2 j3
          (try clear j4)
          (try clear j5)
          have x7 : Ext w4 W2 := by rw [hq]; exact HZ.out.trans q.ext
          clear hq q
          go_wp2
          have hj := HJ.out
          go_roundg (gk - 1)
          case measure => omega
          case rel => exact ⟨j + 1, by omega, int_congr (by omega), hok'.out, x7⟩
        · have d4 : (!u.name.toList == s.toList) = true := by rw [str_beq_false g4]; rfl
          have hno : Hid (¬ mayO d i l x.o) := Lib.hid (hasTo_no HHN.out HHS.out fun h => by
            have := h.2.2 u (by rw [show ((a : Int) + 1).toNat - 1 = a by omega, HHU.out]; rfl)
            exact g4 this.2)
          clear g3 g4
          go_wp2
          have j0 := fun q : Later wr => q.cell k1
          have j1 := fun q : Later wr => q.cell k2
          have j2 := fun q : Later wr => q.cell a3
          have j3 := fun q : Later wr => q.cell p2
          try (have j4 := fun q : Later wr => q.cell r1)
          try (have j5 := fun q : Later wr => q.cell r2)
          clear k0 k1 k2 k3 k4 k5 k6 k7 a0 a1 a2 a3 a4 a5 a6
          refine wp_region_later (by kernel_rfl) (by kernel_rfl) ?_
          repeat (go_big_quiet_step ((fail)))
          refine wpQuiet_nil ?_
          rintro W2 ⟨q, hq⟩
          have x6 : Ext w W2 := by rw [hq]; exact HZ5.out.trans q.ext
          clear j0 j1 j2 j3
          (try clear j4)
          (try clear j5)
          clear hq q
          go_wp2
          go_ret
          exact mayPost_no hno.out rfl x6
      · have d3 : (u.acc != x.o.acc) = true := by simp [g3]
        have hno : Hid (¬ mayO d i l x.o) := Lib.hid (hasTo_no HHN.out HHS.out fun h => by
          have := h.2.2 u (by rw [show ((a : Int) + 1).toNat - 1 = a by omega, HHU.out]; rfl)
          exact g3 this.1)
        clear g3
        go_wp2
        have j0 := fun q : Later wr => q.cell k1
        have j1 := fun q : Later wr => q.cell k2
        have j2 := fun q : Later wr => q.cell a3
        have j3 := fun q : Later wr => q.cell p2
        try (have j4 := fun q : Later wr => q.cell r1)
        try (have j5 := fun q : Later wr => q.cell r2)
        clear k0 k1 k2 k3 k4 k5 k6 k7 a0 a1 a2 a3 a4 a5 a6
        refine wp_region_later (by kernel_rfl) (by kernel_rfl) ?_
        repeat (go_big_quiet_step ((fail)))
        refine wpQuiet_nil ?_
        rintro W2 ⟨q, hq⟩
        have x6 : Ext w W2 := by rw [hq]; exact HZ5.out.trans q.ext
        clear j0 j1 j2 j3
        (try clear j4)
        (try clear j5)
        clear hq q
        go_wp2
        go_ret
        exact mayPost_no hno.out rfl x6
    · have hP : ordP d.accs.length d.auts i x.o := ⟨HN.out.1, HN.out.2.1, HN.out.2.2.1, HN.out.2.2.2.1, HN.out.2.2.2.2.1, HN.out.2.2.2.2.2.1, HN.out.2.2.2.2.2.2.1, HN.out.2.2.2.2.2.2.2, fun k h1 h2 => hok k h1 h2 (by omega)⟩
      have z5 := HX1.out.trans y5
      have hst := wf64_out HXW.out.st
      have hjd : decide (j < x.o.auths.length) = false := decide_eq_false hjl
      have HP := Lib.hid hP
      have HZ5 := Lib.hid z5
      have hS := SetIs.ext HS.out z5
      have HSS := Lib.hid hS
      clear hP hok hx y5 hj hjl z5 hS a0 a1 a2 a3 a4 a6 k0 k1 k2 k3 k4 k5
      have HX9 : Hid (w.grownBy wr (some m)) := Lib.hid (grown_ext HZ5.out (some m))
      have HWS := Lib.hid HXW.out.ser
      obtain ⟨lo, hi5⟩ := wf64_out HXW.out.ser
      by_cases s5 : x.o.st = 5
      · have e1 : (x.o.st == 1) = false := by simp [s5]
        have e2 : (x.o.st == 2) = false := by simp [s5]
        have e5 : (x.o.st == 5) = true := by simp [s5]
        have HS5 := Lib.hid s5
        have j6 := fun q : Later wr => q.cell k7
        have j7 := fun q : Later wr => q.cell a5
        clear s5 hst
        by_cases g1 : x.o.ser < 1
        · have d1 : decide (x.o.ser < 1) = true := decide_eq_true g1
          have hno : Hid (¬ mayO d i l x.o) := Lib.hid fun h => by have := h.2.1; unfold serP at this; rw [if_pos HS5.out] at this; omega
          clear g1
          go_wp2
          clear k6 k7 a5
          refine wp_region_later (by kernel_rfl) (by kernel_rfl) ?_
          repeat (go_big_quiet_step ((fail)))
          refine wpQuiet_nil ?_
          rintro W2 ⟨q, hq⟩
          have x6 : Ext w W2 := by rw [hq]; exact HZ5.out.trans q.ext
          clear hq q j6 j7
          go_wp2
          go_ret
          exact mayPost_no hno.out rfl x6
        have d1 : decide (x.o.ser < 1) = false := decide_eq_false g1
        by_cases g2 : d.ser < x.o.ser
        · have d2 : decide (d.ser < x.o.ser) = true := decide_eq_true g2
          have hno : Hid (¬ mayO d i l x.o) := Lib.hid fun h => by have := h.2.1; unfold serP at this; rw [if_pos HS5.out] at this; omega
          clear g1 g2
          go_wp2
          clear k6 k7 a5
          refine wp_region_later (by kernel_rfl) (by kernel_rfl) ?_
          repeat (go_big_quiet_step ((fail)))
          refine wpQuiet_nil ?_
          rintro W2 ⟨q, hq⟩
          have x6 : Ext w W2 := by rw [hq]; exact HZ5.out.trans q.ext
          clear hq q j6 j7
          go_wp2
          go_ret
          exact mayPost_no hno.out rfl x6
        have d2 : decide (d.ser < x.o.ser) = false := decide_eq_false g2
        by_cases g3 : x.o.ser ∈ l
        · have hlk : ∀ q : Later wr, (Instr.lookup 105 (.map (some m)) (.int .i64 x.o.ser) false).run Tryz.prog q.W = .ok (.bool true) q.W := fun q => by rw [SetIs.look (SetIs.ext HSS.out q.ext) x.o.ser HWS.out, decide_eq_true g3]
          have hno : Hid (¬ mayO d i l x.o) := Lib.hid fun h => h.2.2 HS5.out g3
          clear g1 g2 g3
          go_wp2
          clear k6 k7 a5
          refine wp_region_later (by kernel_rfl) (by kernel_rfl) ?_
          repeat (go_big_quiet_step ((fail)))
          refine wpQuiet_nil ?_
          rintro W2 ⟨q, hq⟩
          have x6 : Ext w W2 := by rw [hq]; exact HZ5.out.trans q.ext
          clear hq q j6 j7
          clear hlk
          go_wp2
          go_ret
          exact mayPost_no hno.out rfl x6
        · have hlk : ∀ q : Later wr, (Instr.lookup 105 (.map (some m)) (.int .i64 x.o.ser) false).run Tryz.prog q.W = .ok (.bool false) q.W := fun q => by rw [SetIs.look (SetIs.ext HSS.out q.ext) x.o.ser HWS.out, decide_eq_false g3]
          have hyes : Hid (mayO d i l x.o) := Lib.hid ⟨HP.out, by unfold serP; rw [if_pos HS5.out]; omega, fun _ => g3⟩
          clear g1 g2 g3
          go_wp2
          have K7 := Lib.hid k7
          clear k6 k7 a5
          refine wp_region_later (by kernel_rfl) (by kernel_rfl) ?_
          repeat (go_big_quiet_step ((fail)))
          refine wpQuiet_nil ?_
          rintro W2 ⟨q, hq⟩
          have x6 : Ext w W2 := by rw [hq]; exact HZ5.out.trans q.ext
          have HS2 : Hid (SetIs W2 m l) := by rw [hq]; exact Lib.hid (SetIs.ext HSS.out q.ext)
          have k7 : W2.cell? ⟨w.heap.size, 7, none⟩ = some (.int .i64 x.o.ser) := by rw [hq]; exact q.cell K7.out
          clear hq q j6 j7
          clear hlk
          go_wp2_with (at_mapUpdate; refine wpList_mapUpdate_own _ rfl _ _ _ 105 rfl 3 4 keyInt Tryz.underlying105 _ m _ _ rfl HS2.out (by have := HL.out; simp only [maxLen]; omega) _ _ _ rfl rfl (keyOf_int_mk Tryz.underlying3 HWS.out) tt [] (plainElem_bool Tryz.underlying4 true) ?_; intro w3 hown3 hg3; have O3 := Lib.hid (SetIs.put_ hown3); have HG3 := Lib.hid hg3; clear hown3 hg3)
          go_ret
          exact mayPost_yes hyes.out rfl (by unfold addI; rw [if_pos HS5.out]; exact O3.out) (World.grownBy.trans (grown_ext x6 (some m)) HG3.out)
      · have e5 : (x.o.st == 5) = false := by simp [s5]
        have HS5 := Lib.hid s5
        clear a5
        by_cases s1 : x.o.st = 1
        · have e1 : (x.o.st == 1) = true := by simp [s1]
          have HS1 : Hid (x.o.st = 1 ∨ x.o.st = 2) := Lib.hid (.inl s1)
          clear s1 s5 hst
          by_cases g1 : x.o.ser = 0
          · have f1 : (x.o.ser == 0) = true := by simp [g1]
            have hyes : Hid (mayO d i l x.o) := Lib.hid ⟨HP.out, by unfold serP; rw [if_neg HS5.out]; exact ⟨HS1.out, g1⟩, fun h => absurd h HS5.out⟩
            clear g1
            go_wp2
            go_ret
            exact mayPost_yes hyes.out rfl (by unfold addI; rw [if_neg HS5.out]; exact HSS.out) HX9.out
          · have f1 : (x.o.ser == 0) = false := by simp [g1]
            have hno : Hid (¬ mayO d i l x.o) := Lib.hid fun h => by have := h.2.1; unfold serP at this; rw [if_neg HS5.out] at this; exact g1 this.2
            clear g1
            go_wp2
            go_ret
            exact mayPost_no hno.out rfl HZ5.out
        · have e1 : (x.o.st == 1) = false := by simp [s1]
          by_cases s2 : x.o.st = 2
          · have e2 : (x.o.st == 2) = true := by simp [s2]
            have HS1 : Hid (x.o.st = 1 ∨ x.o.st = 2) := Lib.hid (.inr s2)
            clear s1 s2 s5 hst
            by_cases g1 : x.o.ser = 0
            · have f1 : (x.o.ser == 0) = true := by simp [g1]
              have hyes : Hid (mayO d i l x.o) := Lib.hid ⟨HP.out, by unfold serP; rw [if_neg HS5.out]; exact ⟨HS1.out, g1⟩, fun h => absurd h HS5.out⟩
              clear g1
              go_wp2
              go_ret
              exact mayPost_yes hyes.out rfl (by unfold addI; rw [if_neg HS5.out]; exact HSS.out) HX9.out
            · have f1 : (x.o.ser == 0) = false := by simp [g1]
              have hno : Hid (¬ mayO d i l x.o) := Lib.hid fun h => by have := h.2.1; unfold serP at this; rw [if_neg HS5.out] at this; exact g1 this.2
              clear g1
              go_wp2
              go_ret
              exact mayPost_no hno.out rfl HZ5.out
          · have e2 : (x.o.st == 2) = false := by simp [s2]
            have hno : Hid (¬ mayO d i l x.o) := Lib.hid fun h => by have := h.2.1; unfold serP at this; rw [if_neg HS5.out] at this; omega
            clear s1 s2 s5 hst
            go_wp2
            go_ret
            exact mayPost_no hno.out rfl HZ5.out
end Go.Proofs.YtbhdmfijdhcehaaGreatDoor

/- The door, walked: Check. -/
namespace Go.Proofs.YtbhdmfijdhcehaaGreatDoor
set_option linter.unusedVariables false
set_option linter.unusedSimpArgs false
open Go.RowKit Go.Shelf Go.Maps

theorem arr6f {W : World} {g : Nat} {T : TypeId} {a b c d e f : Value} (k : Blk W g T #[a, b, c, d, e, f]) : W.cell? ⟨g, 0, none⟩ = some a ∧ W.cell? ⟨g, 1, none⟩ = some b ∧ W.cell? ⟨g, 2, none⟩ = some c ∧ W.cell? ⟨g, 3, none⟩ = some d ∧ W.cell? ⟨g, 4, none⟩ = some e ∧ W.cell? ⟨g, 5, none⟩ = some f :=
  ⟨k.cell 0, k.cell 1, k.cell 2, k.cell 3, k.cell 4, k.cell 5⟩
theorem issued_len (l : List OrdR) : (issued l).length ≤ l.length := by unfold issued; rw [List.length_map]; exact List.length_filter_le _ _
theorem addI_issued (l : List OrdR) (o : OrdR) : addI (issued l) o = issued (l ++ [o]) := by rw [issued_add]; rfl
set_option maxRecDepth 100000 in
set_option maxHeartbeats 16000000 in
theorem oCheck_any (d : DoorX) (hu9 : d.auts.length < 100) (ha9 : d.accs.length < 100) (w : World) (hw : DoorW w w.heap.size d) :
    Calls Tryz.prog 21 #[frontV d] w fun e w' => e = .returned (.int .i64 (chkF d.fro : Nat)) ∧ Ext w w' := by
  have hmm := @run_makeMap Tryz.prog
  have cN := onum_any d.ser
  unfold frontV
  obtain ⟨W0, e0, b0, b1, x0, s0⟩ := startP w #[.int .i64 d.next, .slice d.oA d.opn.length d.oc, .slice d.cA d.accs.length d.cc, .slice d.uA d.auts.length d.uc, .slice d.rA d.ords.length d.rc, .int .i64 d.ser]
    #[.int .i64 d.next, .slice d.oA d.opn.length d.oc, .slice d.cA d.accs.length d.cc, .slice d.uA d.auts.length d.uc, .slice d.rA d.ords.length d.rc, .int .i64 d.ser, .int .i64 0] 43 92
  have cF := fCheck_any d.next d.opn d.oA d.oc W0 (hw.non.ext x0)
  unfold fenV at cF
  obtain ⟨E, hE⟩ : ∃ E, fenN d.next d.opn = E := ⟨_, rfl⟩
  rw [hE] at cF
  have HW := Lib.hid hw
  have HB0 := Lib.hid b0
  have HB1 := Lib.hid b1
  have HX0 := Lib.hid x0
  have HS0 := Lib.hid s0
  have HE := Lib.hid hE
  have HU9 := Lib.hid hu9
  have HA9 := Lib.hid ha9
  obtain ⟨k0, k1, k2, k3, k4, k5⟩ := arr6f b0
  clear b0 b1 x0 s0 hw hE hu9 ha9
  go_enter Tryz.func21, Tryz.ntmps21
  go_upto_region 2 with (fail)
  try rw [e0]
  clear e0
  go_cut [4] (fun s4 wx => Ext W0 wx ∧ s4 = .bool (decide (E = 0 ∧ numP d.ser)))
  case first =>
    by_cases h1 : E = 0
    · have d1 : ((E : Int) == 0) = true := by simp [h1]
      by_cases h2 : numP d.ser
      · rw [decide_eq_true h2] at cN
        have HH : Hid (E = 0 ∧ numP d.ser) := Lib.hid ⟨h1, h2⟩
        clear h1 h2
        go_wp2_with (first
          | (go_at_call 62; refine cF.mono ?_; clear cF; rintro e w1 ⟨rfl, x1⟩; have k5 := x1.cell k5)
          | (go_at_call 42; refine (cN _).mono ?_; clear cN; rintro e w2 ⟨rfl, rfl⟩))
        go_meet
        exact ⟨x1, by rw [decide_eq_true HH.out]⟩
      · rw [decide_eq_false h2] at cN
        have HH : Hid (¬ (E = 0 ∧ numP d.ser)) := Lib.hid (fun h => h2 h.2)
        clear h1 h2
        go_wp2_with (first
          | (go_at_call 62; refine cF.mono ?_; clear cF; rintro e w1 ⟨rfl, x1⟩; have k5 := x1.cell k5)
          | (go_at_call 42; refine (cN _).mono ?_; clear cN; rintro e w2 ⟨rfl, rfl⟩))
        go_meet
        exact ⟨x1, by rw [decide_eq_false HH.out]⟩
    · have d1 : ((E : Int) == 0) = false := by simp [h1]
      have HH : Hid (¬ (E = 0 ∧ numP d.ser)) := Lib.hid (fun h => h1 h.1)
      clear h1 cN
      go_wp2_with (go_at_call 62; refine cF.mono ?_; clear cF; rintro e w1 ⟨rfl, x1⟩; have k5 := x1.cell k5)
      go_meet
      exact ⟨x1, by rw [decide_eq_false HH.out]⟩
  case rest =>
    obtain ⟨hx, rfl⟩ := hcut
    clear cF cN
    obtain ⟨W1, hW1⟩ : ∃ W, W = wc := ⟨_, rfl⟩
    rw [← hW1] at hx ⊢
    clear hW1
    obtain ⟨ok, hok⟩ : ∃ b, b = decide (E = 0 ∧ numP d.ser) := ⟨_, rfl⟩
    rw [← hok]
    have HOK1 : Hid (ok = true → fenN d.next d.opn = 0 ∧ numP d.ser) := Lib.hid (fun h => by rw [hok] at h; have := of_decide_eq_true h; rw [HE.out]; exact this)
    have HOK2 : Hid (ok = false → ¬ doorP d.fro) := Lib.hid (fun h hd => by rw [hok] at h; exact (of_decide_eq_false h) ⟨HE.out.symm.trans hd.1, hd.2.1⟩)
    have HX1 := Lib.hid hx
    have xa : Ext W1 ((W1.alloc (.map #[] 0)).alloc (.map #[] 0)) := ((Ext.refl W1).alloc _).alloc _
    obtain ⟨k0, k1, k2, k3, k4, k5⟩ := arr6f (ext_blk (hx.trans xa) HB0.out)
    have HM : Hid (w.heap.size + 2 ≤ W1.heap.size) := Lib.hid (by have := hx.size; have := HS0.out; omega)
    clear hok hx xa
    go_wp2
    clear k0 k1 k2 k3 k4 k5 hmm
    go_loopg [4, 27] d.accs.length (fun g s4 s27 wr => ∃ (j : Nat) (ok : Bool), j + g = d.accs.length ∧ s27 = .int .i64 j ∧ s4 = .bool ok ∧ Ext w wr ∧
      Blk wr w.heap.size 43 #[.int .i64 d.next, .slice d.oA d.opn.length d.oc, .slice d.cA d.accs.length d.cc, .slice d.uA d.auts.length d.uc, .slice d.rA d.ords.length d.rc, .int .i64 d.ser] ∧ DoorB wr (w.heap.size + 1) d 0 ∧ SetIs wr (W1.heap.size + 1) [] ∧
      (ok = true → fenN d.next d.opn = 0 ∧ numP d.ser ∧ accsP (d.accs.take j) ∧ SetU wr W1.heap.size ((d.accs.take j).map (·.key))) ∧ (ok = false → ¬ doorP d.fro))
    case atStart =>
      have xa : Ext W1 ((W1.alloc (.map #[] 0)).alloc (.map #[] 0)) := ((Ext.refl W1).alloc _).alloc _
      refine ⟨0, ok, by omega, rfl, rfl, HX0.out.trans (HX1.out.trans xa), ext_blk (HX1.out.trans xa) HB0.out, ext_blk (HX1.out.trans xa) HB1.out, ?_, fun h => ⟨(HOK1.out h).1, (HOK1.out h).2, ⟨by simp, by simp⟩, ?_⟩, HOK2.out⟩
      · have := SetIs.new (W1.alloc (.map #[] 0)); simpa using this
      · exact SetU.ext (SetU.new W1) ((Ext.refl _).alloc _)
    case round =>
      obtain ⟨j, ok, hj, rfl, rfl, hx, hb, hd, hs, h1, h2⟩ := hrel
      have hjb : (j : Int) ≤ 1099511627776 := by have := HW.out.cl; omega
      by_cases hjl : j < d.accs.length
      · have hjd : decide (j < d.accs.length) = true := decide_eq_true hjl
        cases ok with
        | false =>
          have HX := Lib.hid hx
          have HB := Lib.hid hb
          have HD := Lib.hid hd
          have HS := Lib.hid hs
          have H2 := Lib.hid (h2 rfl)
          have HJ := Lib.hid hj
          clear hx hb hd hs h1 h2 hj
          go_wp2
          have hj := HJ.out
          go_roundg (gk - 1)
          case measure => omega
          case rel => exact ⟨j + 1, false, by omega, int_congr (by omega), rfl, HX.out, HB.out, HD.out, HS.out, fun h => (by cases h), fun _ => H2.out⟩
        | true =>
          obtain ⟨g1, g2, g3, g4⟩ := h1 rfl
          obtain ⟨x, hi⟩ : ∃ s, d.accs[j]? = some s := ⟨_, List.getElem?_eq_getElem hjl⟩
          have hk := (HW.out.cw x (List.mem_of_getElem? hi)).key
          have hrd : Reads wr wr.heap.size 2 d.cA d.accs.length (accV d.accs) := (HW.out.acc.below hx.out).more hx.size
          have hsu := accsP_succ hi
          have HX := Lib.hid hx
          by_cases hP : accP j x ∧ x.key ∉ (d.accs.take j).map (·.key)
          · have c1 := mayAcc_yes (w.heap.size + 1) d 0 j x hi hk W1.heap.size _ (by have := HW.out.cl; rw [List.length_map, List.length_take]; omega) hP.1 hP.2 hjb wr hd hrd g4
            have H1 : Hid (fenN d.next d.opn = 0 ∧ numP d.ser ∧ accsP (d.accs.take (j + 1))) := Lib.hid ⟨g1, g2, hsu.2 ⟨g3, hP⟩⟩
            have HE2 := Lib.hid (tk_snoc hi)
            have HB := Lib.hid hb
            have HD := Lib.hid hd
            have HS := Lib.hid hs
            have HJ := Lib.hid hj
            clear hx hb hd hs h1 h2 hj g1 g2 g3 g4 hi hk hrd hsu hP
            go_wp2_with (go_at_call 63; refine c1.mono ?_; clear c1; rintro e w2 ⟨rfl, hset, hg⟩; have HSET := Lib.hid hset; have HG := Lib.hid hg; clear hset hg)
            have hj := HJ.out
            have hm := HM.out
            have hm2 : W1.heap.size < wr.heap.size := by have := HS.out; have := World.ownsMap.lt this; omega
            go_roundg (gk - 1)
            case measure => omega
            case rel => exact ⟨j + 1, true, by omega, int_congr (by omega), rfl, Ext.of (HX.out.out.grown HG.out HX.out.size (fun k hk => by cases hk; omega)), HB.out.grown HG.out (by simp; omega), DoorB.grown HD.out HG.out (by simp; omega), SetIs.grown HS.out HG.out (by simp), fun _ => ⟨H1.out.1, H1.out.2.1, H1.out.2.2, by rw [HE2.out, List.map_append]; exact HSET.out⟩, fun h => by cases h⟩
          · have c1 := mayAcc_no (w.heap.size + 1) d 0 j x hi hk W1.heap.size _ hP hjb wr hd hrd g4
            have H2 : Hid (¬ doorP d.fro) := Lib.hid (fun h => accsP_not (j := j + 1) (fun h' => hP (hsu.1 h').2) h.2.2.1)
            have HB := Lib.hid hb
            have HD := Lib.hid hd
            have HS := Lib.hid hs
            have HJ := Lib.hid hj
            clear hx hb hd hs h1 h2 hj g1 g2 g3 g4 hi hk hrd hsu hP
            go_wp2_with (go_at_call 63; refine c1.mono ?_; clear c1; rintro e w2 ⟨rfl, x2⟩)
            have hj := HJ.out
            go_roundg (gk - 1)
            case measure => omega
            case rel => exact ⟨j + 1, false, by omega, int_congr (by omega), rfl, HX.out.trans x2, ext_blk x2 HB.out, DoorB.ext HD.out x2, SetIs.ext HS.out x2, fun h => (by cases h), fun _ => H2.out⟩
      · obtain rfl : j = d.accs.length := by omega
        rw [List.take_length] at h1
        have H1 : Hid (ok = true → fenN d.next d.opn = 0 ∧ numP d.ser ∧ accsP d.accs) := Lib.hid (fun h => ⟨(h1 h).1, (h1 h).2.1, (h1 h).2.2.1⟩)
        have H2 := Lib.hid h2
        have HX := Lib.hid hx
        have HB := Lib.hid hb
        have HD := Lib.hid hd
        have HS := Lib.hid hs
        obtain ⟨k0, k1, k2, k3, k4, k5⟩ := arr6f hb
        clear hx hb hd hs h1 h2 hj hjl
        go_wp2
        clear k0 k1 k2 k3 k4 k5
        go_loopg [4, 41] d.auts.length (fun g s4 s41 wr => ∃ (j : Nat) (ok : Bool), j + g = d.auts.length ∧ s41 = .int .i64 j ∧ s4 = .bool ok ∧ Ext w wr ∧
          Blk wr w.heap.size 43 #[.int .i64 d.next, .slice d.oA d.opn.length d.oc, .slice d.cA d.accs.length d.cc, .slice d.uA d.auts.length d.uc, .slice d.rA d.ords.length d.rc, .int .i64 d.ser] ∧ DoorB wr (w.heap.size + 1) d 0 ∧ SetIs wr (W1.heap.size + 1) [] ∧
          (ok = true → fenN d.next d.opn = 0 ∧ numP d.ser ∧ accsP d.accs ∧ autsP d.accs.length (d.auts.take j)) ∧ (ok = false → ¬ doorP d.fro))
        case atStart => exact ⟨0, ok, by omega, rfl, rfl, HX.out, HB.out, HD.out, HS.out, fun h => ⟨(H1.out h).1, (H1.out h).2.1, (H1.out h).2.2, fun i hi => by simp at hi⟩, H2.out⟩
        case round =>
          clear HX HB HD HS H1 H2
          obtain ⟨j, ok, hj, rfl, rfl, hx, hb, hd, hs, h1, h2⟩ := hrel
          have hjb : (j : Int) ≤ 1099511627776 := by have := HW.out.ul; omega
          by_cases hjl : j < d.auts.length
          · have hjd : decide (j < d.auts.length) = true := decide_eq_true hjl
            cases ok with
            | false =>
              have HX := Lib.hid hx
              have HB := Lib.hid hb
              have HD := Lib.hid hd
              have HS := Lib.hid hs
              have H2 := Lib.hid (h2 rfl)
              have HJ := Lib.hid hj
              clear hx hb hd hs h1 h2 hj
              go_wp2
              have hj := HJ.out
              go_roundg (gk - 1)
              case measure => omega
              case rel => exact ⟨j + 1, false, by omega, int_congr (by omega), rfl, HX.out, HB.out, HD.out, HS.out, fun h => (by cases h), fun _ => H2.out⟩
            | true =>
              obtain ⟨g1, g2, g3, g4⟩ := h1 rfl
              obtain ⟨x, hi⟩ : ∃ s, d.auts[j]? = some s := ⟨_, List.getElem?_eq_getElem hjl⟩
              have hk := HW.out.uw x (List.mem_of_getElem? hi)
              have hrd : Reads wr wr.heap.size 7 d.uA d.auts.length (autV d.auts) := (HW.out.aut.below hx.out).more hx.size
              have hsu := autsP_succ (n := d.accs.length) hi
              have HX := Lib.hid hx
              have c1 := mayAut_any (w.heap.size + 1) d 0 j x hi hk (by have := HU9.out; omega) HA9.out wr hd hrd
              have HB := Lib.hid hb
              have HD := Lib.hid hd
              have HS := Lib.hid hs
              have HJ := Lib.hid hj
              by_cases hP : autP d.accs.length j x
              · have H1 : Hid (fenN d.next d.opn = 0 ∧ numP d.ser ∧ accsP d.accs ∧ autsP d.accs.length (d.auts.take (j + 1))) := Lib.hid ⟨g1, g2, g3, hsu.2 ⟨g4, hP⟩⟩
                rw [decide_eq_true hP] at c1
                clear hx hb hd hs h1 h2 hj g1 g2 g3 g4 hi hk hrd hsu hP
                go_wp2_with (go_at_call 64; refine c1.mono ?_; clear c1; rintro e w2 ⟨rfl, x2⟩)
                have hj := HJ.out
                go_roundg (gk - 1)
                case measure => omega
                case rel => exact ⟨j + 1, true, by omega, int_congr (by omega), rfl, HX.out.trans x2, ext_blk x2 HB.out, DoorB.ext HD.out x2, SetIs.ext HS.out x2, fun _ => H1.out, fun h => (by cases h)⟩
              · have H2 : Hid (¬ doorP d.fro) := Lib.hid (fun h => autsP_not (j := j + 1) (fun h' => hP (hsu.1 h').2) h.2.2.2.1)
                rw [decide_eq_false hP] at c1
                clear hx hb hd hs h1 h2 hj g1 g2 g3 g4 hi hk hrd hsu hP
                go_wp2_with (go_at_call 64; refine c1.mono ?_; clear c1; rintro e w2 ⟨rfl, x2⟩)
                have hj := HJ.out
                go_roundg (gk - 1)
                case measure => omega
                case rel => exact ⟨j + 1, false, by omega, int_congr (by omega), rfl, HX.out.trans x2, ext_blk x2 HB.out, DoorB.ext HD.out x2, SetIs.ext HS.out x2, fun h => (by cases h), fun _ => H2.out⟩
          · obtain rfl : j = d.auts.length := by omega
            rw [List.take_length] at h1
            have H1 := Lib.hid h1
            have H2 := Lib.hid h2
            have HX := Lib.hid hx
            have HB := Lib.hid hb
            have HD := Lib.hid hd
            have HS := Lib.hid hs
            obtain ⟨k0, k1, k2, k3, k4, k5⟩ := arr6f hb
            clear hx hb hd hs h1 h2 hj hjl
            go_wp2
            clear k0 k1 k2 k3 k4 k5
            go_loopg [4, 54] d.ords.length (fun g s4 s54 wr => ∃ (j : Nat) (ok : Bool), j + g = d.ords.length ∧ s54 = .int .i64 j ∧ s4 = .bool ok ∧ Ext w wr ∧
              Blk wr w.heap.size 43 #[.int .i64 d.next, .slice d.oA d.opn.length d.oc, .slice d.cA d.accs.length d.cc, .slice d.uA d.auts.length d.uc, .slice d.rA d.ords.length d.rc, .int .i64 d.ser] ∧ DoorB wr (w.heap.size + 1) d 0 ∧
              (ok = true → fenN d.next d.opn = 0 ∧ numP d.ser ∧ accsP d.accs ∧ autsP d.accs.length d.auts ∧ ordsP d.accs.length d.auts d.ser ((d.ords.map (·.o)).take j) ∧ SetIs wr (W1.heap.size + 1) (issued ((d.ords.map (·.o)).take j))) ∧ (ok = false → ¬ doorP d.fro))
            case atStart => exact ⟨0, ok, by omega, rfl, rfl, HX.out, HB.out, HD.out, fun h => ⟨(H1.out h).1, (H1.out h).2.1, (H1.out h).2.2.1, (H1.out h).2.2.2, ⟨fun i hi => by simp at hi, by simp [issued]⟩, HS.out⟩, H2.out⟩
            case round =>
              clear HX HB HD HS H1 H2
              obtain ⟨j, ok, hj, rfl, rfl, hx, hb, hd, h1, h2⟩ := hrel
              have hjb : (j : Int) ≤ 1099511627776 := by have := HW.out.rl; omega
              by_cases hjl : j < d.ords.length
              · have hjd : decide (j < d.ords.length) = true := decide_eq_true hjl
                cases ok with
                | false =>
                  have HX := Lib.hid hx
                  have HB := Lib.hid hb
                  have HD := Lib.hid hd
                  have H2 := Lib.hid (h2 rfl)
                  have HJ := Lib.hid hj
                  clear hx hb hd h1 h2 hj
                  go_wp2
                  have hj := HJ.out
                  go_roundg (gk - 1)
                  case measure => omega
                  case rel => exact ⟨j + 1, false, by omega, int_congr (by omega), rfl, HX.out, HB.out, HD.out, fun h => (by cases h), fun _ => H2.out⟩
                | true =>
                  obtain ⟨g1, g2, g3, g4, g5, g6⟩ := h1 rfl
                  obtain ⟨x, hi⟩ : ∃ s, d.ords[j]? = some s := ⟨_, List.getElem?_eq_getElem hjl⟩
                  have hio : (d.ords.map (·.o))[j]? = some x.o := by rw [List.getElem?_map, hi]; rfl
                  have hk := (HW.out.rw x (List.mem_of_getElem? hi)).ext hx
                  have hrd : Reads wr wr.heap.size 8 d.rA d.ords.length (ordV d.ords) := (HW.out.ord.below hx.out).more hx.size
                  have hru : Reads wr wr.heap.size 7 d.uA d.auts.length (autV d.auts) := (HW.out.aut.below hx.out).more hx.size
                  have hsu := ordsP_succ (n := d.accs.length) (f := d.auts) (s := d.ser) hio
                  have HX := Lib.hid hx
                  have c1 := mayOrd_any (w.heap.size + 1) d 0 j x hi hjb (W1.heap.size + 1) _ (by have := issued_len ((d.ords.map (·.o)).take j); have := HW.out.rl; rw [List.length_take, List.length_map] at *; omega) wr hk hd hrd hru HW.out.ul g6
                  have HB := Lib.hid hb
                  have HD := Lib.hid hd
                  have HJ := Lib.hid hj
                  have HSU := Lib.hid hsu
                  have HG := Lib.hid (And.intro g1 (And.intro g2 (And.intro g3 (And.intro g4 g5))))
                  have HT := Lib.hid (tk_snoc hio)
                  have hm2 : Hid (W1.heap.size + 1 < wr.heap.size) := Lib.hid (World.ownsMap.lt g6)
                  clear hx hb hd h1 h2 hj g1 g2 g3 g4 g5 g6 hi hk hrd hru hsu hio
                  rcases Classical.em (mayO d j (issued ((d.ords.map (·.o)).take j)) x.o) with hP | hP
                  · have HP := Lib.hid hP
                    clear hP
                    go_wp2_with (go_at_call 65; refine c1.mono ?_; clear c1; rintro e w2 (⟨-, rfl, hset, hg⟩ | ⟨hno, -, -⟩); rotate_left; exact absurd HP.out hno; have HSET := Lib.hid hset; have HGR := Lib.hid hg; clear hset hg)
                    have hj := HJ.out
                    have hm := HM.out
                    have hm3 := hm2.out
                    go_roundg (gk - 1)
                    case measure => omega
                    case rel => exact ⟨j + 1, true, by omega, int_congr (by omega), rfl, Ext.of (HX.out.out.grown HGR.out HX.out.size (fun k hk => by cases hk; omega)), HB.out.grown HGR.out (by simp; omega), DoorB.grown HD.out HGR.out (by simp; omega), fun _ => ⟨HG.out.1, HG.out.2.1, HG.out.2.2.1, HG.out.2.2.2.1, HSU.out.2 ⟨HG.out.2.2.2.2, HP.out⟩, by rw [HT.out, ← addI_issued]; exact HSET.out⟩, fun h => (by cases h)⟩
                  · have HP := Lib.hid hP
                    have H2 : Hid (¬ doorP d.fro) := Lib.hid (fun h => ordsP_not (j := j + 1) (fun h' => hP (HSU.out.1 h').2) h.2.2.2.2)
                    clear hP
                    go_wp2_with (go_at_call 65; refine c1.mono ?_; clear c1; rintro e w2 (⟨hyes, -, -, -⟩ | ⟨-, rfl, x2⟩); exact absurd hyes HP.out)
                    have hj := HJ.out
                    go_roundg (gk - 1)
                    case measure => omega
                    case rel => exact ⟨j + 1, false, by omega, int_congr (by omega), rfl, HX.out.trans x2, ext_blk x2 HB.out, DoorB.ext HD.out x2, fun h => (by cases h), fun _ => H2.out⟩
              · obtain rfl : j = d.ords.length := by omega
                rw [show (d.ords.map (·.o)).take d.ords.length = d.ords.map (·.o) by rw [← List.length_map (f := fun x : OrdX => x.o), List.take_length]] at h1
                have HX := Lib.hid hx
                obtain ⟨k0, k1, k2, k3, k4, k5⟩ := arr6f hb
                have hjd : decide (d.ords.length < d.ords.length) = false := by simp
                cases ok with
                | false =>
                  have kk : Hid (chkF d.fro = 1) := Lib.hid (by unfold chkF; rw [if_pos (h2 rfl)])
                  clear hx hb hd h1 h2 hj hjl
                  go_wp2
                  go_ret
                  exact ⟨by rw [kk.out]; rfl, HX.out⟩
                | true =>
                  obtain ⟨g1, g2, g3, g4, g5, g6⟩ := h1 rfl
                  have hdp : doorP d.fro := ⟨g1, g2, g3, g4, g5⟩
                  have kk : Hid (chkF d.fro = if 64 < d.accs.length ∨ 256 < d.auts.length ∨ 128 < d.ords.length then 2 else 0) := Lib.hid (by
                    unfold chkF; rw [if_neg (by simpa using hdp)]; show (if 64 < d.accs.length ∨ 256 < d.auts.length ∨ 128 < (d.ords.map (·.o)).length then 2 else 0) = _; rw [List.length_map])
                  clear hx hb hd h1 h2 hj hjl g1 g2 g3 g4 g5 g6 hdp
                  by_cases l1 : (64 : Int) < d.accs.length
                  · have kk2 : Hid (chkF d.fro = 2) := Lib.hid (by rw [kk.out, if_pos (.inl (by omega))])
                    go_wp2
                    go_ret
                    exact ⟨by rw [kk2.out]; rfl, HX.out⟩
                  by_cases l2 : (256 : Int) < d.auts.length
                  · have kk2 : Hid (chkF d.fro = 2) := Lib.hid (by rw [kk.out, if_pos (.inr (.inl (by omega)))])
                    go_wp2
                    go_ret
                    exact ⟨by rw [kk2.out]; rfl, HX.out⟩
                  by_cases l3 : (128 : Int) < d.ords.length
                  · have kk2 : Hid (chkF d.fro = 2) := Lib.hid (by rw [kk.out, if_pos (.inr (.inr (by omega)))])
                    go_wp2
                    go_ret
                    exact ⟨by rw [kk2.out]; rfl, HX.out⟩
                  · have kk2 : Hid (chkF d.fro = 0) := Lib.hid (by rw [kk.out, if_neg (by omega)])
                    go_wp2
                    go_ret
                    exact ⟨by rw [kk2.out]; rfl, HX.out⟩
end Go.Proofs.YtbhdmfijdhcehaaGreatDoor

/- The door, walked: Nonce. -/
namespace Go.Proofs.YtbhdmfijdhcehaaGreatDoor
set_option linter.unusedVariables false
set_option linter.unusedSimpArgs false
open Go.RowKit Go.Shelf Go.Maps

/-! ### a door that is handed back -/
section
variable {W w : World} {g : Nat} {T : TypeId} {a b c d e f a' b' c' d' e' f' : Value}
theorem st6 (k : Blk W g T #[a, b, c, d, e, f]) : W.cell? ⟨g, 0, none⟩ = some a ∧ W.cell? ⟨g, 1, none⟩ = some b ∧ W.cell? ⟨g, 2, none⟩ = some c ∧ W.cell? ⟨g, 3, none⟩ = some d ∧ W.cell? ⟨g, 4, none⟩ = some e ∧ W.cell? ⟨g, 5, none⟩ = some f ∧
    W.frozen? ⟨g, 0, none⟩ = false ∧ W.frozen? ⟨g, 1, none⟩ = false ∧ W.frozen? ⟨g, 2, none⟩ = false ∧ W.frozen? ⟨g, 3, none⟩ = false ∧ W.frozen? ⟨g, 4, none⟩ = false ∧ W.frozen? ⟨g, 5, none⟩ = false :=
  ⟨k.cell 0, k.cell 1, k.cell 2, k.cell 3, k.cell 4, k.cell 5, k.frozen 0, k.frozen 1, k.frozen 2, k.frozen 3, k.frozen 4, k.frozen 5⟩
/-- Six stores into a block of six. -/
theorem blk6 (k : Blk W g T #[a, b, c, d, e, f]) (a' b' c' d' e' f' : Value) : Blk ((((((W.setCell ⟨g, 0, none⟩ a').setCell ⟨g, 1, none⟩ b').setCell ⟨g, 2, none⟩ c').setCell ⟨g, 3, none⟩ d').setCell ⟨g, 4, none⟩ e').setCell ⟨g, 5, none⟩ f') g T #[a', b', c', d', e', f'] :=
  ((((((k.set_ 0 a').set_ 1 b').set_ 2 c').set_ 3 d').set_ 4 e').set_ 5 f')
theorem ext6 (h : Ext w W) (hg : w.heap.size ≤ g) (a' b' c' d' e' f' : Value) : Ext w ((((((W.setCell ⟨g, 0, none⟩ a').setCell ⟨g, 1, none⟩ b').setCell ⟨g, 2, none⟩ c').setCell ⟨g, 3, none⟩ d').setCell ⟨g, 4, none⟩ e').setCell ⟨g, 5, none⟩ f') :=
  (((((h.setCell (p := ⟨g, 0, none⟩) hg _).setCell (p := ⟨g, 1, none⟩) hg _).setCell (p := ⟨g, 2, none⟩) hg _).setCell (p := ⟨g, 3, none⟩) hg _).setCell (p := ⟨g, 4, none⟩) hg _).setCell (p := ⟨g, 5, none⟩) hg _
end
def doorZ : DoorX := ⟨0, 0, [], [], [], [], none, 0, none, 0, none, 0, none, 0⟩
theorem doorZ_w (w : World) (B : Nat) : DoorW w B doorZ :=
  ⟨nons_nil w B, wf64_of (by decide) (by decide), Reads.none_, by simp [doorZ], by simp [doorZ], by simp [doorZ], Reads.none_, by simp [doorZ], by simp [doorZ], by simp [doorZ], Reads.none_, by simp [doorZ], by simp [doorZ], by simp [doorZ]⟩
/-- Where something lies. -/
def Lies (S : Nat → Prop) (A : Option Addr) (n : Nat) : Prop := 0 < n → ∀ ad, A = some ad → S ad.block
theorem Lies.mono {S S' : Nat → Prop} {A : Option Addr} {n : Nat} (h : Lies S A n) (k : ∀ b, S b → S' b) : Lies S' A n := fun h0 ad e => k _ (h h0 ad e)
theorem Lies.zero (S : Nat → Prop) (A : Option Addr) : Lies S A 0 := fun h => absurd h (by omega)
theorem Lies.own {S : Nat → Prop} {w : World} {base : Nat} {T : TypeId} {size n c : Nat} {A : Option Addr} {xs : List Value} (h : w.ownsRow base T size (.slice A n c) n xs) (k : ∀ b, base ≤ b → S b) : Lies S A n := fun h0 ad e => by
  obtain ⟨g, cap, hv, hg, _⟩ := h.form h0
  subst e
  cases hv
  exact k _ hg
theorem Reads.stay {w w' : World} {B B' size n : Nat} {A : Option Addr} {xs : List Value} {S : Nat → Prop} (h : Reads w B size A n xs) (hl : Lies S A n) (hB : B ≤ B') (hk : ∀ k, S k → k < B → w'.heap[k]? = w.heap[k]?) : Reads w' B' size A n xs :=
  ⟨h.1, fun hn => by
    obtain ⟨ad, e, hb, hc⟩ := h.2 hn
    exact ⟨ad, e, by omega, fun j u hu => (World.cell?_of_block (by rw [block_of_add]; exact hk _ (hl hn ad e) hb)).trans (hc j u hu)⟩⟩
theorem Reads.lies {w : World} {B size n : Nat} {A : Option Addr} {xs : List Value} (h : Reads w B size A n xs) : Lies (fun k => k < B) A n := fun hn ad e => by
  obtain ⟨ad', e', hb, _⟩ := h.2 hn
  rw [e] at e'; cases e'; exact hb
/-- Where a door's parts lie. -/
structure DoorL (S : Nat → Prop) (d : DoorX) : Prop where
  o : Lies S d.oA d.opn.length
  c : Lies S d.cA d.accs.length
  u : Lies S d.uA d.auts.length
  r : Lies S d.rA d.ords.length
  n : ∀ x ∈ d.ords, Lies S x.nA x.o.names.length
  a : ∀ x ∈ d.ords, Lies S x.aA x.o.auths.length
theorem DoorL.mono {S S' : Nat → Prop} {d : DoorX} (h : DoorL S d) (k : ∀ b, S b → S' b) : DoorL S' d := ⟨h.o.mono k, h.c.mono k, h.u.mono k, h.r.mono k, fun x hx => (h.n x hx).mono k, fun x hx => (h.a x hx).mono k⟩
theorem DoorW.lies {w : World} {B : Nat} {d : DoorX} (h : DoorW w B d) : DoorL (fun k => k < B) d := ⟨h.non.lst.lies, h.acc.lies, h.aut.lies, h.ord.lies, fun x hx => (h.rw x hx).names.lies, fun x hx => (h.rw x hx).auths.lies⟩
theorem OrdW.stay {w w' : World} {B B' : Nat} {x : OrdX} {S : Nat → Prop} (h : OrdW w B x) (h1 : Lies S x.nA x.o.names.length) (h2 : Lies S x.aA x.o.auths.length) (hB : B ≤ B') (hk : ∀ k, S k → k < B → w'.heap[k]? = w.heap[k]?) : OrdW w' B' x :=
  ⟨h.id, h.acc, h.key, h.life, h.st, h.ser, h.names.stay h1 hB hk, h.nc, h.nl, h.ns, h.auths.stay h2 hB hk, h.ac, h.al, h.aw⟩
theorem DoorW.stay {w w' : World} {B B' : Nat} {d : DoorX} {S : Nat → Prop} (h : DoorW w B d) (hl : DoorL S d) (hB : B ≤ B') (hk : ∀ k, S k → k < B → w'.heap[k]? = w.heap[k]?) : DoorW w' B' d :=
  ⟨⟨h.non.nx, h.non.lst.stay hl.o hB hk, h.non.cap, h.non.len, h.non.wf⟩, h.ser, h.acc.stay hl.c hB hk, h.cc, h.cl, h.cw, h.aut.stay hl.u hB hk, h.uc, h.ul, h.uw, h.ord.stay hl.r hB hk, h.rc, h.rl, fun x hx => (h.rw x hx).stay (hl.n x hx) (hl.a x hx) hB hk⟩
theorem doorZ_l (S : Nat → Prop) : DoorL S doorZ := ⟨Lies.zero _ _, Lies.zero _ _, Lies.zero _ _, Lies.zero _ _, by simp [doorZ], by simp [doorZ]⟩
/-- What lay there, or is new. -/
def orNew (S : Nat → Prop) (w : World) : Nat → Prop := fun k => S k ∨ w.heap.size ≤ k
/-- What is handed back: a door, a number, an error. -/
def outD (d0 : DoorX) (r : OutF) (w : World) (e : Ending) (w' : World) : Prop := ∃ d, e = .returned (.tuple #[frontV d, .int .i64 r.2.1, .int .i64 (r.2.2 : Nat)]) ∧ d.fro = r.1 ∧ DoorW w' w'.heap.size d ∧ (∀ S, DoorL S d0 → DoorL (orNew S w) d) ∧ Ext w w'
theorem outD_bad {d0 : DoorX} {w w' : World} {E : Nat} {e : Ending} (he : e = .returned (.tuple #[.agg #[.int .i64 0, .slice none 0 0, .slice none 0 0, .slice none 0 0, .slice none 0 0, .int .i64 0], .int .i64 0, .int .i64 (E : Int)])) (x : Ext w w') : outD d0 (bad E) w e w' := ⟨doorZ, he, rfl, doorZ_w _ _, fun _ _ => doorZ_l _, x⟩
def outS (d0 : DoorX) (r : FroR × Nat) (w : World) (e : Ending) (w' : World) : Prop := ∃ d, e = .returned (.tuple #[frontV d, .int .i64 (r.2 : Nat)]) ∧ d.fro = r.1 ∧ DoorW w' w'.heap.size d ∧ (∀ S, DoorL S d0 → DoorL (orNew S w) d) ∧ Ext w w'
theorem outS_bad {d0 : DoorX} {w w' : World} {E : Nat} {e : Ending} (he : e = .returned (.tuple #[.agg #[.int .i64 0, .slice none 0 0, .slice none 0 0, .slice none 0 0, .slice none 0 0, .int .i64 0], .int .i64 (E : Int)])) (x : Ext w w') : outS d0 (froZ, E) w e w' := ⟨doorZ, he, rfl, doorZ_w _ _, fun _ _ => doorZ_l _, x⟩
/-- The same door with other nonces. -/
def withN (d : DoorX) (next : Int) (l : List NonR) (A : Option Addr) (c : Nat) : DoorX := { d with next := next, opn := l, oA := A, oc := c }
theorem withN_w {w : World} {B : Nat} {d : DoorX} {next : Int} {l : List NonR} {A : Option Addr} {c : Nat} (h : DoorW w B d) (hn : NonsW w B next l A c) : DoorW w B (withN d next l A c) := ⟨hn, h.ser, h.acc, h.cc, h.cl, h.cw, h.aut, h.uc, h.ul, h.uw, h.ord, h.rc, h.rl, h.rw⟩
theorem chkF_fen {d : DoorX} (h : chkF d.fro = 0) : fenN d.next d.opn = 0 := fen_of h
set_option maxRecDepth 100000 in
set_option maxHeartbeats 4000000 in
theorem oNonce_any (d : DoorX) (hu9 : d.auts.length < 100) (ha9 : d.accs.length < 100) (now : Int) (w : World) (hw : DoorW w w.heap.size d) :
    Calls Tryz.prog 24 #[frontV d, .int .i64 now] w (outD d (nonF d.fro now) w) := by
  obtain ⟨W0, e0, b0, b1, x0, s0⟩ := startP w #[.int .i64 d.next, .slice d.oA d.opn.length d.oc, .slice d.cA d.accs.length d.cc, .slice d.uA d.auts.length d.uc, .slice d.rA d.ords.length d.rc, .int .i64 d.ser]
    #[.int .i64 0, .slice none 0 0, .slice none 0 0, .slice none 0 0, .slice none 0 0, .int .i64 0] 43 43
  have cC := oCheck_any d hu9 ha9 W0 (hw.ext x0)
  have cT := fun W (h : Ext W0 W) => Tell_any d.next d.opn d.oA d.oc now W (hw.non.ext (x0.trans h))
  obtain ⟨E, hE⟩ : ∃ E, chkF d.fro = E := ⟨_, rfl⟩
  rw [hE] at cC
  have HW := Lib.hid hw
  have HB0 := Lib.hid b0
  have HB1 := Lib.hid b1
  have HX0 := Lib.hid x0
  have HS0 := Lib.hid s0
  have HE := Lib.hid hE
  unfold frontV at cC ⊢
  unfold fenV at cT
  clear b0 b1 x0 s0 hw hE hu9 ha9
  by_cases h0 : E = 0
  case neg =>
    have hR : nonF d.fro now = bad E := by unfold nonF; rw [HE.out, if_pos h0]
    rw [hR]
    have k0 : ((E : Int) != 0) = true := by simp; omega
    clear h0 hR cT
    go_enter Tryz.func24, Tryz.ntmps24
    subst e0
    go_wp2_with (go_at_call 21; refine cC.mono ?_; clear cC; rintro e w1 ⟨rfl, x1⟩; have b2 := ext_blk x1 HB1.out; obtain ⟨q0, q1, q2, q3, q4, q5, f0, f1, f2, f3, f4, f5⟩ := st6 b2; have BB := Lib.hid (blk6 b2 (.int .i64 0) (.slice none 0 0) (.slice none 0 0) (.slice none 0 0) (.slice none 0 0) (.int .i64 0)); clear b2)
    obtain ⟨r0, r1, r2, r3, r4, r5⟩ := arr6f BB.out
    refine bodyPost_ret (v := .tuple #[.agg #[.int .i64 0, .slice none 0 0, .slice none 0 0, .slice none 0 0, .slice none 0 0, .int .i64 0], .int .i64 0, .int .i64 (E : Int)]) (by simp [results, Tryz.results24, go_sem, r0, r1, r2, r3, r4, r5]) rfl (outD_bad rfl (ext6 (HX0.out.trans x1) (by simp) _ _ _ _ _ _))
  subst h0
  have hf := chkF_fen HE.out
  obtain ⟨E, hE⟩ : ∃ E, tellE d.next d.opn now 20 = E := ⟨_, rfl⟩
  by_cases h0 : E = 0
  case neg =>
    have hR : nonF d.fro now = bad E := by unfold nonF; rw [if_neg (by rw [HE.out]; simp)]; show (if tellE d.next d.opn now 20 ≠ 0 then _ else _) = _; rw [hE, if_pos h0]; show bad (tellE d.next d.opn now 20) = _; rw [hE]
    rw [hR]
    rw [tellR_no hE h0] at cT
    have k0 : ((E : Int) != 0) = true := by simp; omega
    clear h0 hR hE hf
    go_enter Tryz.func24, Tryz.ntmps24
    subst e0
    go_wp2_with (first
      | (go_at_call 21; refine cC.mono ?_; clear cC; rintro e w1 ⟨rfl, x1⟩; obtain ⟨m0, m1, m2, m3, m4, m5⟩ := arr6f (ext_blk x1 HB0.out))
      | (go_at_call 70; refine (cT _ x1).mono ?_; clear cT m0 m1 m2 m3 m4 m5; rintro e w2 ⟨A2, c2, rfl, hn2, x2⟩; have x3 := x1.trans x2; obtain ⟨m0, m1, m2, m3, m4, m5, n0, n1, n2, n3, n4, n5⟩ := st6 (ext_blk x3 HB0.out); have b2 := ((ext_blk x3 HB1.out).far (p := ⟨w.heap.size, 0, none⟩) (by simp) (.int .i64 0)).far (p := ⟨w.heap.size, 1, none⟩) (by simp) (.slice A2 0 c2); obtain ⟨q0, q1, q2, q3, q4, q5, f0, f1, f2, f3, f4, f5⟩ := st6 (ext_blk x3 HB1.out); have BB := Lib.hid (blk6 b2 (.int .i64 0) (.slice none 0 0) (.slice none 0 0) (.slice none 0 0) (.slice none 0 0) (.int .i64 0)); clear b2 hn2; unfold fenV))
    obtain ⟨r0, r1, r2, r3, r4, r5⟩ := arr6f BB.out
    refine bodyPost_ret (v := .tuple #[.agg #[.int .i64 0, .slice none 0 0, .slice none 0 0, .slice none 0 0, .slice none 0 0, .int .i64 0], .int .i64 0, .int .i64 (E : Int)]) (by simp [results, Tryz.results24, go_sem, r0, r1, r2, r3, r4, r5]) rfl (outD_bad rfl (ext6 (((HX0.out.trans x3).setCell (p := ⟨w.heap.size, 0, none⟩) (by simp) _).setCell (p := ⟨w.heap.size, 1, none⟩) (by simp) _) (by simp) _ _ _ _ _ _))
  subst h0
  have hR : nonF d.fro now = ({ d.fro with next := d.next + 1, opn := tellL d.next d.opn now 20 }, d.next, 0) := by unfold nonF; rw [if_neg (by rw [HE.out]; simp), if_neg (by show ¬ tellE d.next d.opn now 20 ≠ 0; rw [hE]; simp)]; rfl
  rw [hR]
  rw [tellR_ok hE] at cT
  have HTE := Lib.hid hE
  clear hR hE hf
  obtain ⟨N, hN⟩ : ∃ N, N = (tellL d.next d.opn now 20).length := ⟨_, rfl⟩
  unfold tellPost fenV at cT
  simp only at cT
  rw [← hN] at cT
  have HN := Lib.hid hN
  clear hN
  go_enter Tryz.func24, Tryz.ntmps24
  subst e0
  go_wp2_with (first
    | (go_at_call 21; refine cC.mono ?_; clear cC; rintro e w1 ⟨rfl, x1⟩; obtain ⟨m0, m1, m2, m3, m4, m5⟩ := arr6f (ext_blk x1 HB0.out))
    | (go_at_call 70; refine (cT _ x1).mono ?_; clear cT m0 m1 m2 m3 m4 m5; rintro e w2 ⟨A2, c2, rfl, hn2, x2⟩; have x3 := x1.trans x2; have HN2 := Lib.hid hn2; obtain ⟨m0, m1, m2, m3, m4, m5, n0, n1, n2, n3, n4, n5⟩ := st6 (ext_blk x3 HB0.out); have b2 := ((ext_blk x3 HB1.out).far (p := ⟨w.heap.size, 0, none⟩) (by simp) (.int .i64 (d.next + 1))).far (p := ⟨w.heap.size, 1, none⟩) (by simp) (.slice A2 N c2); obtain ⟨q0, q1, q2, q3, q4, q5, f0, f1, f2, f3, f4, f5⟩ := st6 (ext_blk x3 HB1.out); have BB := Lib.hid (blk6 b2 (.int .i64 (d.next + 1)) (.slice A2 N c2) (.slice d.cA d.accs.length d.cc) (.slice d.uA d.auts.length d.uc) (.slice d.rA d.ords.length d.rc) (.int .i64 d.ser)); clear b2 hn2))
  obtain ⟨r0, r1, r2, r3, r4, r5⟩ := arr6f BB.out
  have xf := HX0.out.trans x3
  have o3 := HN2.out
  have hF := tell_fen (HTE.out)
  have hs3 : w.heap.size + 2 ≤ w1.heap.size := by have := x1.size; simp at this; omega
  have o9 := own_far (own_far (own_base o3 hs3) (g := w.heap.size) (by omega) 0 (.int .i64 (d.next + 1))) (g := w.heap.size) (by omega) 1 (.slice A2 N c2)
  have x9 := (xf.setCell (p := ⟨w.heap.size, 0, none⟩) (Nat.le_refl _) (.int .i64 (d.next + 1))).setCell (p := ⟨w.heap.size, 1, none⟩) (Nat.le_refl _) (.slice A2 N c2)
  have o10 := own_far (own_far (own_far (own_far (own_far (own_far o9 (g := w.heap.size + 1) (by omega) 0 (.int .i64 (d.next + 1))) (g := w.heap.size + 1) (by omega) 1 (.slice A2 N c2)) (g := w.heap.size + 1) (by omega) 2 (.slice d.cA d.accs.length d.cc)) (g := w.heap.size + 1) (by omega) 3 (.slice d.uA d.auts.length d.uc)) (g := w.heap.size + 1) (by omega) 4 (.slice d.rA d.ords.length d.rc)) (g := w.heap.size + 1) (by omega) 5 (.int .i64 d.ser)
  have x10 := ext6 x9 (g := w.heap.size + 1) (by omega) (.int .i64 (d.next + 1)) (.slice A2 N c2) (.slice d.cA d.accs.length d.cc) (.slice d.uA d.auts.length d.uc) (.slice d.rA d.ords.length d.rc) (.int .i64 d.ser)
  have key : ∀ WF : World, Ext w WF → WF.ownsRow (w.heap.size + 2) 102 2 (.slice A2 N c2) N (nonV (tellL d.next d.opn now 20)) → DoorW WF WF.heap.size (withN d (d.next + 1) (tellL d.next d.opn now 20) A2 c2) := fun WF x o => by
    rw [HN.out] at o
    exact withN_w (HW.out.ext x) (nons_own o hF)
  have key2 : Lies (fun b => w.heap.size ≤ b) A2 (tellL d.next d.opn now 20).length := by rw [← HN.out]; exact Lies.own o3 (fun b hb => by omega)
  have kd := key _ x10 o10
  clear key o10 o9 o3
  refine bodyPost_ret (v := .tuple #[.agg #[.int .i64 (d.next + 1), .slice A2 N c2, .slice d.cA d.accs.length d.cc, .slice d.uA d.auts.length d.uc, .slice d.rA d.ords.length d.rc, .int .i64 d.ser], .int .i64 d.next, .int .i64 0]) (by simp [results, Tryz.results24, go_sem, r0, r1, r2, r3, r4, r5]) rfl ⟨withN d (d.next + 1) (tellL d.next d.opn now 20) A2 c2, ?_, rfl, ?_, ?_, ?_⟩
  · unfold frontV withN; simp only; rw [← HN.out]; rfl
  · exact kd
  · intro S hS
    exact ⟨key2.mono (fun b hb => .inr hb), hS.c.mono (fun b h => .inl h), hS.u.mono (fun b h => .inl h), hS.r.mono (fun b h => .inl h), fun x hx => (hS.n x hx).mono (fun b h => .inl h), fun x hx => (hS.a x hx).mono (fun b h => .inl h)⟩
  · exact x10
end Go.Proofs.YtbhdmfijdhcehaaGreatDoor

/- The door, walked: do authorizations hold, what is revoked, does a request fit. -/
namespace Go.Proofs.YtbhdmfijdhcehaaGreatDoor
set_option linter.unusedVariables false
set_option linter.unusedSimpArgs false
open Go.RowKit Go.Shelf Go.Maps

/-! ### a request in memory -/
def queV (q : QueR) (A : Option Addr) (c : Nat) : Value := .agg #[.int .i64 q.kind, .int .i64 q.acc, .int .i64 q.nonce, .int .u64 (q.key : Int), .slice A q.names.length c, .int .i64 q.life, .int .i64 q.id, .int .u64 (q.e : Int), .int .u64 (q.s : Int)]
def QueB (w : World) (b : Nat) (q : QueR) (A : Option Addr) (c : Nat) : Prop :=
  Blk w b 27 #[.int .i64 q.kind, .int .i64 q.acc, .int .i64 q.nonce, .int .u64 (q.key : Int), .slice A q.names.length c, .int .i64 q.life, .int .i64 q.id, .int .u64 (q.e : Int), .int .u64 (q.s : Int)]
structure QueW (w : World) (B : Nat) (q : QueR) (A : Option Addr) (c : Nat) : Prop where
  kind : wf64 q.kind
  acc : wf64 q.acc
  nonce : wf64 q.nonce
  key : q.key < 18446744073709551616
  life : wf64 q.life
  id : wf64 q.id
  e : q.e < 18446744073709551616
  s : q.s < 18446744073709551616
  names : Reads w B 1 A q.names.length (tv q.names)
  nc : q.names.length ≤ c
  nl : q.names.length ≤ 1099511627776
  ns : ∀ s ∈ q.names, s.size ≤ 140737488355328
theorem QueW.ext {w w' : World} {q : QueR} {A : Option Addr} {c : Nat} (h : QueW w w.heap.size q A c) (x : Ext w w') : QueW w' w'.heap.size q A c :=
  ⟨h.kind, h.acc, h.nonce, h.key, h.life, h.id, h.e, h.s, (h.names.below x.out).more x.size, h.nc, h.nl, h.ns⟩
theorem arr9 {W : World} {g : Nat} {T : TypeId} {a b c d e f h i j : Value} (k : Blk W g T #[a, b, c, d, e, f, h, i, j]) : W.cell? ⟨g, 0, none⟩ = some a ∧ W.cell? ⟨g, 1, none⟩ = some b ∧ W.cell? ⟨g, 2, none⟩ = some c ∧ W.cell? ⟨g, 3, none⟩ = some d ∧ W.cell? ⟨g, 4, none⟩ = some e ∧ W.cell? ⟨g, 5, none⟩ = some f ∧ W.cell? ⟨g, 6, none⟩ = some h ∧ W.cell? ⟨g, 7, none⟩ = some i ∧ W.cell? ⟨g, 8, none⟩ = some j :=
  ⟨k.cell 0, k.cell 1, k.cell 2, k.cell 3, k.cell 4, k.cell 5, k.cell 6, k.cell 7, k.cell 8⟩

/-! ### what holds -/
def oldA (f : List AutR) (now n : Int) : Bool := match f[n.toNat - 1]? with | some u => !holdA now u | none => true
theorem holdsF_old (f : List AutR) (l : List Int) (now : Int) : holdsF f l now = !decide (0 ≤ ixG (oldA f now) l) := by
  unfold holdsF ixG
  cases h : l.findIdx? (oldA f now) with
  | none =>
    have := List.findIdx?_eq_none_iff.1 h
    simp only [show decide ((0 : Int) ≤ -1) = false from rfl, Bool.not_false]
    rw [List.all_eq_true]
    intro n hn
    have h1 := this n hn
    unfold oldA at h1
    split at h1
    · next u e => rw [e]; simpa using h1
    · cases h1
  | some i =>
    obtain ⟨h1, h2, _⟩ := List.findIdx?_eq_some_iff_getElem.1 h
    simp only [show decide ((0 : Int) ≤ (i : Int)) = true by simp, Bool.not_true]
    rw [List.all_eq_false]
    refine ⟨l[i], List.getElem_mem h1, ?_⟩
    unfold oldA at h2
    split at h2
    · next u e => rw [e]; simpa using h2
    · next e => rw [e]; simp
theorem holds1_enters : Enters Tryz.prog 118 := enters_of Tryz.func118 (by kernel_rfl) rfl
set_option maxRecDepth 100000 in
set_option maxHeartbeats 4000000 in
theorem holds1_any (b : Nat) (d : DoorX) (now : Int) (gp : Nat) (n : Int) (hn : 1 ≤ n ∧ n ≤ d.auts.length) (hul : d.auts.length ≤ 1099511627776) (w : World) (h : DoorB w b d now) (hp : w.cell? ⟨gp, 0, none⟩ = some (.pointer (some ⟨b, 0, none⟩)))
    (hr : Reads w w.heap.size 7 d.uA d.auts.length (autV d.auts)) :
    Calls Tryz.prog 118 #[.int .i64 n, .pointer (some ⟨gp, 0, none⟩)] w fun e w' => e = .returned (.bool (oldA d.auts now n)) ∧ Ext w w' := by
  obtain ⟨a, rfl⟩ : ∃ a : Nat, n = (a : Int) + 1 := ⟨(n - 1).toNat, by omega⟩
  obtain ⟨a0, a1, a2, a3, a4, a5, a6⟩ := arr7 h
  have hal : (a : Int) < (d.auts.length : Int) := by omega
  have hab : (a : Int) ≤ 1099511627776 := by omega
  obtain ⟨u, hu⟩ : ∃ u, d.auts[a]? = some u := ⟨_, List.getElem?_eq_getElem (by omega)⟩
  obtain ⟨ad, hA, hlt, q0, q1, q2, q3, q4, q5, q6⟩ := reads_aut hr hu
  rw [hA] at a3
  have HO : Hid (oldA d.auts now ((a : Int) + 1) = !(decide (u.st = 3) && decide (now ≤ u.un))) := Lib.hid (by unfold oldA; rw [show ((a : Int) + 1).toNat - 1 = a by omega, hu]; rfl)
  have HB := Lib.hid (Blk.new w 69 #[.int .i64 u.id, .int .i64 u.acc, .string u.name, .string u.tok, .int .i64 u.st, .int .i64 u.fr, .int .i64 u.un])
  have HD := Lib.hid h
  have hp' := hp
  have HP := Lib.hid hp'
  clear h hr hu hA hlt hn hul hp'
  go_enter Tryz.func118, Tryz.ntmps118
  go_upto_region 2 with (fail)
  obtain ⟨W1, e1⟩ : ∃ W, W = w.alloc (.cells #[.int .i64 u.id, .int .i64 u.acc, .string u.name, .string u.tok, .int .i64 u.st, .int .i64 u.fr, .int .i64 u.un] 69) := ⟨_, rfl⟩
  rw [← e1] at HB ⊢
  have HX1 : Hid (Ext w W1) := by rw [e1]; exact (Ext.refl w).alloc _
  clear e1 a0 a1 a2 a3 a4 a5 a6 q0 q1 q2 q3 q4 q5 q6 hp
  obtain ⟨k0, k1, k2, k3, k4, k5, k6⟩ := arr7 HB.out
  obtain ⟨-, -, -, -, -, -, a6⟩ := arr7 (DoorB.ext HD.out HX1.out)
  have hp := HX1.out.cell HP.out
  have j4 := fun j : Later W1 => j.cell k4
  have j6 := fun j : Later W1 => j.cell k6
  have ja := fun j : Later W1 => j.cell a6
  have jp := fun j : Later W1 => j.cell hp
  clear k0 k1 k2 k3 k4 k5 k6 a6 hp
  by_cases g1 : u.st = 3
  · have d1 : (u.st != 3) = false := by simp [g1]
    by_cases g2 : u.un < now
    · have d2 : decide (u.un < now) = true := decide_eq_true g2
      have HR : Hid ((!(decide (u.st = 3) && decide (now ≤ u.un))) = true) := Lib.hid (by simp; omega)
      clear g1 g2
      refine wp_region_later (by kernel_rfl) (by kernel_rfl) ?_
      repeat (go_big_quiet_step ((fail)))
      refine wpQuiet_nil ?_
      rintro W2 ⟨q, hq⟩
      have x5 : Ext w W2 := by rw [hq]; exact HX1.out.trans q.ext
      clear hq q j4 j6 ja jp
      go_wp2
      go_ret
      exact ⟨ret_bool (by rw [HO.out, HR.out]), x5⟩
    · have d2 : decide (u.un < now) = false := decide_eq_false g2
      have HR : Hid ((!(decide (u.st = 3) && decide (now ≤ u.un))) = false) := Lib.hid (by simp; omega)
      clear g1 g2
      refine wp_region_later (by kernel_rfl) (by kernel_rfl) ?_
      repeat (go_big_quiet_step ((fail)))
      refine wpQuiet_nil ?_
      rintro W2 ⟨q, hq⟩
      have x5 : Ext w W2 := by rw [hq]; exact HX1.out.trans q.ext
      clear hq q j4 j6 ja jp
      go_wp2
      go_ret
      exact ⟨ret_bool (by rw [HO.out, HR.out]), x5⟩
  · have d1 : (u.st != 3) = true := by simp [g1]
    have HR : Hid ((!(decide (u.st = 3) && decide (now ≤ u.un))) = true) := Lib.hid (by simp [g1])
    clear g1
    refine wp_region_later (by kernel_rfl) (by kernel_rfl) ?_
    repeat (go_big_quiet_step ((fail)))
    refine wpQuiet_nil ?_
    rintro W2 ⟨q, hq⟩
    have x5 : Ext w W2 := by rw [hq]; exact HX1.out.trans q.ext
    clear hq q j4 j6 ja jp
    go_wp2
    go_ret
    exact ⟨ret_bool (by rw [HO.out, HR.out]), x5⟩
theorem containsI_any (F : FuncId) (hE : Enters Tryz.prog F) (cap : Array Value) (f : Int → Bool) (l : List Int) (hn : l.length ≤ 1099511627776) (A : Option Addr) (c : Nat) (w : World) (hr : Reads w w.heap.size 1 A l.length (iv l))
    (hstep : ∀ (W : World) (s : Int), s ∈ l → Ext w W → Calls Tryz.prog F (#[.int .i64 s] ++ cap) W fun e w' => e = .returned (.bool (f s)) ∧ Ext W w') :
    Calls Tryz.prog 117 #[.slice A l.length c, .func (.func F) #[] cap] w fun e w' => e = .returned (.bool (decide (0 ≤ ixG f l))) ∧ Ext w w' := by
  have c1 := indexI_any F hE cap f l hn A c w hr hstep
  obtain ⟨i, hi⟩ : ∃ i, i = ixG f l := ⟨_, rfl⟩
  rw [← hi] at c1 ⊢
  clear hi hr hn hstep
  go_enter Tryz.func117, Tryz.ntmps117
  go_wp2_with (go_at_call 142; refine c1.mono ?_; clear c1; rintro e w1 ⟨rfl, x1⟩)
  go_ret
  exact ⟨rfl, x1⟩
theorem holds_any (b : Nat) (d : DoorX) (now : Int) (l : List Int) (hl : ∀ s ∈ l, 1 ≤ s ∧ s ≤ d.auts.length) (hn : l.length ≤ 1099511627776) (hul : d.auts.length ≤ 1099511627776) (A : Option Addr) (c : Nat) (w : World) (h : DoorB w b d now)
    (hr : Reads w w.heap.size 1 A l.length (iv l)) (hu : Reads w w.heap.size 7 d.uA d.auts.length (autV d.auts)) :
    Calls Tryz.prog 75 #[.pointer (some ⟨b, 0, none⟩), .slice A l.length c] w fun e w' => e = .returned (.bool (holdsF d.auts l now)) ∧ Ext w w' := by
  obtain ⟨W0, e0⟩ : ∃ W, w.alloc (.cells #[.pointer (some ⟨b, 0, none⟩)] 90) = W := ⟨_, rfl⟩
  have x0 : Ext w W0 := by rw [← e0]; exact (Ext.refl w).alloc _
  have p0 : W0.cell? ⟨w.heap.size, 0, none⟩ = some (.pointer (some ⟨b, 0, none⟩)) := by rw [← e0]; exact (Blk.new w _ _).cell 0
  have c1 := containsI_any _ holds1_enters #[.pointer (some ⟨w.heap.size, 0, none⟩)] (oldA d.auts now) l hn A c W0 ((hr.below x0.out).more x0.size) (fun W s hs x => holds1_any b d now w.heap.size s (hl s hs) hul W (DoorB.ext h (x0.trans x)) (x.cell p0) ((hu.below (x0.trans x).out).more (x0.trans x).size))
  have HH := Lib.hid (holdsF_old d.auts l now)
  have HX := Lib.hid x0
  obtain ⟨i, hi⟩ : ∃ i, i = ixG (oldA d.auts now) l := ⟨_, rfl⟩
  rw [← hi] at c1 HH
  clear h hr hu hl hn hul x0 p0 hi
  go_enter Tryz.func75, Tryz.ntmps75
  go_wp2_with (go_at_call 117; refine c1.mono ?_; clear c1; rintro e w1 ⟨rfl, x1⟩)
  go_ret
  exact ⟨ret_bool HH.out.symm, HX.out.trans x1⟩

/-! ### does a request fit -/
set_option maxRecDepth 100000 in
set_option maxHeartbeats 8000000 in
theorem qfits_any (q : QueR) (A : Option Addr) (c : Nat) (w : World) (hq : QueW w w.heap.size q A c) :
    Calls Tryz.prog 45 #[queV q A c] w fun e w' => e = .returned (.bool (decide (fitsP q))) ∧ Ext w w' := by
  unfold queV
  obtain ⟨W0, e0⟩ : ∃ W, w.alloc (.cells #[.int .i64 q.kind, .int .i64 q.acc, .int .i64 q.nonce, .int .u64 (q.key : Int), .slice A q.names.length c, .int .i64 q.life, .int .i64 q.id, .int .u64 (q.e : Int), .int .u64 (q.s : Int)] 27) = W := ⟨_, rfl⟩
  have x0 : Ext w W0 := by rw [← e0]; exact (Ext.refl w).alloc _
  have b0 : QueB W0 w.heap.size q A c := by rw [← e0]; exact Blk.new w _ _
  have h0 := hq.ext x0
  have cO := orderable_any q.names h0.nl h0.ns A c h0.nc W0 h0.names
  have cI := In_any q.key h0.key
  obtain ⟨k0, k1, k2, k3, k4, k5, k6, k7, k8⟩ := arr9 b0
  have HB := Lib.hid b0
  have HX := Lib.hid x0
  clear hq h0 b0 x0
  go_enter Tryz.func45, Tryz.ntmps45
  go_upto_region 1 with (fail)
  try rw [e0]
  clear e0
  go_cut [3] (fun s3 wx => wx = W0 ∧ s3 = .bool (decide (q.names.length = 0 ∧ q.life = 0)))
  case first =>
    by_cases h1 : q.names.length = 0
    · have d1 : ((q.names.length : Int) == 0) = true := by simp [h1]
      by_cases h2 : q.life = 0
      · have d2 : (q.life == 0) = true := by simp [h2]
        have HH : Hid (q.names.length = 0 ∧ q.life = 0) := Lib.hid ⟨h1, h2⟩
        clear h1 h2
        go_wp2
        go_meet
        exact ⟨rfl, by rw [decide_eq_true HH.out]⟩
      · have d2 : (q.life == 0) = false := by simp [h2]
        have HH : Hid (¬ (q.names.length = 0 ∧ q.life = 0)) := Lib.hid (fun h => h2 h.2)
        clear h1 h2
        go_wp2
        go_meet
        exact ⟨rfl, by rw [decide_eq_false HH.out]⟩
    · have d1 : ((q.names.length : Int) == 0) = false := by rw [beq_eq_false_iff_ne]; omega
      have HH : Hid (¬ (q.names.length = 0 ∧ q.life = 0)) := Lib.hid (fun h => h1 h.1)
      clear h1
      go_wp2
      go_meet
      exact ⟨rfl, by rw [decide_eq_false HH.out]⟩
  case rest =>
    obtain ⟨hw, rfl⟩ := hcut
    rw [hw]
    clear hw
    obtain ⟨T, hT⟩ : ∃ T, T = decide (q.names.length = 0 ∧ q.life = 0) := ⟨_, rfl⟩
    rw [← hT]
    have HT : Hid (T = true ↔ q.names = [] ∧ q.life = 0) := Lib.hid (by rw [hT, decide_eq_true_iff]; simp [List.length_eq_zero_iff])
    clear hT
    by_cases s1 : q.kind = 1
    · have e1 : (q.kind == 1) = true := by simp [s1]
      have HF : Hid (fitsP q ↔ T = true ∧ q.acc = 0 ∧ q.id = 0) := Lib.hid (by unfold fitsP; rw [if_pos s1, HT.out]; exact ⟨fun ⟨a, b, c, d⟩ => ⟨⟨a, b⟩, c, d⟩, fun ⟨⟨a, b⟩, c, d⟩ => ⟨a, b, c, d⟩⟩)
      clear s1 cO cI
      cases T with
      | false =>
        have HN : Hid (¬ fitsP q) := Lib.hid (fun h => by have := (HF.out.1 h).1; cases this)
        go_wp2
        go_ret
        exact ⟨ret_bool (decide_eq_false HN.out).symm, HX.out⟩
      | true =>
        by_cases g1 : q.acc = 0
        · have d1 : (q.acc == 0) = true := by simp [g1]
          by_cases g2 : q.id = 0
          · have d2 : (q.id == 0) = true := by simp [g2]
            have HY : Hid (fitsP q) := Lib.hid (HF.out.2 ⟨rfl, g1, g2⟩)
            clear g1 g2
            go_wp2
            go_ret
            exact ⟨ret_bool (decide_eq_true HY.out).symm, HX.out⟩
          · have d2 : (q.id == 0) = false := by simp [g2]
            have HN : Hid (¬ fitsP q) := Lib.hid (fun h => g2 (HF.out.1 h).2.2)
            clear g1 g2
            go_wp2
            go_ret
            exact ⟨ret_bool (decide_eq_false HN.out).symm, HX.out⟩
        · have d1 : (q.acc == 0) = false := by simp [g1]
          have HN : Hid (¬ fitsP q) := Lib.hid (fun h => g1 (HF.out.1 h).2.1)
          clear g1
          go_wp2
          go_ret
          exact ⟨ret_bool (decide_eq_false HN.out).symm, HX.out⟩
    have e1 : (q.kind == 1) = false := by simp [s1]
    by_cases s2 : q.kind = 2
    · have e2 : (q.kind == 2) = true := by simp [s2]
      have HF : Hid (fitsP q ↔ q.id = 0 ∧ namesP q.names ∧ inB q.key = true ∧ 1 ≤ q.life ∧ q.life ≤ 1000) := Lib.hid (by unfold fitsP; rw [if_neg s1, if_pos s2])
      clear s1 s2
      by_cases g1 : q.id = 0
      case neg =>
        have d1 : (q.id == 0) = false := by simp [g1]
        have HN : Hid (¬ fitsP q) := Lib.hid (fun h => g1 (HF.out.1 h).1)
        clear g1
        go_wp2
        go_ret
        exact ⟨ret_bool (decide_eq_false HN.out).symm, HX.out⟩
      have d1 : (q.id == 0) = true := by simp [g1]
      by_cases g2 : namesP q.names
      case neg =>
        rw [decide_eq_false g2] at cO
        have HN : Hid (¬ fitsP q) := Lib.hid (fun h => g2 (HF.out.1 h).2.1)
        clear g1 g2
        go_wp2_with (go_at_call 85; refine cO.mono ?_; clear cO; rintro e w1 ⟨rfl, x1⟩)
        go_ret
        exact ⟨ret_bool (decide_eq_false HN.out).symm, HX.out.trans x1⟩
      rw [decide_eq_true g2] at cO
      cases g3 : inB q.key with
      | false =>
        rw [g3] at cI
        have HN : Hid (¬ fitsP q) := Lib.hid (fun h => by have := (HF.out.1 h).2.2.1; rw [g3] at this; cases this)
        clear g1 g2 g3
        go_wp2_with (first
          | (go_at_call 85; refine cO.mono ?_; clear cO; rintro e w1 ⟨rfl, x1⟩; clear k0 k1 k2 k3 k4 k5 k6 k7 k8; obtain ⟨k0, k1, k2, k3, k4, k5, k6, k7, k8⟩ := arr9 (ext_blk x1 HB.out))
          | (go_at_call 86; refine (cI _).mono ?_; clear cI; rintro e w2 ⟨rfl, x2⟩))
        go_ret
        exact ⟨ret_bool (decide_eq_false HN.out).symm, HX.out.trans (x1.trans x2)⟩
      | true =>
        rw [g3] at cI
        by_cases g4 : 0 < q.life
        · by_cases g5 : q.life ≤ 1000
          · have HY : Hid (fitsP q) := Lib.hid (HF.out.2 ⟨g1, g2, g3, by omega, g5⟩)
            clear g1 g2 g3
            go_wp2_with (first
              | (go_at_call 85; refine cO.mono ?_; clear cO; rintro e w1 ⟨rfl, x1⟩; clear k0 k1 k2 k3 k4 k5 k6 k7 k8; obtain ⟨k0, k1, k2, k3, k4, k5, k6, k7, k8⟩ := arr9 (ext_blk x1 HB.out))
              | (go_at_call 86; refine (cI _).mono ?_; clear cI; rintro e w2 ⟨rfl, x2⟩; clear k0 k1 k2 k3 k4 k5 k6 k7 k8; obtain ⟨k0, k1, k2, k3, k4, k5, k6, k7, k8⟩ := arr9 (ext_blk (x1.trans x2) HB.out)))
            go_ret
            exact ⟨ret_bool (decide_eq_true HY.out).symm, HX.out.trans (x1.trans x2)⟩
          · have HN : Hid (¬ fitsP q) := Lib.hid (fun h => g5 (HF.out.1 h).2.2.2.2)
            have d5 : decide (q.life ≤ 1000) = false := decide_eq_false g5
            clear g1 g2 g3
            go_wp2_with (first
              | (go_at_call 85; refine cO.mono ?_; clear cO; rintro e w1 ⟨rfl, x1⟩; clear k0 k1 k2 k3 k4 k5 k6 k7 k8; obtain ⟨k0, k1, k2, k3, k4, k5, k6, k7, k8⟩ := arr9 (ext_blk x1 HB.out))
              | (go_at_call 86; refine (cI _).mono ?_; clear cI; rintro e w2 ⟨rfl, x2⟩; clear k0 k1 k2 k3 k4 k5 k6 k7 k8; obtain ⟨k0, k1, k2, k3, k4, k5, k6, k7, k8⟩ := arr9 (ext_blk (x1.trans x2) HB.out)))
            go_ret
            exact ⟨ret_bool (decide_eq_false HN.out).symm, HX.out.trans (x1.trans x2)⟩
        · have HN : Hid (¬ fitsP q) := Lib.hid (fun h => g4 (by have := (HF.out.1 h).2.2.2.1; omega))
          have d4 : decide (0 < q.life) = false := decide_eq_false g4
          clear g1 g2 g3
          go_wp2_with (first
            | (go_at_call 85; refine cO.mono ?_; clear cO; rintro e w1 ⟨rfl, x1⟩; clear k0 k1 k2 k3 k4 k5 k6 k7 k8; obtain ⟨k0, k1, k2, k3, k4, k5, k6, k7, k8⟩ := arr9 (ext_blk x1 HB.out))
            | (go_at_call 86; refine (cI _).mono ?_; clear cI; rintro e w2 ⟨rfl, x2⟩; clear k0 k1 k2 k3 k4 k5 k6 k7 k8; obtain ⟨k0, k1, k2, k3, k4, k5, k6, k7, k8⟩ := arr9 (ext_blk (x1.trans x2) HB.out)))
          go_ret
          exact ⟨ret_bool (decide_eq_false HN.out).symm, HX.out.trans (x1.trans x2)⟩
    have e2 : (q.kind == 2) = false := by simp [s2]
    have HF : Hid (fitsP q ↔ T = true ∧ q.key = 0) := Lib.hid (by unfold fitsP; rw [if_neg s1, if_neg s2, HT.out]; exact ⟨fun ⟨a, b, c⟩ => ⟨⟨a, b⟩, c⟩, fun ⟨⟨a, b⟩, c⟩ => ⟨a, b, c⟩⟩)
    clear s1 s2 cO cI
    cases T with
    | false =>
      have HN : Hid (¬ fitsP q) := Lib.hid (fun h => by have := (HF.out.1 h).1; cases this)
      go_wp2
      go_ret
      exact ⟨ret_bool (decide_eq_false HN.out).symm, HX.out⟩
    | true =>
      by_cases g1 : q.key = 0
      · have d1 : ((q.key : Int) == 0) = true := by simp [g1]
        have HY : Hid (fitsP q) := Lib.hid (HF.out.2 ⟨rfl, g1⟩)
        clear g1
        go_wp2
        go_ret
        exact ⟨ret_bool (decide_eq_true HY.out).symm, HX.out⟩
      · have d1 : ((q.key : Int) == 0) = false := by rw [beq_eq_false_iff_ne]; omega
        have HN : Hid (¬ fitsP q) := Lib.hid (fun h => g1 (HF.out.1 h).2)
        clear g1
        go_wp2
        go_ret
        exact ⟨ret_bool (decide_eq_false HN.out).symm, HX.out⟩
end Go.Proofs.YtbhdmfijdhcehaaGreatDoor

/- The door, walked: an authorization, an order to be changed; looks. -/
namespace Go.Proofs.YtbhdmfijdhcehaaGreatDoor
set_option linter.unusedVariables false
set_option linter.unusedSimpArgs false
open Go.RowKit Go.Shelf Go.Maps

theorem DoorW.grownTo {w w' : World} {b : Nat} {d : DoorX} (h : DoorW w w.heap.size d) (hl : DoorL (fun k => k ≠ b) d) (hg : w.grownBy w' (some b)) : DoorW w' w'.heap.size d :=
  h.stay hl hg.size (fun k hk hb => hg.block k hb (by simpa using hk))
def withU (d : DoorX) (l : List AutR) (A : Option Addr) (c : Nat) : DoorX := { d with auts := l, uA := A, uc := c }
def withO (d : DoorX) (l : List OrdX) (A : Option Addr) (c : Nat) : DoorX := { d with ords := l, rA := A, rc := c }
theorem withU_w {w : World} {B : Nat} {d : DoorX} {l : List AutR} {A : Option Addr} {c : Nat} (h : DoorW w B d) (hr : Reads w B 7 A l.length (autV l)) (hc : l.length ≤ c) (hl : l.length ≤ 1099511627776) (hw : ∀ x ∈ l, AutW x) : DoorW w B (withU d l A c) :=
  ⟨h.non, h.ser, h.acc, h.cc, h.cl, h.cw, hr, hc, hl, hw, h.ord, h.rc, h.rl, h.rw⟩
theorem withO_w {w : World} {B : Nat} {d : DoorX} {l : List OrdX} {A : Option Addr} {c : Nat} (h : DoorW w B d) (hr : Reads w B 8 A l.length (ordV l)) (hc : l.length ≤ c) (hl : l.length ≤ 1099511627776) (hw : ∀ x ∈ l, OrdW w B x) : DoorW w B (withO d l A c) :=
  ⟨h.non, h.ser, h.acc, h.cc, h.cl, h.cw, h.aut, h.uc, h.ul, h.uw, hr, hc, hl, hw⟩
theorem withU_l {S S' : Nat → Prop} {d : DoorX} {l : List AutR} {A : Option Addr} {c : Nat} (h : DoorL S d) (k : ∀ b, S b → S' b) (ha : Lies S' A l.length) : DoorL S' (withU d l A c) :=
  ⟨h.o.mono k, h.c.mono k, ha, h.r.mono k, fun x hx => (h.n x hx).mono k, fun x hx => (h.a x hx).mono k⟩
theorem withO_l {S S' : Nat → Prop} {d : DoorX} {l : List OrdX} {A : Option Addr} {c : Nat} (h : DoorL S d) (k : ∀ b, S b → S' b) (ha : Lies S' A l.length) (hn : ∀ x ∈ l, Lies S' x.nA x.o.names.length ∧ Lies S' x.aA x.o.auths.length) : DoorL S' (withO d l A c) :=
  ⟨h.o.mono k, h.c.mono k, h.u.mono k, ha, fun x hx => (hn x hx).1, fun x hx => (hn x hx).2⟩
/-- Cells of a list of structs, one of which is turned. -/
theorem fm_set {α : Type} (enc : α → List Value) {k : Nat} (hk : ∀ x, (enc x).length = k) : ∀ {l : List α} {j : Nat} {x y : α}, l[j]? = some x → ∀ {i : Nat} {u : Value}, i < k → (enc x).set i u = enc y → (l.flatMap enc).set (j * k + i) u = (l.set j y).flatMap enc
  | [], j, x, y, h, i, u, hi, he => by simp at h
  | a :: l, 0, x, y, h, i, u, hi, he => by
    simp at h; subst h
    rw [List.flatMap_cons, Nat.zero_mul, Nat.zero_add, List.set_append_left _ _ (by rw [hk]; exact hi), he]
    rfl
  | a :: l, j + 1, x, y, h, i, u, hi, he => by
    simp at h
    rw [List.flatMap_cons, List.set_append_right _ _ (by rw [hk, Nat.add_mul]; omega), hk, show (j + 1) * k + i - k = j * k + i by rw [Nat.add_mul]; omega, fm_set enc hk h hi he]
    rfl
theorem own_fm {α : Type} (enc : α → List Value) {k : Nat} (hk : ∀ x, (enc x).length = k) {w : World} {base g n cap : Nat} {e : TypeId} {l : List α} (h : w.ownsRow base e k (.slice (some ⟨g, 0, none⟩) n cap) n (l.flatMap enc)) {j : Nat} {x : α} (hj : l[j]? = some x) {i : Nat} (hi : i < k) : w.cell? ⟨g, j * k + i, none⟩ = (enc x)[i]? := by
  have hl := (List.getElem?_eq_some_iff.1 hj).1
  have h1 := h.1
  rw [fm_length enc hk] at h1
  have h2 : (l.length - 1) * k + k = l.length * k := by rw [← Nat.succ_mul]; congr 1; omega
  have h3 : j * k ≤ (l.length - 1) * k := Nat.mul_le_mul_right _ (by omega)
  rw [h.cellAt (j * k + i) (by omega)]
  exact fm_at enc hk hj hi

/-! ### an authorization to be changed -/
def authPost (b : Nat) (d : DoorX) (now : Int) (a : Nat) (w : World) (e : Ending) (w' : World) : Prop :=
  ∃ g c, e = .returned (.pointer (some ⟨g, a * 7, none⟩)) ∧ DoorB w' b (withU d d.auts (some ⟨g, 0, none⟩) c) now ∧ w'.ownsRow w.heap.size 69 7 (.slice (some ⟨g, 0, none⟩) d.auts.length c) d.auts.length (autV d.auts) ∧ w.grownBy w' (some b)
def orderPost (b : Nat) (d : DoorX) (now : Int) (a : Nat) (w : World) (e : Ending) (w' : World) : Prop :=
  ∃ g c, e = .returned (.pointer (some ⟨g, a * 8, none⟩)) ∧ DoorB w' b (withO d d.ords (some ⟨g, 0, none⟩) c) now ∧ w'.ownsRow w.heap.size 78 8 (.slice (some ⟨g, 0, none⟩) d.ords.length c) d.ords.length (ordV d.ords) ∧ w.grownBy w' (some b)
set_option maxRecDepth 100000 in
set_option maxHeartbeats 4000000 in
theorem auth_any (b : Nat) (d : DoorX) (now : Int) (a : Nat) (ha : a < d.auts.length) (hl : d.auts.length ≤ 1099511627776) (w : World) (h : DoorB w b d now) (hr : Reads w w.heap.size 7 d.uA d.auts.length (autV d.auts)) :
    Calls Tryz.prog 72 #[.pointer (some ⟨b, 0, none⟩), .int .i64 ((a : Int) + 1)] w (authPost b d now a w) := by
  obtain ⟨a0, a1, a2, a3, a4, a5, a6⟩ := arr7 h
  have cC := cloneU_any d.uA d.auts.length d.uc (autV d.auts) (autV_one _) hl w hr
  have hal : (a : Int) < (d.auts.length : Int) := by omega
  have hab : (a : Int) ≤ 1099511627776 := by omega
  have HD := Lib.hid h
  have H0 : Hid (0 < d.auts.length) := Lib.hid (by omega)
  have hlt : Hid (b < w.heap.size) := Lib.hid (Blk.lt h)
  clear h hr ha hl
  go_enter Tryz.func72, Tryz.ntmps72
  go_wp2_with (go_at_call 101; refine cC.mono ?_; clear cC a0 a1 a2 a3 a4 a5 a6; rintro e w1 ⟨v, rfl, ho, x1⟩; obtain ⟨g, cap, rfl, hgb, hgl⟩ := ho.form H0.out; obtain ⟨a0, a1, a2, a3, a4, a5, a6⟩ := arr7 (DoorB.ext HD.out x1); have f3 := (DoorB.ext HD.out x1).frozen 3; have HO := Lib.hid ho; clear ho)
  go_ret
  exact ⟨g, cap, by simp, (DoorB.ext HD.out x1).set_ 3 _, own_far HO.out hlt.out 3 _, (grown_ext x1 (some b)).trans (grown_set _ _ _ _)⟩
set_option maxRecDepth 100000 in
set_option maxHeartbeats 4000000 in
theorem order_any (b : Nat) (d : DoorX) (now : Int) (a : Nat) (ha : a < d.ords.length) (hl : d.ords.length ≤ 1099511627776) (w : World) (h : DoorB w b d now) (hr : Reads w w.heap.size 8 d.rA d.ords.length (ordV d.ords)) :
    Calls Tryz.prog 78 #[.pointer (some ⟨b, 0, none⟩), .int .i64 ((a : Int) + 1)] w (orderPost b d now a w) := by
  obtain ⟨a0, a1, a2, a3, a4, a5, a6⟩ := arr7 h
  have cC := cloneO_any d.rA d.ords.length d.rc (ordV d.ords) (ordV_one _) hl w hr
  have hal : (a : Int) < (d.ords.length : Int) := by omega
  have hab : (a : Int) ≤ 1099511627776 := by omega
  have HD := Lib.hid h
  have H0 : Hid (0 < d.ords.length) := Lib.hid (by omega)
  have hlt : Hid (b < w.heap.size) := Lib.hid (Blk.lt h)
  clear h hr ha hl
  go_enter Tryz.func78, Tryz.ntmps78
  go_wp2_with (go_at_call 105; refine cC.mono ?_; clear cC a0 a1 a2 a3 a4 a5 a6; rintro e w1 ⟨v, rfl, ho, x1⟩; obtain ⟨g, cap, rfl, hgb, hgl⟩ := ho.form H0.out; obtain ⟨a0, a1, a2, a3, a4, a5, a6⟩ := arr7 (DoorB.ext HD.out x1); have f4 := (DoorB.ext HD.out x1).frozen 4; have HO := Lib.hid ho; clear ho)
  go_ret
  exact ⟨g, cap, by simp, (DoorB.ext HD.out x1).set_ 4 _, own_far HO.out hlt.out 4 _, (grown_ext x1 (some b)).trans (grown_set _ _ _ _)⟩
end Go.Proofs.YtbhdmfijdhcehaaGreatDoor

/- The door, walked: looks. -/
namespace Go.Proofs.YtbhdmfijdhcehaaGreatDoor
set_option linter.unusedVariables false
set_option linter.unusedSimpArgs false
open Go.RowKit Go.Shelf Go.Maps

theorem grown_new {w w1 : World} {row : Option Nat} (h : w.grownBy w1 row) {p : Addr} (hp : w.heap.size ≤ p.block) (u : Value) : w.grownBy (w1.setCell p u) row :=
  ⟨h.os, h.tape, h.output, Nat.le_trans h.size (KeepsWalks.setCell w1 p u).size, fun k hk hr => (Below.heap_setCell w1 p u k (by omega)).trans (h.block k hk hr)⟩
/-- What a kind of request ends in. -/
def methPost (b : Nat) (d : DoorX) (now : Int) (r : OutF) (w : World) (e : Ending) (w' : World) : Prop :=
  e = .returned (.tuple #[.int .i64 r.2.1, .int .i64 (r.2.2 : Nat)]) ∧ w.grownBy w' (some b) ∧ (r.2.2 = 0 → ∃ d', d'.fro = r.1 ∧ DoorB w' b d' now ∧ DoorW w' w'.heap.size d' ∧ ∀ S, DoorL S d → DoorL (orNew S w) d')
theorem methPost_bad {b : Nat} {d : DoorX} {now : Int} {w w' : World} {e : Ending} {E : Nat} (h0 : E ≠ 0) (he : e = .returned (.tuple #[.int .i64 0, .int .i64 (E : Int)])) (hg : w.grownBy w' (some b)) : methPost b d now (bad E) w e w' := ⟨he, hg, fun h => absurd h h0⟩
theorem HG3_cell {w w' : World} {b g : Nat} {T : TypeId} {x0 x1 x2 x3 x4 x5 x6 x7 x8 : Value} (hg : w.grownBy w' (some b)) (hb : Blk w g T #[x0, x1, x2, x3, x4, x5, x6, x7, x8]) (hne : some g ≠ some b) : w'.cell? ⟨g, 6, none⟩ = some x6 := (hb.grown hg hne).cell 6
theorem dfro_auts (d : DoorX) : d.fro.auts = d.auts := rfl
set_option maxRecDepth 100000 in
set_option maxHeartbeats 8000000 in
theorem looks_any (b : Nat) (d : DoorX) (now : Int) (q : QueR) (A : Option Addr) (c : Nat) (w : World) (hw : DoorW w w.heap.size d) (hL : DoorL (fun k => k ≠ b) d) (h : DoorB w b d now) :
    Calls Tryz.prog 51 #[.pointer (some ⟨b, 0, none⟩), queV q A c] w (methPost b d now (lookF d.fro q) w) := by
  obtain ⟨qk, qa, qn, qy, qs, ql, qi, qe, qss⟩ := q
  unfold queV
  obtain ⟨W0, e0⟩ : ∃ W, w.alloc (.cells #[.int .i64 qk, .int .i64 qa, .int .i64 qn, .int .u64 (qy : Int), .slice A qs.length c, .int .i64 ql, .int .i64 qi, .int .u64 (qe : Int), .int .u64 (qss : Int)] 27) = W := ⟨_, rfl⟩
  have x0 : Ext w W0 := by rw [← e0]; exact (Ext.refl w).alloc _
  have b0 : Blk W0 w.heap.size 27 #[.int .i64 qk, .int .i64 qa, .int .i64 qn, .int .u64 (qy : Int), .slice A qs.length c, .int .i64 ql, .int .i64 qi, .int .u64 (qe : Int), .int .u64 (qss : Int)] := by rw [← e0]; exact Blk.new w _ _
  have s0 : w.heap.size < W0.heap.size := Blk.lt b0
  have HW := Lib.hid hw
  have HL := Lib.hid hL
  have HD := Lib.hid h
  have HB := Lib.hid b0
  have HX := Lib.hid x0
  have HS0 := Lib.hid s0
  obtain ⟨k0, k1, k2, k3, k4, k5, k6, k7, k8⟩ := arr9 b0
  obtain ⟨a0, a1, a2, a3, a4, a5, a6⟩ := arr7 (DoorB.ext h x0)
  have hul := hw.ul
  clear hw hL h b0 x0 s0
  go_enter Tryz.func51, Tryz.ntmps51
  go_upto_region 1 with (fail)
  try rw [e0]
  clear e0
  by_cases g1 : qi < 1
  · have hR : lookF d.fro ⟨qk, qa, qn, qy, qs, ql, qi, qe, qss⟩ = bad 131 := by unfold lookF; rw [if_pos g1]
    have HR := Lib.hid hR
    have d1 : decide (qi < 1) = true := decide_eq_true g1
    clear g1 hR
    have j0 := fun q : Later W0 => q.cell k1
    have j1 := fun q : Later W0 => q.cell k6
    have j2 := fun q : Later W0 => q.cell a3
    try (have j3 := fun q : Later W0 => q.cell r1)
    clear k0 k1 k2 k3 k4 k5 k6 k7 k8 a0 a1 a2 a3 a4 a5 a6
    refine wp_region_later (by kernel_rfl) (by kernel_rfl) ?_
    repeat (go_big_quiet_step ((fail)))
    refine wpQuiet_nil ?_
    rintro W2 ⟨q, hq⟩
    have x2 : Ext w W2 := by rw [hq]; exact HX.out.trans q.ext
    have y2 : Ext W0 W2 := by rw [hq]; exact q.ext
    clear hq q j0 j1 j2
    (try clear j3)
    (try clear r1)
    go_wp2
    go_ret2
    rw [HR.out]
    exact methPost_bad (E := 131) (by decide) rfl (grown_ext x2 (some b))
  have d1 : decide (qi < 1) = false := decide_eq_false g1
  obtain ⟨a, rfl⟩ : ∃ a : Nat, qi = (a : Int) + 1 := ⟨(qi - 1).toNat, by omega⟩
  by_cases g2 : (d.auts.length : Int) < (a : Int) + 1
  · have hR : lookF d.fro ⟨qk, qa, qn, qy, qs, ql, (a : Int) + 1, qe, qss⟩ = bad 131 := by
      unfold lookF
      rw [if_neg g1]
      simp only
      rw [show ((a : Int) + 1).toNat - 1 = a by omega, dfro_auts, List.getElem?_eq_none (by omega)]
    have HR := Lib.hid hR
    have d2 : decide ((d.auts.length : Int) < (a : Int) + 1) = true := decide_eq_true g2
    clear g1 g2 hR
    have j0 := fun q : Later W0 => q.cell k1
    have j1 := fun q : Later W0 => q.cell k6
    have j2 := fun q : Later W0 => q.cell a3
    try (have j3 := fun q : Later W0 => q.cell r1)
    clear k0 k1 k2 k3 k4 k5 k6 k7 k8 a0 a1 a2 a3 a4 a5 a6
    refine wp_region_later (by kernel_rfl) (by kernel_rfl) ?_
    repeat (go_big_quiet_step ((fail)))
    refine wpQuiet_nil ?_
    rintro W2 ⟨q, hq⟩
    have x2 : Ext w W2 := by rw [hq]; exact HX.out.trans q.ext
    have y2 : Ext W0 W2 := by rw [hq]; exact q.ext
    clear hq q j0 j1 j2
    (try clear j3)
    (try clear r1)
    go_wp2
    go_ret2
    rw [HR.out]
    exact methPost_bad (E := 131) (by decide) rfl (grown_ext x2 (some b))
  have d2 : decide ((d.auts.length : Int) < (a : Int) + 1) = false := decide_eq_false g2
  obtain ⟨x, hx⟩ : ∃ u, d.auts[a]? = some u := ⟨_, List.getElem?_eq_getElem (by omega)⟩
  obtain ⟨ad, hA, hlt, r0, r1, r2, r3, r4, r5, r6⟩ := reads_aut HW.out.aut hx
  rw [hA] at a3
  have r1 := HX.out.cell r1
  have hal : (a : Int) < (d.auts.length : Int) := by omega
  have hab : (a : Int) ≤ 1099511627776 := by omega
  have hR0 : lookF d.fro ⟨qk, qa, qn, qy, qs, ql, (a : Int) + 1, qe, qss⟩ = if x.acc ≠ qa then bad 131 else if x.st ≠ 1 ∧ x.st ≠ 4 then bad 221 else ({ d.fro with auts := d.auts.set a { x with st := 2 } }, (a : Int) + 1, 0) := by
    unfold lookF
    rw [if_neg g1]
    simp only
    rw [show ((a : Int) + 1).toNat - 1 = a by omega, dfro_auts, hx]
  have HHX := Lib.hid hx
  clear hlt r0 r2 r3 r4 r5 r6 hx g1 g2 hul
  by_cases g3 : x.acc = qa
  case neg =>
    rw [if_pos g3] at hR0
    have HR := Lib.hid hR0
    have d3 : (x.acc != qa) = true := by simp [g3]
    clear g3 hR0
    have j0 := fun q : Later W0 => q.cell k1
    have j1 := fun q : Later W0 => q.cell k6
    have j2 := fun q : Later W0 => q.cell a3
    try (have j3 := fun q : Later W0 => q.cell r1)
    clear k0 k1 k2 k3 k4 k5 k6 k7 k8 a0 a1 a2 a3 a4 a5 a6
    refine wp_region_later (by kernel_rfl) (by kernel_rfl) ?_
    repeat (go_big_quiet_step ((fail)))
    refine wpQuiet_nil ?_
    rintro W2 ⟨q, hq⟩
    have x2 : Ext w W2 := by rw [hq]; exact HX.out.trans q.ext
    have y2 : Ext W0 W2 := by rw [hq]; exact q.ext
    clear hq q j0 j1 j2
    (try clear j3)
    (try clear r1)
    go_wp2
    go_ret2
    rw [HR.out]
    exact methPost_bad (E := 131) (by decide) rfl (grown_ext x2 (some b))
  rw [if_neg (by simpa using g3)] at hR0
  have HR := Lib.hid hR0
  have d3 : (x.acc != qa) = false := by simp [g3]
  clear g3 hR0
  have j0 := fun q : Later W0 => q.cell k1
  have j1 := fun q : Later W0 => q.cell k6
  have j2 := fun q : Later W0 => q.cell a3
  try (have j3 := fun q : Later W0 => q.cell r1)
  clear k0 k1 k2 k3 k4 k5 k6 k7 k8 a0 a1 a2 a3 a4 a5 a6
  refine wp_region_later (by kernel_rfl) (by kernel_rfl) ?_
  repeat (go_big_quiet_step ((fail)))
  refine wpQuiet_nil ?_
  rintro W2 ⟨q, hq⟩
  have x2 : Ext w W2 := by rw [hq]; exact HX.out.trans q.ext
  have y2 : Ext W0 W2 := by rw [hq]; exact q.ext
  clear hq q j0 j1 j2
  (try clear j3)
  (try clear r1)
  have cA := auth_any b d now a (by omega) HW.out.ul W2 (DoorB.ext HD.out x2) ((HW.out.aut.below x2.out).more x2.size)
  obtain ⟨k0, k1, k2, k3, k4, k5, k6, k7, k8⟩ := arr9 (ext_blk y2 HB.out)
  have HX2 := Lib.hid x2
  have HY2 := Lib.hid y2
  have hS2 : Hid (w.heap.size < W2.heap.size) := Lib.hid (by have := HS0.out; have := y2.size; omega)
  clear x2 y2 hA hal
  by_cases g4 : x.st ≠ 1 ∧ x.st ≠ 4
  · have HR2 := HR.out
    rw [if_pos g4] at HR2
    have HRb := Lib.hid HR2
    clear HR2 HR
    have d4 : (x.st != 1) = true := by simp [g4.1]
    have d5 : (x.st != 4) = true := by simp [g4.2]
    clear g4
    go_wp2_with (go_at_call 72; refine cA.mono ?_; clear cA k0 k1 k2 k3 k4 k5 k6 k7 k8; rintro e w3 ⟨g, cap, rfl, hb3, ho3, hg3⟩; have p4 := own_fm autC (fun _ => rfl) ho3 HHX.out (i := 4) (by decide); have HG3 := Lib.hid hg3; clear hb3 ho3 hg3; simp only [autC, List.getElem?_cons_succ, List.getElem?_cons_zero] at p4)
    go_ret2
    rw [HRb.out]
    exact methPost_bad (E := 221) (by decide) rfl ((grown_ext HX2.out (some b)).trans HG3.out)
  · have HR2 := HR.out
    rw [if_neg g4] at HR2
    have HRb := Lib.hid HR2
    clear HR2 HR
    have HF : Hid (x.st = 1 ∨ x.st = 4) := Lib.hid (by omega)
    by_cases g5 : x.st = 1
    · have d4 : (x.st != 1) = false := by simp [g5]
      clear g4 g5
      go_wp2_with (go_at_call 72; (refine cA.mono ?_; clear cA k0 k1 k2 k3 k4 k5 k6 k7 k8; rintro e w3 ⟨g, cap, rfl, hb3, ho3, hg3⟩; have p4 := own_fm autC (fun _ => rfl) ho3 HHX.out (i := 4) (by decide); have f4 := ho3.frozenAt (a * 7 + 4); have hgb : Hid (W2.heap.size ≤ g) := Lib.hid (own_ge ho3 g rfl); have hqg : ⟨w.heap.size, 6, none⟩ ≠ (⟨g, a * 7 + 4, none⟩ : Addr) := (fun e => by have h1 := congrArg Addr.block e; simp only at h1; have h2 := hS2.out; have h3 := hgb.out; omega); have k6 := HG3_cell hg3 (ext_blk HY2.out HB.out) (by have := Blk.lt HD.out; have := HS0.out; simp; omega); have HG3 := Lib.hid hg3; have HB3 := Lib.hid hb3; have HO3 := Lib.hid ho3; clear hb3 ho3 hg3; simp only [autC, List.getElem?_cons_succ, List.getElem?_cons_zero] at p4))
      go_ret2
      have hgb := hgb.out
      have hbl := Blk.lt HD.out
      have hS2 := hS2.out
      obtain ⟨o4, hg4⟩ := HO3.out.stored (a * 7 + 4) (.int .i64 2)
      have hset := fm_set autC (k := 7) (fun _ => rfl) HHX.out (i := 4) (u := .int .i64 2) (y := { x with st := 2 }) (by decide) rfl
      rw [show autV d.auts = d.auts.flatMap autC from rfl, hset] at o4
      have hg5 := grown_new ((grown_ext HX2.out (some b)).trans HG3.out) (p := ⟨g, a * 7 + 4, none⟩) (by simp only; omega) (.int .i64 2)
      have hlen : (d.auts.set a { x with st := 2 }).length = d.auts.length := List.length_set
      have xw := HW.out.uw x (List.mem_of_getElem? HHX.out)
      rw [HRb.out]
      refine ⟨rfl, hg5, fun _ => ⟨withU d (d.auts.set a { x with st := 2 }) (some ⟨g, 0, none⟩) cap, rfl, ?_, ?_, fun S hS => ?_⟩⟩
      · have := Blk.far HB3.out (p := ⟨g, a * 7 + 4, none⟩) (by simp; omega) (.int .i64 2)
        unfold DoorB withU at this ⊢
        simp only at this ⊢
        rw [hlen]
        exact this
      · have hr := Reads.of_own o4
        rw [← hlen] at hr
        refine withU_w (HW.out.grownTo HL.out hg5) hr (by rw [hlen]; exact own_cap HO3.out) (by rw [hlen]; exact HW.out.ul) (fun y hy => ?_)
        rcases List.mem_or_eq_of_mem_set hy with hy | rfl
        · exact HW.out.uw y hy
        · exact ⟨xw.id, xw.acc, wf64_of (by simp) (by simp), xw.fr, xw.un, xw.name, xw.tok⟩
      · refine withU_l hS (fun k hk => .inl hk) ?_
        rw [hlen]
        exact Lies.own o4 (fun k hk => .inr (by omega))
    · have d4 : (x.st != 1) = true := by simp [g5]
      have d5 : (x.st != 4) = false := by have := HF.out; simp; omega
      clear g4 g5
      go_wp2_with (go_at_call 72; refine cA.mono ?_; clear cA k0 k1 k2 k3 k4 k5 k6 k7 k8; rintro e w3 ⟨g, cap, rfl, hb3, ho3, hg3⟩; have p4 := own_fm autC (fun _ => rfl) ho3 HHX.out (i := 4) (by decide); have f4 := ho3.frozenAt (a * 7 + 4); have hgb : Hid (W2.heap.size ≤ g) := Lib.hid (own_ge ho3 g rfl); have hqg : ⟨w.heap.size, 6, none⟩ ≠ (⟨g, a * 7 + 4, none⟩ : Addr) := (fun e => by have h1 := congrArg Addr.block e; simp only at h1; have h2 := hS2.out; have h3 := hgb.out; omega); have k6 := HG3_cell hg3 (ext_blk HY2.out HB.out) (by have := Blk.lt HD.out; have := HS0.out; simp; omega); have HG3 := Lib.hid hg3; have HB3 := Lib.hid hb3; have HO3 := Lib.hid ho3; clear hb3 ho3 hg3; simp only [autC, List.getElem?_cons_succ, List.getElem?_cons_zero] at p4)
      go_ret2
      have hgb := hgb.out
      have hbl := Blk.lt HD.out
      have hS2 := hS2.out
      obtain ⟨o4, hg4⟩ := HO3.out.stored (a * 7 + 4) (.int .i64 2)
      have hset := fm_set autC (k := 7) (fun _ => rfl) HHX.out (i := 4) (u := .int .i64 2) (y := { x with st := 2 }) (by decide) rfl
      rw [show autV d.auts = d.auts.flatMap autC from rfl, hset] at o4
      have hg5 := grown_new ((grown_ext HX2.out (some b)).trans HG3.out) (p := ⟨g, a * 7 + 4, none⟩) (by simp only; omega) (.int .i64 2)
      have hlen : (d.auts.set a { x with st := 2 }).length = d.auts.length := List.length_set
      have xw := HW.out.uw x (List.mem_of_getElem? HHX.out)
      rw [HRb.out]
      refine ⟨rfl, hg5, fun _ => ⟨withU d (d.auts.set a { x with st := 2 }) (some ⟨g, 0, none⟩) cap, rfl, ?_, ?_, fun S hS => ?_⟩⟩
      · have := Blk.far HB3.out (p := ⟨g, a * 7 + 4, none⟩) (by simp; omega) (.int .i64 2)
        unfold DoorB withU at this ⊢
        simp only at this ⊢
        rw [hlen]
        exact this
      · have hr := Reads.of_own o4
        rw [← hlen] at hr
        refine withU_w (HW.out.grownTo HL.out hg5) hr (by rw [hlen]; exact own_cap HO3.out) (by rw [hlen]; exact HW.out.ul) (fun y hy => ?_)
        rcases List.mem_or_eq_of_mem_set hy with hy | rfl
        · exact HW.out.uw y hy
        · exact ⟨xw.id, xw.acc, wf64_of (by simp) (by simp), xw.fr, xw.un, xw.name, xw.tok⟩
      · refine withU_l hS (fun k hk => .inl hk) ?_
        rw [hlen]
        exact Lies.own o4 (fun k hk => .inr (by omega))
end Go.Proofs.YtbhdmfijdhcehaaGreatDoor

/- The door, walked: issues, revokes. -/
namespace Go.Proofs.YtbhdmfijdhcehaaGreatDoor
set_option linter.unusedVariables false
set_option linter.unusedSimpArgs false
open Go.RowKit Go.Shelf Go.Maps

theorem dfro_ords (d : DoorX) : d.fro.ords = d.ords.map (·.o) := rfl
theorem ords_get {d : DoorX} {a : Nat} {x : OrdX} (h : d.ords[a]? = some x) : d.fro.ords[a]? = some x.o := by rw [dfro_ords, List.getElem?_map, h]; rfl
theorem map_set_o (l : List OrdX) (a : Nat) (x : OrdX) : (l.set a x).map (·.o) = (l.map (·.o)).set a x.o := by rw [List.map_set]
theorem own_ords {w : World} {base g n cap : Nat} {e : TypeId} {l : List OrdX} (h : w.ownsRow base e 8 (.slice (some ⟨g, 0, none⟩) n cap) n (ordV l)) {a : Nat} {x : OrdX} (hx : l[a]? = some x) :
    w.cell? ⟨g, a * 8 + 5, none⟩ = some (.slice x.aA x.o.auths.length x.ac) ∧ w.cell? ⟨g, a * 8 + 6, none⟩ = some (.int .i64 x.o.st) := by
  have p5 := own_fm ordC (fun _ => rfl) h hx (i := 5) (by decide)
  have p6 := own_fm ordC (fun _ => rfl) h hx (i := 6) (by decide)
  simp only [ordC, List.getElem?_cons_succ, List.getElem?_cons_zero] at p5 p6
  exact ⟨p5, p6⟩
set_option maxRecDepth 100000 in
set_option maxHeartbeats 8000000 in
theorem issues_any (b : Nat) (d : DoorX) (now : Int) (q : QueR) (A : Option Addr) (c : Nat) (w : World) (hw : DoorW w w.heap.size d) (hL : DoorL (fun k => k ≠ b) d) (h : DoorB w b d now)
    (hAu : ∀ x ∈ d.ords, ∀ s ∈ x.o.auths, 1 ≤ s ∧ s ≤ d.auts.length) :
    Calls Tryz.prog 52 #[.pointer (some ⟨b, 0, none⟩), queV q A c] w (methPost b d now (issF d.fro q now) w) := by
  obtain ⟨qk, qa, qn, qy, qs, ql, qi, qe, qss⟩ := q
  unfold queV
  obtain ⟨W0, e0⟩ : ∃ W, w.alloc (.cells #[.int .i64 qk, .int .i64 qa, .int .i64 qn, .int .u64 (qy : Int), .slice A qs.length c, .int .i64 ql, .int .i64 qi, .int .u64 (qe : Int), .int .u64 (qss : Int)] 27) = W := ⟨_, rfl⟩
  have x0 : Ext w W0 := by rw [← e0]; exact (Ext.refl w).alloc _
  have b0 : Blk W0 w.heap.size 27 #[.int .i64 qk, .int .i64 qa, .int .i64 qn, .int .u64 (qy : Int), .slice A qs.length c, .int .i64 ql, .int .i64 qi, .int .u64 (qe : Int), .int .u64 (qss : Int)] := by rw [← e0]; exact Blk.new w _ _
  have s0 : w.heap.size < W0.heap.size := Blk.lt b0
  have HW := Lib.hid hw
  have HL := Lib.hid hL
  have HD := Lib.hid h
  have HB := Lib.hid b0
  have HX := Lib.hid x0
  have HS0 := Lib.hid s0
  have HAU := Lib.hid hAu
  obtain ⟨k0, k1, k2, k3, k4, k5, k6, k7, k8⟩ := arr9 b0
  obtain ⟨a0, a1, a2, a3, a4, a5, a6⟩ := arr7 (DoorB.ext h x0)
  have hul := hw.rl
  clear hw hL h b0 x0 s0 hAu
  go_enter Tryz.func52, Tryz.ntmps52
  go_upto_region 1 with (fail)
  try rw [e0]
  clear e0
  by_cases g1 : qi < 1
  · have hR : issF d.fro ⟨qk, qa, qn, qy, qs, ql, qi, qe, qss⟩ now = bad 131 := by unfold issF; rw [if_pos g1]
    have HR := Lib.hid hR
    have d1 : decide (qi < 1) = true := decide_eq_true g1
    clear g1 hR
    have j0 := fun q : Later W0 => q.cell k1
    have j1 := fun q : Later W0 => q.cell k6
    have j2 := fun q : Later W0 => q.cell a4
    try (have j3 := fun q : Later W0 => q.cell r1)
    clear k0 k1 k2 k3 k4 k5 k6 k7 k8 a0 a1 a2 a3 a4 a5 a6
    refine wp_region_later (by kernel_rfl) (by kernel_rfl) ?_
    repeat (go_big_quiet_step ((fail)))
    refine wpQuiet_nil ?_
    rintro W2 ⟨q, hq⟩
    have x2 : Ext w W2 := by rw [hq]; exact HX.out.trans q.ext
    have y2 : Ext W0 W2 := by rw [hq]; exact q.ext
    clear hq q j0 j1 j2
    (try clear j3)
    (try clear r1)
    go_wp2
    go_ret2
    rw [HR.out]
    exact methPost_bad (E := 131) (by decide) rfl (grown_ext x2 (some b))
  have d1 : decide (qi < 1) = false := decide_eq_false g1
  obtain ⟨a, rfl⟩ : ∃ a : Nat, qi = (a : Int) + 1 := ⟨(qi - 1).toNat, by omega⟩
  by_cases g2 : (d.ords.length : Int) < (a : Int) + 1
  · have hR : issF d.fro ⟨qk, qa, qn, qy, qs, ql, (a : Int) + 1, qe, qss⟩ now = bad 131 := by
      unfold issF
      rw [if_neg g1]
      simp only
      rw [show ((a : Int) + 1).toNat - 1 = a by omega, dfro_ords, List.getElem?_eq_none (by rw [List.length_map]; omega)]
    have HR := Lib.hid hR
    have d2 : decide ((d.ords.length : Int) < (a : Int) + 1) = true := decide_eq_true g2
    clear g1 g2 hR
    have j0 := fun q : Later W0 => q.cell k1
    have j1 := fun q : Later W0 => q.cell k6
    have j2 := fun q : Later W0 => q.cell a4
    try (have j3 := fun q : Later W0 => q.cell r1)
    clear k0 k1 k2 k3 k4 k5 k6 k7 k8 a0 a1 a2 a3 a4 a5 a6
    refine wp_region_later (by kernel_rfl) (by kernel_rfl) ?_
    repeat (go_big_quiet_step ((fail)))
    refine wpQuiet_nil ?_
    rintro W2 ⟨q, hq⟩
    have x2 : Ext w W2 := by rw [hq]; exact HX.out.trans q.ext
    have y2 : Ext W0 W2 := by rw [hq]; exact q.ext
    clear hq q j0 j1 j2
    (try clear j3)
    (try clear r1)
    go_wp2
    go_ret2
    rw [HR.out]
    exact methPost_bad (E := 131) (by decide) rfl (grown_ext x2 (some b))
  have d2 : decide ((d.ords.length : Int) < (a : Int) + 1) = false := decide_eq_false g2
  obtain ⟨x, hx⟩ : ∃ u, d.ords[a]? = some u := ⟨_, List.getElem?_eq_getElem (by omega)⟩
  obtain ⟨ad, hA, hlt, r0, r1, r2, r3, r4, r5, r6, r7⟩ := reads_ord HW.out.ord hx
  rw [hA] at a4
  have r1 := HX.out.cell r1
  have hal : (a : Int) < (d.ords.length : Int) := by omega
  have hab : (a : Int) ≤ 1099511627776 := by omega
  have hR0 : issF d.fro ⟨qk, qa, qn, qy, qs, ql, (a : Int) + 1, qe, qss⟩ now = if x.o.acc ≠ qa then bad 131 else if x.o.st ≠ 1 ∨ holdsF d.auts x.o.auths now = false then bad 221 else ({ d.fro with ords := d.fro.ords.set a { x.o with st := 2 } }, (a : Int) + 1, 0) := by
    unfold issF
    rw [if_neg g1]
    simp only
    rw [show ((a : Int) + 1).toNat - 1 = a by omega, ords_get hx]
    rfl
  have HHX := Lib.hid hx
  clear hlt r0 r2 r3 r4 r5 r6 r7 hx g1 g2 hul
  by_cases g3 : x.o.acc = qa
  case neg =>
    rw [if_pos g3] at hR0
    have HR := Lib.hid hR0
    have d3 : (x.o.acc != qa) = true := by simp [g3]
    clear g3 hR0
    have j0 := fun q : Later W0 => q.cell k1
    have j1 := fun q : Later W0 => q.cell k6
    have j2 := fun q : Later W0 => q.cell a4
    try (have j3 := fun q : Later W0 => q.cell r1)
    clear k0 k1 k2 k3 k4 k5 k6 k7 k8 a0 a1 a2 a3 a4 a5 a6
    refine wp_region_later (by kernel_rfl) (by kernel_rfl) ?_
    repeat (go_big_quiet_step ((fail)))
    refine wpQuiet_nil ?_
    rintro W2 ⟨q, hq⟩
    have x2 : Ext w W2 := by rw [hq]; exact HX.out.trans q.ext
    have y2 : Ext W0 W2 := by rw [hq]; exact q.ext
    clear hq q j0 j1 j2
    (try clear j3)
    (try clear r1)
    go_wp2
    go_ret2
    rw [HR.out]
    exact methPost_bad (E := 131) (by decide) rfl (grown_ext x2 (some b))
  rw [if_neg (by simpa using g3)] at hR0
  have HR := Lib.hid hR0
  have d3 : (x.o.acc != qa) = false := by simp [g3]
  clear g3 hR0
  have j0 := fun q : Later W0 => q.cell k1
  have j1 := fun q : Later W0 => q.cell k6
  have j2 := fun q : Later W0 => q.cell a4
  try (have j3 := fun q : Later W0 => q.cell r1)
  clear k0 k1 k2 k3 k4 k5 k6 k7 k8 a0 a1 a2 a3 a4 a5 a6
  refine wp_region_later (by kernel_rfl) (by kernel_rfl) ?_
  repeat (go_big_quiet_step ((fail)))
  refine wpQuiet_nil ?_
  rintro W2 ⟨q, hq⟩
  have x2 : Ext w W2 := by rw [hq]; exact HX.out.trans q.ext
  have y2 : Ext W0 W2 := by rw [hq]; exact q.ext
  clear hq q j0 j1 j2
  (try clear j3)
  (try clear r1)
  have cA := order_any b d now a (by omega) HW.out.rl W2 (DoorB.ext HD.out x2) ((HW.out.ord.below x2.out).more x2.size)
  obtain ⟨k0, k1, k2, k3, k4, k5, k6, k7, k8⟩ := arr9 (ext_blk y2 HB.out)
  have HX2 := Lib.hid x2
  have HY2 := Lib.hid y2
  have hS2 : Hid (w.heap.size < W2.heap.size) := Lib.hid (by have := HS0.out; have := y2.size; omega)
  clear x2 y2 hA hal
  by_cases g4 : x.o.st = 1
  case neg =>
    have HR2 := HR.out
    rw [if_pos (.inl g4)] at HR2
    have HRb := Lib.hid HR2
    clear HR2 HR
    have d4 : (x.o.st != 1) = true := by simp [g4]
    clear g4
    go_wp2_with (go_at_call 78; refine cA.mono ?_; clear cA k0 k1 k2 k3 k4 k5 k6 k7 k8; rintro e w3 ⟨g, cap, rfl, hb3, ho3, hg3⟩; obtain ⟨p5, p6⟩ := own_ords ho3 HHX.out; have HG3 := Lib.hid hg3; clear hb3 ho3 hg3)
    go_ret2
    rw [HRb.out]
    exact methPost_bad (E := 221) (by decide) rfl ((grown_ext HX2.out (some b)).trans HG3.out)
  have d4 : (x.o.st != 1) = false := by simp [g4]
  have xw := HW.out.rw x (List.mem_of_getElem? HHX.out)
  have hLx := HL.out.a x (List.mem_of_getElem? HHX.out)
  have cH := fun (W : World) (hg : w.grownBy W (some b)) g cap (hb : DoorB W b (withO d d.ords (some ⟨g, 0, none⟩) cap) now) =>
    holds_any b (withO d d.ords (some ⟨g, 0, none⟩) cap) now x.o.auths (HAU.out x (List.mem_of_getElem? HHX.out)) xw.al HW.out.ul x.aA x.ac W hb
      (xw.auths.stay hLx hg.size (fun k hk hb => hg.block k hb (by simpa using hk))) (HW.out.aut.stay HL.out.u hg.size (fun k hk hb => hg.block k hb (by simpa using hk)))
  cases g5 : holdsF d.auts x.o.auths now with
  | false =>
    have HR2 := HR.out
    rw [if_pos (.inr g5)] at HR2
    have HRb := Lib.hid HR2
    clear HR2 HR
    have cH2 := fun (W : World) (hg : w.grownBy W (some b)) g cap (hb : DoorB W b (withO d d.ords (some ⟨g, 0, none⟩) cap) now) => by
      have := cH W hg g cap hb
      rw [show holdsF (withO d d.ords (some ⟨g, 0, none⟩) cap).auts x.o.auths now = false from g5] at this
      exact this
    clear g4 g5 cH xw hLx
    go_wp2_with (first
      | (go_at_call 78; refine cA.mono ?_; clear cA k0 k1 k2 k3 k4 k5 k6 k7 k8; rintro e w3 ⟨g, cap, rfl, hb3, ho3, hg3⟩; obtain ⟨p5, p6⟩ := own_ords ho3 HHX.out; have HG3 := Lib.hid hg3; have HB3 := Lib.hid hb3; have HO3 := Lib.hid ho3; clear hb3 ho3 hg3)
      | (go_at_call 75; refine (cH2 _ ((grown_ext HX2.out (some b)).trans HG3.out) g cap HB3.out).mono ?_; clear cH2; rintro e w4 ⟨rfl, x4⟩))
    go_ret2
    rw [HRb.out]
    exact methPost_bad (E := 221) (by decide) rfl (((grown_ext HX2.out (some b)).trans HG3.out).trans (grown_ext x4 (some b)))
  | true =>
    have HR2 := HR.out
    rw [if_neg (by rintro (h | h); exact h g4; rw [g5] at h; cases h)] at HR2
    have HRb := Lib.hid HR2
    clear HR2 HR
    have cH2 := fun (W : World) (hg : w.grownBy W (some b)) g cap (hb : DoorB W b (withO d d.ords (some ⟨g, 0, none⟩) cap) now) => by
      have := cH W hg g cap hb
      rw [show holdsF (withO d d.ords (some ⟨g, 0, none⟩) cap).auts x.o.auths now = true from g5] at this
      exact this
    clear g4 g5 cH xw hLx
    go_wp2_with (first
      | (go_at_call 78; refine cA.mono ?_; clear cA k0 k1 k2 k3 k4 k5 k6 k7 k8; rintro e w3 ⟨g, cap, rfl, hb3, ho3, hg3⟩; obtain ⟨p5, p6⟩ := own_ords ho3 HHX.out; have hgb : Hid (W2.heap.size ≤ g) := Lib.hid (own_ge ho3 g rfl); have k6 := HG3_cell hg3 (ext_blk HY2.out HB.out) (by have := Blk.lt HD.out; have := HS0.out; simp; omega); have HG3 := Lib.hid hg3; have HB3 := Lib.hid hb3; have HO3 := Lib.hid ho3; clear hb3 ho3 hg3)
      | (go_at_call 75; refine (cH2 _ ((grown_ext HX2.out (some b)).trans HG3.out) g cap HB3.out).mono ?_; clear cH2; rintro e w4 ⟨rfl, x4⟩; have k6 := x4.cell k6; have p6 := x4.cell p6; have ho4 := own_ext HO3.out x4; have f6 := ho4.frozenAt (a * 8 + 6); have HO4 := Lib.hid ho4; clear ho4; have hqg : ¬ w.heap.size = g := (by have h2 := hS2.out; have h3 := hgb.out; omega); have hqh : ¬ g = w.heap.size := (by omega)))
    go_ret2
    have hgb := hgb.out
    have hbl := Blk.lt HD.out
    have hS2 := hS2.out
    have xw := HW.out.rw x (List.mem_of_getElem? HHX.out)
    obtain ⟨o4, hg4⟩ := HO4.out.stored (a * 8 + 6) (.int .i64 2)
    have hset := fm_set ordC (k := 8) (fun _ => rfl) HHX.out (i := 6) (u := .int .i64 2) (y := { x with o := { x.o with st := 2 } }) (by decide) rfl
    rw [show ordV d.ords = d.ords.flatMap ordC from rfl, hset] at o4
    have hg5 := grown_new (((grown_ext HX2.out (some b)).trans HG3.out).trans (grown_ext x4 (some b))) (p := ⟨g, a * 8 + 6, none⟩) (by simp only; omega) (.int .i64 2)
    have hlen : (d.ords.set a { x with o := { x.o with st := 2 } }).length = d.ords.length := List.length_set
    rw [HRb.out]
    refine ⟨rfl, hg5, fun _ => ⟨withO d (d.ords.set a { x with o := { x.o with st := 2 } }) (some ⟨g, 0, none⟩) cap, ?_, ?_, ?_, fun S hS => ?_⟩⟩
    · unfold DoorX.fro withO
      simp only
      rw [map_set_o]
    · have := Blk.far (DoorB.ext HB3.out x4) (p := ⟨g, a * 8 + 6, none⟩) (by simp; omega) (.int .i64 2)
      unfold DoorB withO at this ⊢
      simp only at this ⊢
      rw [hlen]
      exact this
    · have hr := Reads.of_own o4
      rw [← hlen] at hr
      have hd5 := HW.out.grownTo HL.out hg5
      refine withO_w hd5 hr (by rw [hlen]; exact own_cap HO4.out) (by rw [hlen]; exact HW.out.rl) (fun y hy => ?_)
      rcases List.mem_or_eq_of_mem_set hy with hy | rfl
      · exact hd5.rw y hy
      · have := hd5.rw x (List.mem_of_getElem? HHX.out)
        exact ⟨this.id, this.acc, this.key, this.life, wf64_of (by simp) (by simp), this.ser, this.names, this.nc, this.nl, this.ns, this.auths, this.ac, this.al, this.aw⟩
    · refine withO_l hS (fun k hk => .inl hk) ?_ (fun y hy => ?_)
      · rw [hlen]
        exact Lies.own o4 (fun k hk => .inr (by omega))
      · rcases List.mem_or_eq_of_mem_set hy with hy | rfl
        · exact ⟨(hS.n y hy).mono (fun k hk => .inl hk), (hS.a y hy).mono (fun k hk => .inl hk)⟩
        · exact ⟨(hS.n x (List.mem_of_getElem? HHX.out)).mono (fun k hk => .inl hk), (hS.a x (List.mem_of_getElem? HHX.out)).mono (fun k hk => .inl hk)⟩

/-! ### what is revoked -/
def revB (q : QueR) (o : OrdR) : Bool := decide (o.st = 5) && decide (o.acc = q.acc) && decide (o.ser = q.id)
set_option maxRecDepth 100000 in
set_option maxHeartbeats 8000000 in
theorem revokes_any (b : Nat) (d : DoorX) (now : Int) (q : QueR) (A : Option Addr) (c : Nat) (w : World) (hw : DoorW w w.heap.size d) (h : DoorB w b d now) :
    Calls Tryz.prog 53 #[.pointer (some ⟨b, 0, none⟩), queV q A c] w (methPost b d now (revF d.fro q) w) := by
  obtain ⟨W0, e0⟩ : ∃ W, w.alloc (.cells #[.int .i64 q.kind, .int .i64 q.acc, .int .i64 q.nonce, .int .u64 (q.key : Int), .slice A q.names.length c, .int .i64 q.life, .int .i64 q.id, .int .u64 (q.e : Int), .int .u64 (q.s : Int)] 27) = W := ⟨_, rfl⟩
  have x0 : Ext w W0 := by rw [← e0]; exact (Ext.refl w).alloc _
  have b0 : QueB W0 w.heap.size q A c := by rw [← e0]; exact Blk.new w _ _
  have HW := Lib.hid hw
  have HD := Lib.hid h
  have HB := Lib.hid b0
  have HX := Lib.hid x0
  obtain ⟨a0, a1, a2, a3, a4, a5, a6⟩ := arr7 (DoorB.ext h x0)
  obtain ⟨RA, hRA⟩ : ∃ R, d.rA = R := ⟨_, rfl⟩
  have hord := hw.ord
  rw [hRA] at hord a4
  have HRD := Lib.hid hord
  unfold queV
  clear hw h b0 x0 hRA hord
  go_enter Tryz.func53, Tryz.ntmps53
  go_upto_region 1 with (fail)
  try rw [e0]
  clear e0
  go_wp2
  clear a0 a1 a2 a3 a4 a5 a6
  go_loopg [14] d.ords.length (fun m s14 wr => ∃ j : Nat, j + m = d.ords.length ∧ s14 = .int .i64 j ∧ (∀ x ∈ d.ords.take j, revB q x.o = false) ∧ Ext W0 wr)
  case atStart => exact ⟨0, by omega, rfl, by simp, Ext.refl W0⟩
  case round =>
    obtain ⟨j, hj, rfl, hok, hx⟩ := hrel
    have hjb : (j : Int) ≤ 1099511627776 := by have := HW.out.rl; omega
    by_cases hjl : j < d.ords.length
    · obtain ⟨x, hi⟩ : ∃ s, d.ords[j]? = some s := ⟨_, List.getElem?_eq_getElem hjl⟩
      obtain ⟨ad, rfl, hlt, q0, q1, q2, q3, q4, q5, q6, q7⟩ := reads_ord (HRD.out.below (HX.out.trans hx).out) hi
      have e1 : d.ords.take (j + 1) = d.ords.take j ++ [x] := by rw [List.take_add_one, hi]; rfl
      have xa : Ext wr (wr.alloc (.cells #[.int .i64 x.o.id, .int .i64 x.o.acc, .slice x.nA x.o.names.length x.nc, .int .u64 (x.o.key : Int), .int .i64 x.o.life, .slice x.aA x.o.auths.length x.ac, .int .i64 x.o.st, .int .i64 x.o.ser] 78)) := (Ext.refl wr).alloc _
      obtain ⟨k0, k1, k2, k3, k4, k5, k6, k7, k8⟩ := arr9 (ext_blk (hx.trans xa) HB.out)
      have hjo : (j : Int) < (d.ords.length : Int) := by omega
      have HX2 := Lib.hid (hx.trans xa)
      have HJ := Lib.hid hj
      have HOK := Lib.hid hok
      have HE := Lib.hid e1
      have HIM : Hid (x ∈ d.ords) := Lib.hid (List.mem_of_getElem? hi)
      clear hlt hx hj hok e1 hi xa
      by_cases g1 : x.o.st = 5
      case neg =>
        have d1 : (x.o.st == 5) = false := by simp [g1]
        have hok' : Hid (∀ y ∈ d.ords.take (j + 1), revB q y.o = false) := Lib.hid fun y hy => by
          rw [HE.out] at hy
          rcases List.mem_append.1 hy with hy | hy
          · exact HOK.out y hy
          · rw [List.mem_singleton] at hy; subst hy; simp [revB, g1]
        clear g1
        go_wp2
        have hj := HJ.out
        go_roundg (gk - 1)
        case measure => omega
        case rel => exact ⟨j + 1, by omega, int_congr (by omega), hok'.out, HX2.out⟩
      have d1 : (x.o.st == 5) = true := by simp [g1]
      by_cases g2 : x.o.acc = q.acc
      case neg =>
        have d2 : (x.o.acc == q.acc) = false := by simp [g2]
        have hok' : Hid (∀ y ∈ d.ords.take (j + 1), revB q y.o = false) := Lib.hid fun y hy => by
          rw [HE.out] at hy
          rcases List.mem_append.1 hy with hy | hy
          · exact HOK.out y hy
          · rw [List.mem_singleton] at hy; subst hy; simp [revB, g2]
        clear g1 g2
        go_wp2
        have hj := HJ.out
        go_roundg (gk - 1)
        case measure => omega
        case rel => exact ⟨j + 1, by omega, int_congr (by omega), hok'.out, HX2.out⟩
      have d2 : (x.o.acc == q.acc) = true := by simp [g2]
      by_cases g3 : x.o.ser = q.id
      · have d3 : (x.o.ser == q.id) = true := by simp [g3]
        have HR : Hid (revF d.fro q = (d.fro, q.id, 0)) := Lib.hid (by
          unfold revF
          rw [if_pos]
          rw [List.any_eq_true]
          refine ⟨x.o, by rw [dfro_ords]; exact List.mem_map.2 ⟨x, HIM.out, rfl⟩, by simp [g1, g2, g3]⟩)
        clear g1 g2 g3
        go_wp2
        go_ret2
        rw [HR.out]
        have x9 := HX.out.trans HX2.out
        exact ⟨rfl, grown_ext x9 (some b), fun _ => ⟨d, rfl, DoorB.ext HD.out x9, HW.out.ext x9, fun S hS => hS.mono (fun k hk => .inl hk)⟩⟩
      · have d3 : (x.o.ser == q.id) = false := by simp [g3]
        have hok' : Hid (∀ y ∈ d.ords.take (j + 1), revB q y.o = false) := Lib.hid fun y hy => by
          rw [HE.out] at hy
          rcases List.mem_append.1 hy with hy | hy
          · exact HOK.out y hy
          · rw [List.mem_singleton] at hy; subst hy; simp [revB, g3]
        clear g1 g2 g3
        go_wp2
        have hj := HJ.out
        go_roundg (gk - 1)
        case measure => omega
        case rel => exact ⟨j + 1, by omega, int_congr (by omega), hok'.out, HX2.out⟩
    · obtain rfl : j = d.ords.length := by omega
      rw [List.take_length] at hok
      have HR : Hid (revF d.fro q = bad 131) := Lib.hid (by
        unfold revF
        rw [if_neg]
        rw [List.any_eq_true]
        rintro ⟨o, ho, h⟩
        rw [dfro_ords] at ho
        obtain ⟨x, hx, rfl⟩ := List.mem_map.1 ho
        have := hok x hx
        unfold revB at this
        rw [h] at this
        cases this)
      have HX2 := Lib.hid hx
      have hjd : decide (d.ords.length < d.ords.length) = false := by simp
      clear hx hj hok
      go_wp2
      go_ret2
      rw [HR.out]
      exact methPost_bad (E := 131) (by decide) rfl (grown_ext (HX.out.trans HX2.out) (some b))
end Go.Proofs.YtbhdmfijdhcehaaGreatDoor

/- What comes in, opened: a door, a request, a script. -/
namespace Go.Proofs.YtbhdmfijdhcehaaGreatDoor
set_option linter.unusedVariables false
set_option linter.unusedSimpArgs false
open Go.ChangeShapes Go.WideShapes Go.ChangeAt Go.RowKit

/-- An order as it came in. -/
structure OrdI (w : World) (x : OrdX) : Prop where
  id : wf64 x.o.id
  acc : wf64 x.o.acc
  key : x.o.key < 18446744073709551616
  life : wf64 x.o.life
  st : wf64 x.o.st
  ser : wf64 x.o.ser
  names : Reads w w.heap.size 1 x.nA x.o.names.length (tv x.o.names)
  nc : x.o.names.length ≤ x.nc
  nr : x.nc ≤ 140737488351232
  ns : ∀ s ∈ x.o.names, s.size ≤ 140737488351232
  auths : Reads w w.heap.size 1 x.aA x.o.auths.length (iv x.o.auths)
  ac : x.o.auths.length ≤ x.ac
  ar : x.ac ≤ 140737488351232
  aw : ∀ n ∈ x.o.auths, wf64 n
structure AutI (x : AutR) : Prop where
  id : wf64 x.id
  acc : wf64 x.acc
  st : wf64 x.st
  fr : wf64 x.fr
  un : wf64 x.un
  name : x.name.size ≤ 140737488351232
  tok : x.tok.size ≤ 140737488351232
/-- A door as it came in. -/
structure DoorI (w : World) (d : DoorX) : Prop where
  nx : wf64 d.next
  ser : wf64 d.ser
  opn : Reads w w.heap.size 2 d.oA d.opn.length (nonV d.opn)
  oc : d.opn.length ≤ d.oc
  ocr : d.oc ≤ 140737488351232
  ow : ∀ x ∈ d.opn, wf64 x.n ∧ wf64 x.u
  acc : Reads w w.heap.size 2 d.cA d.accs.length (accV d.accs)
  cc : d.accs.length ≤ d.cc
  ccr : d.cc ≤ 140737488351232
  cw : ∀ x ∈ d.accs, AccW x
  aut : Reads w w.heap.size 7 d.uA d.auts.length (autV d.auts)
  uc : d.auts.length ≤ d.uc
  ucr : d.uc ≤ 140737488351232
  uw : ∀ x ∈ d.auts, AutI x
  ord : Reads w w.heap.size 8 d.rA d.ords.length (ordV d.ords)
  rc : d.ords.length ≤ d.rc
  rcr : d.rc ≤ 140737488351232
  rw : ∀ x ∈ d.ords, OrdI w x
structure QueI (w : World) (q : QueR) (A : Option Addr) (c : Nat) : Prop where
  kind : wf64 q.kind
  acc : wf64 q.acc
  nonce : wf64 q.nonce
  key : q.key < 18446744073709551616
  life : wf64 q.life
  id : wf64 q.id
  e : q.e < 18446744073709551616
  s : q.s < 18446744073709551616
  names : Reads w w.heap.size 1 A q.names.length (tv q.names)
  nc : q.names.length ≤ c
  nr : c ≤ 140737488351232
  ns : ∀ s ∈ q.names, s.size ≤ 140737488351232
/-- One of a script, and where its names lie. -/
structure OpX where
  (o : OpR) (nA : Option Addr) (nc : Nat)
def opC (x : OpX) : List Value := [.int .u8 (x.o.kind : Int), .int .u8 (x.o.seed : Int), .int .i64 x.o.acc, .int .i64 x.o.id, .slice x.nA x.o.names.length x.nc, .bool x.o.ok, .int .u8 (x.o.later : Int)]
def opV (l : List OpX) : List Value := l.flatMap opC
structure OpI (w : World) (x : OpX) : Prop where
  kind : x.o.kind < 256
  seed : x.o.seed < 256
  acc : wf64 x.o.acc
  id : wf64 x.o.id
  later : x.o.later < 256
  names : Reads w w.heap.size 1 x.nA x.o.names.length (tv x.o.names)
  nc : x.o.names.length ≤ x.nc
  nr : x.nc ≤ 140737488351232
  ns : ∀ s ∈ x.o.names, s.size ≤ 140737488351232

section
variable {H : Type} {enc : TypeId × Value → H} {W : World}
theorem dec_non : Dec enc Tryz.prog W 102 nonC (fun x => wf64 x.n ∧ wf64 x.u) := fun cs d h => by
  have U := Tryz.underlying102
  obtain ⟨d0, h0⟩ := tw_field U h 0 rfl 3 0 1 rfl rfl (by kernel_rfl)
  obtain ⟨d1, h1⟩ := tw_field U h 1 rfl 3 1 1 rfl rfl (by kernel_rfl)
  obtain ⟨x0, e0, w0⟩ := tw_int Tryz.underlying3 h0
  obtain ⟨x1, e1, w1⟩ := tw_int Tryz.underlying3 h1
  have hl := (tw_struct U h).1
  rw [show Tryz.prog.cellsOf 102 = 2 by kernel_rfl] at hl
  clear h h0 h1
  match cs, hl with
  | [z0, z1], _ =>
    simp at e0 e1
    subst e0; subst e1
    exact ⟨⟨x0, x1⟩, rfl, w0, w1⟩
theorem dec_acc : Dec enc Tryz.prog W 75 accC AccW := fun cs d h => by
  have U := Tryz.underlying75
  obtain ⟨d0, h0⟩ := tw_field U h 0 rfl 3 0 1 rfl rfl (by kernel_rfl)
  obtain ⟨d1, h1⟩ := tw_field U h 1 rfl 22 1 1 rfl rfl (by kernel_rfl)
  obtain ⟨x0, e0, w0⟩ := tw_int Tryz.underlying3 h0
  obtain ⟨x1, e1, w1⟩ := tw_u64 Tryz.underlying22 h1
  have hl := (tw_struct U h).1
  rw [show Tryz.prog.cellsOf 75 = 2 by kernel_rfl] at hl
  clear h h0 h1
  match cs, hl with
  | [z0, z1], _ =>
    simp at e0 e1
    subst e0; subst e1
    exact ⟨⟨x0, x1⟩, rfl, w0, w1⟩
theorem dec_aut : Dec enc Tryz.prog W 69 autC AutI := fun cs d h => by
  have U := Tryz.underlying69
  obtain ⟨d0, h0⟩ := tw_field U h 0 rfl 3 0 1 rfl rfl (by kernel_rfl)
  obtain ⟨d1, h1⟩ := tw_field U h 1 rfl 3 1 1 rfl rfl (by kernel_rfl)
  obtain ⟨d2, h2⟩ := tw_field U h 2 rfl 9 2 1 rfl rfl (by kernel_rfl)
  obtain ⟨d3, h3⟩ := tw_field U h 3 rfl 9 3 1 rfl rfl (by kernel_rfl)
  obtain ⟨d4, h4⟩ := tw_field U h 4 rfl 3 4 1 rfl rfl (by kernel_rfl)
  obtain ⟨d5, h5⟩ := tw_field U h 5 rfl 3 5 1 rfl rfl (by kernel_rfl)
  obtain ⟨d6, h6⟩ := tw_field U h 6 rfl 3 6 1 rfl rfl (by kernel_rfl)
  obtain ⟨x0, e0, w0⟩ := tw_int Tryz.underlying3 h0
  obtain ⟨x1, e1, w1⟩ := tw_int Tryz.underlying3 h1
  obtain ⟨x2, e2, w2⟩ := tw_string Tryz.underlying9 h2
  obtain ⟨x3, e3, w3⟩ := tw_string Tryz.underlying9 h3
  obtain ⟨x4, e4, w4⟩ := tw_int Tryz.underlying3 h4
  obtain ⟨x5, e5, w5⟩ := tw_int Tryz.underlying3 h5
  obtain ⟨x6, e6, w6⟩ := tw_int Tryz.underlying3 h6
  have hl := (tw_struct U h).1
  rw [show Tryz.prog.cellsOf 69 = 7 by kernel_rfl] at hl
  clear h h0 h1 h2 h3 h4 h5 h6
  match cs, hl with
  | [z0, z1, z2, z3, z4, z5, z6], _ =>
    simp at e0 e1 e2 e3 e4 e5 e6
    subst e0; subst e1; subst e2; subst e3; subst e4; subst e5; subst e6
    exact ⟨⟨x0, x1, x2, x3, x4, x5, x6⟩, rfl, w0, w1, w4, w5, w6, w2, w3⟩
theorem dec_ord : Dec enc Tryz.prog W 78 ordC (OrdI W) := fun cs d h => by
  have U := Tryz.underlying78
  obtain ⟨d0, h0⟩ := tw_field U h 0 rfl 3 0 1 rfl rfl (by kernel_rfl)
  obtain ⟨d1, h1⟩ := tw_field U h 1 rfl 3 1 1 rfl rfl (by kernel_rfl)
  obtain ⟨d2, h2⟩ := tw_field U h 2 rfl 23 2 1 rfl rfl (by kernel_rfl)
  obtain ⟨d3, h3⟩ := tw_field U h 3 rfl 22 3 1 rfl rfl (by kernel_rfl)
  obtain ⟨d4, h4⟩ := tw_field U h 4 rfl 3 4 1 rfl rfl (by kernel_rfl)
  obtain ⟨d5, h5⟩ := tw_field U h 5 rfl 76 5 1 rfl rfl (by kernel_rfl)
  obtain ⟨d6, h6⟩ := tw_field U h 6 rfl 3 6 1 rfl rfl (by kernel_rfl)
  obtain ⟨d7, h7⟩ := tw_field U h 7 rfl 3 7 1 rfl rfl (by kernel_rfl)
  obtain ⟨x0, e0, w0⟩ := tw_int Tryz.underlying3 h0
  obtain ⟨x1, e1, w1⟩ := tw_int Tryz.underlying3 h1
  obtain ⟨A2, c2, x2, e2, n2, b2, w2, r2⟩ := open_strs Tryz.underlying23 Tryz.underlying9 (by kernel_rfl) (by kernel_rfl) h2
  obtain ⟨x3, e3, w3⟩ := tw_u64 Tryz.underlying22 h3
  obtain ⟨x4, e4, w4⟩ := tw_int Tryz.underlying3 h4
  obtain ⟨A5, c5, x5, e5, n5, b5, w5, r5⟩ := open_nums Tryz.underlying76 Tryz.underlying3 (by kernel_rfl) (by kernel_rfl) h5
  obtain ⟨x6, e6, w6⟩ := tw_int Tryz.underlying3 h6
  obtain ⟨x7, e7, w7⟩ := tw_int Tryz.underlying3 h7
  have hl := (tw_struct U h).1
  rw [show Tryz.prog.cellsOf 78 = 8 by kernel_rfl] at hl
  clear h h0 h1 h2 h3 h4 h5 h6 h7
  match cs, hl with
  | [z0, z1, z2, z3, z4, z5, z6, z7], _ =>
    simp at e0 e1 e2 e3 e4 e5 e6 e7
    subst e0; subst e1; subst e2; subst e3; subst e4; subst e5; subst e6; subst e7
    exact ⟨⟨⟨x0, x1, x2, x3, x4, x5, x6, x7⟩, A2, c2, A5, c5⟩, rfl, w0, w1, w3, w4, w6, w7, r2, n2, b2, w2, r5, n5, b5, w5⟩
theorem dec_op : Dec enc Tryz.prog W 66 opC (OpI W) := fun cs d h => by
  have U := Tryz.underlying66
  obtain ⟨d0, h0⟩ := tw_field U h 0 rfl 5 0 1 rfl rfl (by kernel_rfl)
  obtain ⟨d1, h1⟩ := tw_field U h 1 rfl 5 1 1 rfl rfl (by kernel_rfl)
  obtain ⟨d2, h2⟩ := tw_field U h 2 rfl 3 2 1 rfl rfl (by kernel_rfl)
  obtain ⟨d3, h3⟩ := tw_field U h 3 rfl 3 3 1 rfl rfl (by kernel_rfl)
  obtain ⟨d4, h4⟩ := tw_field U h 4 rfl 23 4 1 rfl rfl (by kernel_rfl)
  obtain ⟨d5, h5⟩ := tw_field U h 5 rfl 4 5 1 rfl rfl (by kernel_rfl)
  obtain ⟨d6, h6⟩ := tw_field U h 6 rfl 5 6 1 rfl rfl (by kernel_rfl)
  obtain ⟨x0, e0, w0⟩ := tw_u8 Tryz.underlying5 h0
  obtain ⟨x1, e1, w1⟩ := tw_u8 Tryz.underlying5 h1
  obtain ⟨x2, e2, w2⟩ := tw_int Tryz.underlying3 h2
  obtain ⟨x3, e3, w3⟩ := tw_int Tryz.underlying3 h3
  obtain ⟨A4, c4, x4, e4, n4, b4, w4, r4⟩ := open_strs Tryz.underlying23 Tryz.underlying9 (by kernel_rfl) (by kernel_rfl) h4
  obtain ⟨x5, e5⟩ := tw_bool Tryz.underlying4 h5
  obtain ⟨x6, e6, w6⟩ := tw_u8 Tryz.underlying5 h6
  have hl := (tw_struct U h).1
  rw [show Tryz.prog.cellsOf 66 = 7 by kernel_rfl] at hl
  clear h h0 h1 h2 h3 h4 h5 h6
  match cs, hl with
  | [z0, z1, z2, z3, z4, z5, z6], _ =>
    simp at e0 e1 e2 e3 e4 e5 e6
    subst e0; subst e1; subst e2; subst e3; subst e4; subst e5; subst e6
    exact ⟨⟨⟨x0, x1, x2, x3, x4, x5, x6⟩, A4, c4⟩, rfl, w0, w1, w2, w3, w6, r4, n4, b4, w4⟩
theorem tw_val {t : TypeId} {v : Value} {d : DataW H} {p : List MemPlace} (h : DataW.Trod enc Tryz.prog W 0 (fun _ => true) true t v d p) (hw : ∀ m ∈ d.weights Tryz.prog t, m ≤ reachBytes) : Tw enc Tryz.prog W t v.cells.toList d := by
  obtain ⟨fuel, hf⟩ := h
  exact ⟨⟨fuel, p, hf⟩, hw⟩
set_option maxRecDepth 100000 in
theorem open_front {v : Value} {d : DataW H} {p : List MemPlace} {r : Reach} {b0 : Nat} (hv : Value.okWide Tryz.prog W r b0 43 v) (h' : DataW.Trod enc Tryz.prog W 0 (fun _ => true) true 43 v d p) (hw : ∀ m ∈ d.weights Tryz.prog 43, m ≤ reachBytes) :
    ∃ d : DoorX, v = frontV d ∧ DoorI W d := by
  obtain ⟨cs, rfl, hsz⟩ := okWide_struct Tryz.underlying43 hv
  have h := tw_val h' hw
  simp only [Value.cells] at h
  have U := Tryz.underlying43
  obtain ⟨d0, h0⟩ := tw_field U h 0 rfl 38 0 2 rfl rfl (by kernel_rfl)
  obtain ⟨d1, h1⟩ := tw_field U h 1 rfl 39 2 1 rfl rfl (by kernel_rfl)
  obtain ⟨d2, h2⟩ := tw_field U h 2 rfl 40 3 1 rfl rfl (by kernel_rfl)
  obtain ⟨d3, h3⟩ := tw_field U h 3 rfl 41 4 1 rfl rfl (by kernel_rfl)
  obtain ⟨d4, h4⟩ := tw_field U h 4 rfl 3 5 1 rfl rfl (by kernel_rfl)
  have Uq := Tryz.underlying38
  obtain ⟨dq0, hq0⟩ := tw_field Uq h0 0 rfl 3 0 1 rfl rfl (by kernel_rfl)
  obtain ⟨dq1, hq1⟩ := tw_field Uq h0 1 rfl 36 1 1 rfl rfl (by kernel_rfl)
  obtain ⟨xq0, eq0, wq0⟩ := tw_int Tryz.underlying3 hq0
  obtain ⟨Aq1, cq1, xq1, eq1, nq1, bq1, wq1, rq1⟩ := dec_slice Tryz.underlying36 (show Tryz.prog.cellsOf 102 = 2 by kernel_rfl) (by decide) (fun _ => rfl) dec_non hq1
  rw [show Tryz.prog.bytesOf 102 = 16 by kernel_rfl] at bq1
  obtain ⟨A1, c1, x1, e1, n1, b1, w1, r1⟩ := dec_slice Tryz.underlying39 (show Tryz.prog.cellsOf 75 = 2 by kernel_rfl) (by decide) (fun _ => rfl) dec_acc h1
  rw [show Tryz.prog.bytesOf 75 = 16 by kernel_rfl] at b1
  obtain ⟨A2, c2, x2, e2, n2, b2, w2, r2⟩ := dec_slice Tryz.underlying40 (show Tryz.prog.cellsOf 69 = 7 by kernel_rfl) (by decide) (fun _ => rfl) dec_aut h2
  rw [show Tryz.prog.bytesOf 69 = 72 by kernel_rfl] at b2
  obtain ⟨A3, c3, x3, e3, n3, b3, w3, r3⟩ := dec_slice Tryz.underlying41 (show Tryz.prog.cellsOf 78 = 8 by kernel_rfl) (by decide) (fun _ => rfl) dec_ord h3
  rw [show Tryz.prog.bytesOf 78 = 96 by kernel_rfl] at b3
  obtain ⟨x4, e4, w4⟩ := tw_int Tryz.underlying3 h4
  have hl := (tw_struct U h).1
  rw [show Tryz.prog.cellsOf 43 = 6 by kernel_rfl] at hl
  clear h h0 h1 h2 h3 h4 hq0 hq1 h' hv hw hsz
  obtain ⟨l⟩ := cs
  match l, hl with
  | [z0, z1, z2, z3, z4, z5], _ =>
    simp at eq0 eq1 e1 e2 e3 e4
    subst eq0; subst eq1; subst e1; subst e2; subst e3; subst e4
    exact ⟨⟨xq0, x4, xq1, x1, x2, x3, Aq1, cq1, A1, c1, A2, c2, A3, c3⟩, rfl, wq0, w4, rq1, nq1, by show cq1 ≤ _; omega, wq1, r1, n1, by show c1 ≤ _; omega, w1, r2, n2, by show c2 ≤ _; omega, w2, r3, n3, by show c3 ≤ _; omega, w3⟩
set_option maxRecDepth 100000 in
theorem open_query {v : Value} {d : DataW H} {p : List MemPlace} {r : Reach} {b0 : Nat} (hv : Value.okWide Tryz.prog W r b0 27 v) (h' : DataW.Trod enc Tryz.prog W 0 (fun _ => true) true 27 v d p) (hw : ∀ m ∈ d.weights Tryz.prog 27, m ≤ reachBytes) :
    ∃ (q : QueR) (A : Option Addr) (c : Nat), v = queV q A c ∧ QueI W q A c := by
  obtain ⟨cs, rfl, hsz⟩ := okWide_struct Tryz.underlying27 hv
  have h := tw_val h' hw
  simp only [Value.cells] at h
  have U := Tryz.underlying27
  obtain ⟨d0, h0⟩ := tw_field U h 0 rfl 3 0 1 rfl rfl (by kernel_rfl)
  obtain ⟨d1, h1⟩ := tw_field U h 1 rfl 3 1 1 rfl rfl (by kernel_rfl)
  obtain ⟨d2, h2⟩ := tw_field U h 2 rfl 3 2 1 rfl rfl (by kernel_rfl)
  obtain ⟨d3, h3⟩ := tw_field U h 3 rfl 22 3 1 rfl rfl (by kernel_rfl)
  obtain ⟨d4, h4⟩ := tw_field U h 4 rfl 23 4 1 rfl rfl (by kernel_rfl)
  obtain ⟨d5, h5⟩ := tw_field U h 5 rfl 3 5 1 rfl rfl (by kernel_rfl)
  obtain ⟨d6, h6⟩ := tw_field U h 6 rfl 3 6 1 rfl rfl (by kernel_rfl)
  obtain ⟨d7, h7⟩ := tw_field U h 7 rfl 25 7 2 rfl rfl (by kernel_rfl)
  have Uq := Tryz.underlying25
  obtain ⟨dq0, hq0⟩ := tw_field Uq h7 0 rfl 22 0 1 rfl rfl (by kernel_rfl)
  obtain ⟨dq1, hq1⟩ := tw_field Uq h7 1 rfl 22 1 1 rfl rfl (by kernel_rfl)
  obtain ⟨xq0, eq0, wq0⟩ := tw_u64 Tryz.underlying22 hq0
  obtain ⟨xq1, eq1, wq1⟩ := tw_u64 Tryz.underlying22 hq1
  obtain ⟨x0, e0, w0⟩ := tw_int Tryz.underlying3 h0
  obtain ⟨x1, e1, w1⟩ := tw_int Tryz.underlying3 h1
  obtain ⟨x2, e2, w2⟩ := tw_int Tryz.underlying3 h2
  obtain ⟨x3, e3, w3⟩ := tw_u64 Tryz.underlying22 h3
  obtain ⟨A4, c4, x4, e4, n4, b4, w4, r4⟩ := open_strs Tryz.underlying23 Tryz.underlying9 (by kernel_rfl) (by kernel_rfl) h4
  obtain ⟨x5, e5, w5⟩ := tw_int Tryz.underlying3 h5
  obtain ⟨x6, e6, w6⟩ := tw_int Tryz.underlying3 h6
  have hl := (tw_struct U h).1
  rw [show Tryz.prog.cellsOf 27 = 9 by kernel_rfl] at hl
  clear h h0 h1 h2 h3 h4 h5 h6 h7 hq0 hq1 h' hv hw hsz
  obtain ⟨l⟩ := cs
  match l, hl with
  | [z0, z1, z2, z3, z4, z5, z6, z7, z8], _ =>
    simp at e0 e1 e2 e3 e4 e5 e6 eq0 eq1
    subst e0; subst e1; subst e2; subst e3; subst e4; subst e5; subst e6; subst eq0; subst eq1
    exact ⟨⟨x0, x1, x2, x3, x4, x5, x6, xq0, xq1⟩, A4, c4, rfl, w0, w1, w2, w3, w5, w6, wq0, wq1, r4, n4, b4, w4⟩
theorem open_ops {A : Option Addr} {n c : Nat} {d : DataW H} {p : List MemPlace} (h' : DataW.Trod enc Tryz.prog W 0 (fun _ => true) true 61 (.slice A n c) d p) (hw : ∀ m ∈ d.weights Tryz.prog 61, m ≤ reachBytes) :
    ∃ l : List OpX, l.length = n ∧ n ≤ c ∧ c ≤ 140737488351232 ∧ (∀ x ∈ l, OpI W x) ∧ Reads W W.heap.size 7 A n (opV l) := by
  have h := tw_val h' hw
  simp only [Value.cells] at h
  obtain ⟨A', c', l, e, h1, h2, h3, h4⟩ := dec_slice Tryz.underlying61 (show Tryz.prog.cellsOf 66 = 7 by kernel_rfl) (by decide) (fun _ => rfl) dec_op h
  rw [show Tryz.prog.bytesOf 66 = 56 by kernel_rfl] at h2
  simp at e
  obtain ⟨rfl, rfl, rfl⟩ := e
  exact ⟨l, rfl, h1, by omega, h3, h4⟩
end
end Go.Proofs.YtbhdmfijdhcehaaGreatDoor
