/- Parts of the proofs, put together: Or19, Or20, Nm. -/
import Derived.Deep.DeepCutAuto
import Derived.Test.YtfpmfegmehbfbaaGreatDoorD15
import Derived.Test.YtfpmfegmehbfbaaGreatDoorD18
import Derived.Test.YtfpmfegmehbfbaaGreatDoorD22
/- The door, walked: the door in memory, whether there is an account, whether an account may be. -/
namespace Go.Proofs.YtfpmfegmehbfbaaGreatDoor
set_option linter.unusedVariables false
set_option linter.unusedSimpArgs false
open Go.RowKit Go.Shelf Go.Maps

/-! ### a door in memory -/
/-- A door's cells, and what time it is there. -/
def DoorB (w : World) (b : Nat) (d : DoorX) (now : Int) : Prop :=
  Blk w b 180 #[.int .i64 d.next, .slice d.oA d.opn.length d.oc, .slice d.cA d.accs.length d.cc, .slice d.uA d.auts.length d.uc, .slice d.rA d.ords.length d.rc, .int .i64 d.ser, .int .i64 now]
def frontV (d : DoorX) : Value := .agg #[.int .i64 d.next, .slice d.oA d.opn.length d.oc, .slice d.cA d.accs.length d.cc, .slice d.uA d.auts.length d.uc, .slice d.rA d.ords.length d.rc, .int .i64 d.ser]
theorem arr7 {W : World} {g : Nat} {T : TypeId} {a b c d e f h : Value} (k : Blk W g T #[a, b, c, d, e, f, h]) : W.cell? ⟨g, 0, none⟩ = some a ∧ W.cell? ⟨g, 1, none⟩ = some b ∧ W.cell? ⟨g, 2, none⟩ = some c ∧ W.cell? ⟨g, 3, none⟩ = some d ∧ W.cell? ⟨g, 4, none⟩ = some e ∧ W.cell? ⟨g, 5, none⟩ = some f ∧ W.cell? ⟨g, 6, none⟩ = some h :=
  ⟨k.cell 0, k.cell 1, k.cell 2, k.cell 3, k.cell 4, k.cell 5, k.cell 6⟩
theorem DoorB.ext {w w' : World} {b : Nat} {d : DoorX} {now : Int} (h : DoorB w b d now) (x : Ext w w') : DoorB w' b d now := ext_blk x h
theorem DoorB.grown {w w' : World} {b : Nat} {d : DoorX} {now : Int} (h : DoorB w b d now) {row : Option Nat} (x : w.grownBy w' row) (hr : some b ≠ row) : DoorB w' b d now := Blk.grown h x hr
theorem grown_ext {w w' : World} (x : Ext w w') (row : Option Nat) : w.grownBy w' row := ⟨x.out.os, x.out.tape, x.out.output, x.size, fun k hk _ => x.out.block k hk⟩

/-! ### a set of keys -/
def keysU (l : List Nat) : List Lit := l.map fun (n : Nat) => Lit.int .u64 (n : Int)
theorem atKey_foldU {H : Type} (u z : DataW H) (x : Nat) : ∀ (l : List Nat) (m : DataW H), IsMap m →
    ((keysU l).foldl (fun m x => m.put x u) m).atKey (.int .u64 (x : Int)) z = if x ∈ l then u else m.atKey (.int .u64 (x : Int)) z
  | [], m, _ => by simp [keysU]
  | y :: l, m, hm => by
    show ((keysU l).foldl (fun m x => m.put x u) (m.put (.int .u64 (y : Int)) u)).atKey (.int .u64 (x : Int)) z = _
    rw [atKey_foldU u z x l _ (hm.put _ u)]
    by_cases hx : x ∈ l
    · rw [if_pos hx, if_pos (List.mem_cons_of_mem _ hx)]
    · rw [if_neg hx]
      by_cases e : x = y
      · subst e
        rw [atKey_put_same hm (by trivial) u z, if_pos List.mem_cons_self]
      · rw [atKey_put_other (by simp; omega) u z, if_neg (by simp [e, hx])]
theorem atKey_setU {H : Type} (u z : DataW H) (x : Nat) (l : List Nat) : (setOf u (keysU l)).atKey (.int .u64 (x : Int)) z = if x ∈ l then u else z := by
  have := atKey_foldU u z x l (.map []) isMap_empty
  exact this
def SetU (w : World) (b : Nat) (l : List Nat) : Prop := w.ownsMap Tryz.prog 25 (plainElem (H := Unit) Tryz.prog 4) b l.length (setOf tt (keysU l))
theorem keyU64 : Keyed Tryz.prog 25 := int_keyed Tryz.underlying25
theorem wf_u64 {n : Nat} (h : n < 18446744073709551616) : (Lit.int .u64 (n : Int)).wf = true := by
  simp [Lit.wf, IntKind.min, IntKind.max, IntKind.signed, IntKind.bits]; omega
theorem SetU.look {w : World} {b : Nat} {l : List Nat} (h : SetU w b l) (x : Nat) (hx : x < 18446744073709551616) :
    (Instr.lookup 267 (.map (some b)) (.int .u64 (x : Int)) false).run Tryz.prog w = .ok (.bool (decide (x ∈ l))) w := by
  obtain ⟨v, ps, hrun, hv⟩ := World.ownsMap.lookup h keyU64 Tryz.underlying267 (zeroB w) (zd := .lit (.bool false)) (zp := []) (plainElem_bool Tryz.underlying4 false) (keyOf_int_mk Tryz.underlying25 (wf_u64 hx))
  obtain ⟨a, rfl, e⟩ := plainElem_bool_inv Tryz.underlying4 hv
  rw [hrun]
  rw [atKey_setU] at e
  have : a = decide (x ∈ l) := by
    by_cases hm : x ∈ l
    · rw [if_pos hm] at e
      simp [tt] at e
      simp [hm, ← e.1]
    · rw [if_neg hm] at e
      simp at e
      simp [hm, ← e.1]
  rw [this]
theorem SetU.put_ {w' : World} {b : Nat} {l : List Nat} {x : Nat} (h : w'.ownsMap Tryz.prog 25 (plainElem (H := Unit) Tryz.prog 4) b (l.length + 1) ((setOf tt (keysU l)).put (.int .u64 (x : Int)) tt)) : SetU w' b (l ++ [x]) := by
  have e : setOf tt (keysU (l ++ [x])) = (setOf tt (keysU l)).put (.int .u64 (x : Int)) tt := by rw [← setOf_snoc]; simp [keysU]
  unfold SetU
  rw [e, List.length_append]
  exact h
theorem SetU.new (w : World) : SetU (w.alloc (.map #[] 0)) w.heap.size [] := World.ownsMap_made w Tryz.prog 25 _
theorem SetU.ext {w w' : World} {b : Nat} {l : List Nat} (h : SetU w b l) (x : Ext w w') : SetU w' b l := World.ownsMap.kept h (grown_ext x none) (by simp)
theorem SetIs.ext {w w' : World} {b : Nat} {l : List Int} (h : SetIs w b l) (x : Ext w w') : SetIs w' b l := World.ownsMap.kept h (grown_ext x none) (by simp)
theorem SetIs.grown {w w' : World} {b : Nat} {l : List Int} (h : SetIs w b l) {row : Option Nat} (x : w.grownBy w' row) (hr : some b ≠ row) : SetIs w' b l := World.ownsMap.kept h x hr

/-! ### accounts -/
theorem hasAcc_any (b : Nat) (d : DoorX) (now n : Int) (w : World) (h : DoorB w b d now) :
    Calls Tryz.prog 96 #[.pointer (some ⟨b, 0, none⟩), .int .i64 n] w fun e w' => e = .returned (.bool (decide (1 ≤ n ∧ n ≤ d.accs.length))) ∧ w = w' := by
  obtain ⟨a0, a1, a2, a3, a4, a5, a6⟩ := arr7 h
  go_enter Tryz.func96, Tryz.ntmps96
  by_cases h1 : 1 ≤ n <;> by_cases h2 : n ≤ (d.accs.length : Int)
  all_goals
    go_wp2
    go_ret
    exact ⟨by simp [h1, h2], rfl⟩
set_option maxRecDepth 100000 in
set_option maxHeartbeats 4000000 in
theorem mayAcc_no (b : Nat) (d : DoorX) (now : Int) (i : Nat) (x : AccR) (hi : d.accs[i]? = some x) (hk : x.key < 18446744073709551616) (m : Nat) (l : List Nat) (hno : ¬ (accP i x ∧ x.key ∉ l)) (hib : (i : Int) ≤ 1099511627776) (w : World) (h : DoorB w b d now)
    (hr : Reads w w.heap.size 2 d.cA d.accs.length (accV d.accs)) (hs : SetU w m l) :
    Calls Tryz.prog 174 #[.pointer (some ⟨b, 0, none⟩), .int .i64 (i : Int), .map (some m)] w fun e w' => e = .returned (.bool false) ∧ Ext w w' := by
  obtain ⟨a0, a1, a2, a3, a4, a5, a6⟩ := arr7 h
  have c1 := In_any x.key hk
  have hlk := SetU.look (hs.alloc (.cells #[.int .i64 x.id, .int .u64 (x.key : Int)] 103)) x.key hk
  have hil : (i : Int) < (d.accs.length : Int) := by have := (List.getElem?_eq_some_iff.1 hi).1; omega
  obtain ⟨ad, hA, hlt, q0, q1⟩ := reads_acc hr hi
  rw [hA] at a2
  unfold accP at hno
  clear h hr hs hi hA hlt
  by_cases h1 : x.id = (i : Int) + 1
  · have k1 : (x.id != (i : Int) + 1) = false := by simp [h1]
    by_cases h2 : x.key ∈ l
    · rw [decide_eq_true h2] at hlk
      clear h1 h2 hno c1
      go_enter Tryz.func174, Tryz.ntmps174
      go_wp2
      go_ret
      exact ⟨rfl, (Ext.refl w).alloc _⟩
    · have h3 : inB x.key = false := by
        cases e : inB x.key with
        | false => rfl
        | true => exact absurd ⟨⟨h1, e⟩, h2⟩ hno
      rw [decide_eq_false h2] at hlk
      rw [h3] at c1
      clear h1 h2 hno h3
      go_enter Tryz.func174, Tryz.ntmps174
      go_wp2_with (go_at_call 115; refine (c1 _).mono ?_; clear c1; rintro e w1 ⟨rfl, x1⟩)
      go_ret
      exact ⟨rfl, ((Ext.refl w).alloc _).trans x1⟩
  · have k1 : (x.id != (i : Int) + 1) = true := by simp [h1]
    clear h1 hno c1 hlk
    go_enter Tryz.func174, Tryz.ntmps174
    go_wp2
    go_ret
    exact ⟨rfl, (Ext.refl w).alloc _⟩
set_option maxRecDepth 100000 in
set_option maxHeartbeats 4000000 in
theorem mayAcc_yes (b : Nat) (d : DoorX) (now : Int) (i : Nat) (x : AccR) (hi : d.accs[i]? = some x) (hk : x.key < 18446744073709551616) (m : Nat) (l : List Nat) (hl : l.length ≤ 1099511627776) (hx : accP i x) (hm : x.key ∉ l) (hib : (i : Int) ≤ 1099511627776) (w : World) (h : DoorB w b d now)
    (hr : Reads w w.heap.size 2 d.cA d.accs.length (accV d.accs)) (hs : SetU w m l) :
    Calls Tryz.prog 174 #[.pointer (some ⟨b, 0, none⟩), .int .i64 (i : Int), .map (some m)] w fun e w' => e = .returned (.bool true) ∧ SetU w' m (l ++ [x.key]) ∧ w.grownBy w' (some m) := by
  obtain ⟨a0, a1, a2, a3, a4, a5, a6⟩ := arr7 h
  have c1 := In_any x.key hk
  have hs1 := hs.alloc (.cells #[.int .i64 x.id, .int .u64 (x.key : Int)] 103)
  have hlk := SetU.look hs1 x.key hk
  have hil : (i : Int) < (d.accs.length : Int) := by have := (List.getElem?_eq_some_iff.1 hi).1; omega
  obtain ⟨ad, hA, hlt, q0, q1⟩ := reads_acc hr hi
  rw [hA] at a2
  have HB := Lib.hid (Blk.new w 103 #[.int .i64 x.id, .int .u64 (x.key : Int)])
  have HS := Lib.hid hs1
  have k1 : (x.id != (i : Int) + 1) = false := by simp [hx.1]
  rw [hx.2] at c1
  rw [decide_eq_false hm] at hlk
  have hkI : (x.key : Int) ≤ 18446744073709551615 := by omega
  have HK := Lib.hid hk
  have HL := Lib.hid hl
  clear h hr hs hs1 hi hA hlt hx hm hkI hk hl
  go_enter Tryz.func174, Tryz.ntmps174
  go_wp2_with (first
    | (go_at_call 115; refine (c1 _).mono ?_; clear c1; rintro e w1 ⟨rfl, x1⟩; have p1 := (ext_blk x1 HB.out).cell 1; have S1 := Lib.hid (SetU.ext HS.out x1))
    | (at_mapUpdate; refine wpList_mapUpdate_own _ rfl _ _ _ 267 rfl 25 4 keyU64 Tryz.underlying267 _ m _ _ rfl S1.out (by have := HL.out; simp only [maxLen]; omega) _ _ _ rfl rfl (keyOf_int_mk Tryz.underlying25 (wf_u64 HK.out)) tt [] (plainElem_bool Tryz.underlying4 true) ?_; intro w2 hown2 hg2; have O2 := Lib.hid (SetU.put_ hown2); have HG2 := Lib.hid hg2; clear hown2 hg2))
  go_ret
  exact ⟨rfl, O2.out, (grown_ext (((Ext.refl w).alloc _).trans x1) (some m)).trans HG2.out⟩
end Go.Proofs.YtfpmfegmehbfbaaGreatDoor

/- The door, walked: whether an authorization may be. -/
namespace Go.Proofs.YtfpmfegmehbfbaaGreatDoor
set_option linter.unusedVariables false
set_option linter.unusedSimpArgs false
open Go.RowKit Go.Shelf Go.Maps

/-- The times of an authorization. -/
def timP (a : AutR) : Prop := if a.st = 3 then numP a.fr ∧ a.un = a.fr + 50 else a.fr = 0 ∧ a.un = 0
instance (a : AutR) : Decidable (timP a) := by unfold timP; infer_instance
theorem wrap50 {a b : Int} (ha : numP a) (hb : wf64 b) : wrap64 (b - a) = 50 ↔ b = a + 50 := by
  obtain ⟨h1, h2⟩ := ha
  obtain ⟨h3, h4⟩ := wf64_out hb
  unfold wrap64
  omega
set_option maxRecDepth 100000 in
set_option maxHeartbeats 4000000 in
theorem mayAut_any (b : Nat) (d : DoorX) (now : Int) (i : Nat) (x : AutR) (hi : d.auts[i]? = some x) (xw : AutW x) (hi9 : i < 99) (ha9 : d.accs.length < 100) (w : World) (h : DoorB w b d now)
    (hr : Reads w w.heap.size 7 d.uA d.auts.length (autV d.auts)) :
    Calls Tryz.prog 175 #[.pointer (some ⟨b, 0, none⟩), .int .i64 (i : Int)] w fun e w' => e = .returned (.bool (decide (autP d.accs.length i x))) ∧ Ext w w' := by
  obtain ⟨a0, a1, a2, a3, a4, a5, a6⟩ := arr7 h
  have hib : (i : Int) ≤ 1000 := by omega
  have hil : (i : Int) < (d.auts.length : Int) := by have := (List.getElem?_eq_some_iff.1 hi).1; omega
  obtain ⟨ad, hA, hlt, q0, q1, q2, q3, q4, q5, q6⟩ := reads_aut hr hi
  rw [hA] at a3
  have HB := Lib.hid (Blk.new w 192 #[.int .i64 x.id, .int .i64 x.acc, .string x.name, .string x.tok, .int .i64 x.st, .int .i64 x.fr, .int .i64 x.un])
  have HD := Lib.hid h
  have HXW := Lib.hid xw
  have HI9 := Lib.hid hi9
  have HA9 := Lib.hid ha9
  clear h hr hi hA hlt xw hi9 ha9
  go_enter Tryz.func175, Tryz.ntmps175
  go_upto_region 2 with (fail)
  obtain ⟨W1, e1⟩ : ∃ W, W = w.alloc (.cells #[.int .i64 x.id, .int .i64 x.acc, .string x.name, .string x.tok, .int .i64 x.st, .int .i64 x.fr, .int .i64 x.un] 192) := ⟨_, rfl⟩
  rw [← e1] at HB ⊢
  have X1 : Ext w W1 := by rw [e1]; exact (Ext.refl w).alloc _
  have HX1 := Lib.hid X1
  have HDB := Lib.hid (DoorB.ext HD.out X1)
  clear e1 X1 a0 a1 a2 a3 a4 a5 a6 q0 q1 q2 q3 q4 q5 q6
  obtain ⟨k0, k1, k2, k3, k4, k5, k6⟩ := arr7 HB.out
  go_cut [6] (fun s6 wx => wx = W1 ∧ s6 = .bool (decide (x.fr = 0 ∧ x.un = 0)))
  case first =>
    by_cases h1 : x.fr = 0
    · have d1 : (x.fr == 0) = true := by simp [h1]
      by_cases h2 : x.un = 0
      · have d2 : (x.un == 0) = true := by simp [h2]
        have HH : Hid (x.fr = 0 ∧ x.un = 0) := Lib.hid ⟨h1, h2⟩
        clear h1 h2
        go_wp2
        go_meet
        exact ⟨rfl, by rw [decide_eq_true HH.out]⟩
      · have d2 : (x.un == 0) = false := by simp [h2]
        have HH : Hid (¬ (x.fr = 0 ∧ x.un = 0)) := Lib.hid (fun h => h2 h.2)
        clear h1 h2
        go_wp2
        go_meet
        exact ⟨rfl, by rw [decide_eq_false HH.out]⟩
    · have d1 : (x.fr == 0) = false := by simp [h1]
      have HH : Hid (¬ (x.fr = 0 ∧ x.un = 0)) := Lib.hid (fun h => h1 h.1)
      clear h1
      go_wp2
      go_meet
      exact ⟨rfl, by rw [decide_eq_false HH.out]⟩
  case rest =>
    obtain ⟨hw, rfl⟩ := hcut
    rw [hw]
    clear hw
    obtain ⟨T0, hT0⟩ : ∃ T, T = decide (x.fr = 0 ∧ x.un = 0) := ⟨_, rfl⟩
    rw [← hT0]
    have HT0 := Lib.hid hT0
    clear hT0
    go_upto_if 25 with (fail)
    go_cut [6] (fun s6 wx => wx = W1 ∧ s6 = .bool (decide (timP x)))
    case first =>
      have cN := onum_any x.fr
      by_cases h1 : x.st = 3
      · have d1 : (x.st == 3) = true := by simp [h1]
        by_cases h2 : numP x.fr
        · rw [decide_eq_true h2] at cN
          have hw := wrap50 h2 HXW.out.un
          by_cases h3 : x.un = x.fr + 50
          · have d2 : (wrap64 (x.un - x.fr) == 50) = true := by rw [beq_iff_eq]; exact hw.2 h3
            have HH : Hid (timP x) := Lib.hid (by unfold timP; rw [if_pos h1]; exact ⟨h2, h3⟩)
            clear h1 h2 h3 hw
            go_wp2_with (go_at_call 93; refine (cN _).mono ?_; clear cN; rintro e w2 ⟨rfl, rfl⟩)
            go_meet
            exact ⟨rfl, by rw [decide_eq_true HH.out]⟩
          · have d2 : (wrap64 (x.un - x.fr) == 50) = false := by rw [beq_eq_false_iff_ne]; exact fun h => h3 (hw.1 h)
            have HH : Hid (¬ timP x) := Lib.hid (by unfold timP; rw [if_pos h1]; exact fun h => h3 h.2)
            clear h1 h2 h3 hw
            go_wp2_with (go_at_call 93; refine (cN _).mono ?_; clear cN; rintro e w2 ⟨rfl, rfl⟩)
            go_meet
            exact ⟨rfl, by rw [decide_eq_false HH.out]⟩
        · rw [decide_eq_false h2] at cN
          have HH : Hid (¬ timP x) := Lib.hid (by unfold timP; rw [if_pos h1]; exact fun h => h2 h.1)
          clear h1 h2
          go_wp2_with (go_at_call 93; refine (cN _).mono ?_; clear cN; rintro e w2 ⟨rfl, rfl⟩)
          go_meet
          exact ⟨rfl, by rw [decide_eq_false HH.out]⟩
      · have d1 : (x.st == 3) = false := by simp [h1]
        have HH : Hid (T0 = decide (timP x)) := Lib.hid (by rw [HT0.out, decide_eq_decide]; unfold timP; rw [if_neg h1])
        clear h1 cN
        go_wp2
        go_meet
        exact ⟨rfl, by rw [HH.out]⟩
    case rest =>
      obtain ⟨hw, rfl⟩ := hcut
      rw [hw]
      clear hw HT0
      obtain ⟨T, hT⟩ : ∃ T, T = decide (timP x) := ⟨_, rfl⟩
      rw [← hT]
      have HT := Lib.hid hT
      clear hT
      have cA := fun (j : Later W1) => hasAcc_any b d now x.acc j.W (DoorB.ext HDB.out j.ext)
      have cN := nCheck_any x.name HXW.out.name
      have j0 := fun j : Later W1 => j.cell k0
      have j1 := fun j : Later W1 => j.cell k1
      have j2 := fun j : Later W1 => j.cell k2
      have j3 := fun j : Later W1 => j.cell k3
      have j4 := fun j : Later W1 => j.cell k4
      have j5 := fun j : Later W1 => j.cell k5
      have j6 := fun j : Later W1 => j.cell k6
      clear k0 k1 k2 k3 k4 k5 k6
      by_cases h1 : x.id = (i : Int) + 1
      case neg =>
        have HP : Hid (¬ autP d.accs.length i x) := Lib.hid fun h => h1 (h.1)
        have d1 : (x.id == (i : Int) + 1) = false := by simp [h1]
        clear h1 cA cN
        go_wp2
        refine wp_region_later (by kernel_rfl) (by kernel_rfl) ?_
        repeat (go_big_quiet_step ((fail)))
        refine wpQuiet_nil ?_
        rintro W2 ⟨q, hq⟩
        have x5 : Ext w W2 := by rw [hq]; exact HX1.out.trans q.ext
        clear hq q j0 j1 j2 j3 j4 j5 j6
        go_wp2
        go_ret
        exact ⟨ret_bool (decide_eq_false HP.out).symm, x5⟩
      have d1 : (x.id == (i : Int) + 1) = true := by simp [h1]
      by_cases h2 : 1 ≤ x.acc ∧ x.acc ≤ (d.accs.length : Int)
      case neg =>
        have HP : Hid (¬ autP d.accs.length i x) := Lib.hid fun h => h2 (⟨h.2.1, h.2.2.1⟩)
        rw [show decide (1 ≤ x.acc ∧ x.acc ≤ (d.accs.length : Int)) = false from decide_eq_false h2] at cA
        clear h1 h2 cN
        go_wp2
        refine wp_region_later (by kernel_rfl) (by kernel_rfl) ?_
        repeat (go_big_quiet_step (((go_at_call 96; exact Later.same (cA _)))))
        refine wpQuiet_nil ?_
        rintro W2 ⟨q, hq⟩
        have x5 : Ext w W2 := by rw [hq]; exact HX1.out.trans q.ext
        clear hq q j0 j1 j2 j3 j4 j5 j6
        go_wp2
        go_ret
        exact ⟨ret_bool (decide_eq_false HP.out).symm, x5⟩
      rw [show decide (1 ≤ x.acc ∧ x.acc ≤ (d.accs.length : Int)) = true from decide_eq_true h2] at cA
      by_cases h3 : namP x.name
      case neg =>
        have HP : Hid (¬ autP d.accs.length i x) := Lib.hid fun h => h3 (h.2.2.2.1)
        rw [show namE x.name = 110 from if_neg h3] at cN
        clear h1 h2 h3
        go_wp2
        refine wp_region_later (by kernel_rfl) (by kernel_rfl) ?_
        repeat (go_big_quiet_step ((first | (go_at_call 96; exact Later.same (cA _)) | (go_at_call 240; exact Later.calls (cN _)))))
        refine wpQuiet_nil ?_
        rintro W2 ⟨q, hq⟩
        have x5 : Ext w W2 := by rw [hq]; exact HX1.out.trans q.ext
        clear hq q j0 j1 j2 j3 j4 j5 j6
        go_wp2
        go_ret
        exact ⟨ret_bool (decide_eq_false HP.out).symm, x5⟩
      rw [show namE x.name = 0 from if_pos h3] at cN
      by_cases h4 : x.tok = tokS x.id x.acc
      case neg =>
        have HP : Hid (¬ autP d.accs.length i x) := Lib.hid fun h => h4 (h.2.2.2.2.1)
        have d4 : (x.tok.toList == (tokS x.id x.acc).toList) = false := str_beq_false h4
        have cK := fun W => token_any x.id x.acc (by omega) (by have := HI9.out; omega) (by omega) (by have := HA9.out; omega) W
        clear h1 h2 h3 h4
        go_wp2
        refine wp_region_later (by kernel_rfl) (by kernel_rfl) ?_
        repeat (go_big_quiet_step ((first | (go_at_call 96; exact Later.same (cA _)) | (go_at_call 240; exact Later.calls (cN _)) | (go_at_call 190; exact Later.same (cK _)))))
        refine wpQuiet_nil ?_
        rintro W2 ⟨q, hq⟩
        have x5 : Ext w W2 := by rw [hq]; exact HX1.out.trans q.ext
        clear hq q j0 j1 j2 j3 j4 j5 j6
        go_wp2
        go_ret
        exact ⟨ret_bool (decide_eq_false HP.out).symm, x5⟩
      have d4 : (x.tok.toList == (tokS x.id x.acc).toList) = true := str_beq_true h4
      by_cases h5 : 1 ≤ x.st
      case neg =>
        have HP : Hid (¬ autP d.accs.length i x) := Lib.hid fun h => h5 (h.2.2.2.2.2.1)
        have d5 : decide (1 ≤ x.st) = false := decide_eq_false h5
        have cK := fun W => token_any x.id x.acc (by omega) (by have := HI9.out; omega) (by omega) (by have := HA9.out; omega) W
        clear h1 h2 h3 h4 h5
        go_wp2
        refine wp_region_later (by kernel_rfl) (by kernel_rfl) ?_
        repeat (go_big_quiet_step ((first | (go_at_call 96; exact Later.same (cA _)) | (go_at_call 240; exact Later.calls (cN _)) | (go_at_call 190; exact Later.same (cK _)))))
        refine wpQuiet_nil ?_
        rintro W2 ⟨q, hq⟩
        have x5 : Ext w W2 := by rw [hq]; exact HX1.out.trans q.ext
        clear hq q j0 j1 j2 j3 j4 j5 j6
        go_wp2
        go_ret
        exact ⟨ret_bool (decide_eq_false HP.out).symm, x5⟩
      have d5 : decide (1 ≤ x.st) = true := decide_eq_true h5
      by_cases h6 : x.st ≤ 4
      case neg =>
        have HP : Hid (¬ autP d.accs.length i x) := Lib.hid fun h => h6 (h.2.2.2.2.2.2.1)
        have d6 : decide (x.st ≤ 4) = false := decide_eq_false h6
        have cK := fun W => token_any x.id x.acc (by omega) (by have := HI9.out; omega) (by omega) (by have := HA9.out; omega) W
        clear h1 h2 h3 h4 h5 h6
        go_wp2
        refine wp_region_later (by kernel_rfl) (by kernel_rfl) ?_
        repeat (go_big_quiet_step ((first | (go_at_call 96; exact Later.same (cA _)) | (go_at_call 240; exact Later.calls (cN _)) | (go_at_call 190; exact Later.same (cK _)))))
        refine wpQuiet_nil ?_
        rintro W2 ⟨q, hq⟩
        have x5 : Ext w W2 := by rw [hq]; exact HX1.out.trans q.ext
        clear hq q j0 j1 j2 j3 j4 j5 j6
        go_wp2
        go_ret
        exact ⟨ret_bool (decide_eq_false HP.out).symm, x5⟩
      have d6 : decide (x.st ≤ 4) = true := decide_eq_true h6
      by_cases h7 : timP x
      case neg =>
        have HP : Hid (¬ autP d.accs.length i x) := Lib.hid fun h => h7 (h.2.2.2.2.2.2.2)
        obtain rfl : T = false := by rw [HT.out]; exact decide_eq_false h7
        have cK := fun W => token_any x.id x.acc (by omega) (by have := HI9.out; omega) (by omega) (by have := HA9.out; omega) W
        clear h1 h2 h3 h4 h5 h6 h7
        go_wp2
        refine wp_region_later (by kernel_rfl) (by kernel_rfl) ?_
        repeat (go_big_quiet_step ((first | (go_at_call 96; exact Later.same (cA _)) | (go_at_call 240; exact Later.calls (cN _)) | (go_at_call 190; exact Later.same (cK _)))))
        refine wpQuiet_nil ?_
        rintro W2 ⟨q, hq⟩
        have x5 : Ext w W2 := by rw [hq]; exact HX1.out.trans q.ext
        clear hq q j0 j1 j2 j3 j4 j5 j6
        go_wp2
        go_ret
        exact ⟨ret_bool (decide_eq_false HP.out).symm, x5⟩
      have HP : Hid (autP d.accs.length i x) := Lib.hid ⟨h1, h2.1, h2.2, h3, h4, h5, h6, h7⟩
      obtain rfl : T = true := by rw [HT.out]; exact decide_eq_true h7
      have cK := fun W => token_any x.id x.acc (by omega) (by have := HI9.out; omega) (by omega) (by have := HA9.out; omega) W
      clear h1 h2 h3 h4 h5 h6 h7
      go_wp2
      refine wp_region_later (by kernel_rfl) (by kernel_rfl) ?_
      repeat (go_big_quiet_step ((first | (go_at_call 96; exact Later.same (cA _)) | (go_at_call 240; exact Later.calls (cN _)) | (go_at_call 190; exact Later.same (cK _)))))
      refine wpQuiet_nil ?_
      rintro W2 ⟨q, hq⟩
      have x5 : Ext w W2 := by rw [hq]; exact HX1.out.trans q.ext
      clear hq q j0 j1 j2 j3 j4 j5 j6
      go_wp2
      go_ret
      exact ⟨ret_bool (decide_eq_true HP.out).symm, x5⟩
end Go.Proofs.YtfpmfegmehbfbaaGreatDoor

/- Names, walked: patterns, what is above a name, what a pattern matches. -/
namespace Go.Proofs.YtfpmfegmehbfbaaGreatDoor
set_option linter.unusedVariables false
set_option linter.unusedSimpArgs false
open Go.RowKit Go.Shelf
attribute [local go_sem] Oper.semAt_some

/-- What stands behind the first dot. -/
def aftF (s : ByteArray) : ByteArray := if 0 ≤ Lib.indexByte s.data.toList 46 then s.extract ((Lib.indexByte s.data.toList 46).toNat + 1) s.size else ⟨#[]⟩
theorem aft_no {s : ByteArray} (h : Lib.indexByte s.data.toList 46 = -1) : aftF s = ⟨#[]⟩ := by unfold aftF; rw [h]; rfl
theorem aft_at {s : ByteArray} {o : Nat} (h : Lib.indexByte s.data.toList 46 = o) : aftF s = s.extract (o + 1) s.size := by unfold aftF; rw [h, if_pos (by omega)]; rfl
theorem aft_size (s : ByteArray) : (aftF s).size = 0 ∨ (aftF s).size < s.size := by
  unfold aftF
  split
  · rw [ByteArray.size_extract]; omega
  · exact .inl rfl
set_option maxHeartbeats 1000000 in
theorem liteCut_any (s : ByteArray) (hs : s.size ≤ 140737488355328) (w : World) : Calls Tryz.prog 324 #[.string s, .string ⟨#[46]⟩] w fun e w' => (∃ a b, e = .returned (.tuple #[.string a, .string (aftF s), .bool b])) ∧ Ext w w' := by
  have c1 := fun w => (Tryz.stringslite_Index_one s 46 w).mono fun e w' (h : _ ∧ _) => (⟨h.1, h.2.symm⟩ : _ ∧ _)
  have hge := Lib.indexByte_ge s.data.toList 46
  by_cases hno : Lib.indexByte s.data.toList 46 = -1
  · rw [aft_no hno]
    rw [hno] at c1
    clear hno hge
    go_enter Tryz.func324, Tryz.ntmps324
    go_wp2_with (go_at_call 322; refine (c1 _).mono ?_; clear c1; rintro e w' ⟨rfl, rfl⟩)
    go_ret3
    exact ⟨⟨_, _, rfl⟩, Ext.refl w⟩
  · obtain ⟨o, ho⟩ : ∃ o : Nat, Lib.indexByte s.data.toList 46 = o := ⟨(Lib.indexByte s.data.toList 46).toNat, by omega⟩
    have hlt := (cuts_idx_at ho).1
    rw [aft_at ho]
    rw [ho] at c1
    have h1 : (o : Int) + 1 ≤ s.size := by omega
    have h2 : (o : Int) ≤ s.size := by omega
    clear hno hge ho
    go_enter Tryz.func324, Tryz.ntmps324
    go_wp2_with (go_at_call 322; refine (c1 _).mono ?_; clear c1; rintro e w' ⟨rfl, rfl⟩)
    go_region
    go_wp2
    go_ret3
    exact ⟨⟨_, _, rfl⟩, Ext.of (Below.refl _ w).drew⟩
theorem Cut_any (s : ByteArray) (hs : s.size ≤ 140737488355328) (w : World) : Calls Tryz.prog 302 #[.string s, .string ⟨#[46]⟩] w fun e w' => (∃ a b, e = .returned (.tuple #[.string a, .string (aftF s), .bool b])) ∧ Ext w w' := by
  have c1 := liteCut_any s hs
  go_enter Tryz.func302, Tryz.ntmps302
  go_wp2_with (go_at_call 324; refine (c1 _).mono ?_; clear c1; rintro e w1 ⟨⟨a, b, rfl⟩, x1⟩)
  go_ret3
  exact ⟨⟨_, _, rfl⟩, x1⟩
/-- What is above a name. -/
def upF (s : ByteArray) : ByteArray := if namP s then aftF s else ⟨#[]⟩
theorem up_size (s : ByteArray) : (upF s).size = 0 ∨ (upF s).size < s.size := by
  unfold upF
  split
  · exact aft_size s
  · exact .inl rfl
theorem Up_any (s : ByteArray) (hs : s.size ≤ 140737488355328) (w : World) : Calls Tryz.prog 262 #[.string s] w fun e w' => e = .returned (.string (upF s)) ∧ Ext w w' := by
  have c1 := is_any s hs
  have c2 := Cut_any s hs
  unfold upF
  by_cases hn : namP s
  · rw [decide_eq_true hn] at c1
    rw [if_pos hn]
    go_enter Tryz.func262, Tryz.ntmps262
    go_wp2_with (first | (go_at_call 120; refine (c1 _).mono ?_; clear c1; rintro e w1 ⟨rfl, x1⟩) | (go_at_call 302; refine (c2 _).mono ?_; clear c2; rintro e w2 ⟨⟨a, b, rfl⟩, x2⟩))
    go_ret
    exact ⟨rfl, x1.trans x2⟩
  · rw [decide_eq_false hn] at c1
    rw [if_neg hn]
    go_enter Tryz.func262, Tryz.ntmps262
    go_wp2_with (go_at_call 120; refine (c1 _).mono ?_; clear c1; rintro e w1 ⟨rfl, x1⟩)
    go_ret
    exact ⟨rfl, x1⟩
/-- All names above one. -/
def abvF (s : ByteArray) : List ByteArray := if h : (upF s).size = 0 then [] else upF s :: abvF (upF s)
termination_by s.size
decreasing_by have := up_size s; omega
theorem grown_extN {W W' : World} (h : Ext W W') : W.grownBy W' none := by
  obtain ⟨a, b, c, d, e⟩ := h.out
  exact ⟨a, b, c, d, fun k hk _ => e k hk⟩
set_option maxRecDepth 100000 in
set_option maxHeartbeats 4000000 in
theorem above1_in (n : Nat) (hn : 1 ≤ n) (l bs B : Nat) (hs : bs < B) (T : ByteArray) (hT : T.size ≤ 140737488355328) (J Jx : List ByteArray → World → Prop) (hJ : AbB bs J)
    (hY : ∀ pre x X, J pre X → YieldAt Fence.wide (n - 1) Tryz.prog l #[.string x] X fun e Y => (e = .returned (.bool true) ∧ J (pre ++ [x]) Y ∧ Below B X Y) ∨ (e = .returned (.bool false) ∧ Jx (pre ++ [x]) Y))
    (W : World) (fs : W.frozen? ⟨bs, 0, none⟩ = false) (cs : W.cell? ⟨bs, 0, none⟩ = some (.string T)) (h0 : J [] W) :
    CallsIn Fence.wide n Tryz.prog 261 #[.func (.yield l) #[] #[], .pointer (some ⟨bs, 0, none⟩)] W fun e Y => (∃ v, e = .returned v) ∧
      ((∃ xs : List ByteArray, xs = abvF T ∧ J xs Y) ∨ (∃ pre : List ByteArray, pre <+: abvF T ∧ Jx pre Y)) := by
  have c0 : ∀ m s w, s.size ≤ 140737488355328 → CallsIn Fence.wide m Tryz.prog 262 #[.string s] w fun e w' => e = .returned (.string (upF s)) ∧ Ext w w' := fun m s w h => callsIn_wide.2 (Up_any s h w)
  refine callsIn_of_wp Tryz.func261 rfl trivial ?_ rfl
  simp only [Tryz.ntmps261, List.size_toArray, List.length_cons, List.length_nil, Nat.reduceAdd, Nat.reduceSub, Array.replicate_succ, Array.replicate_zero, List.push_toArray, List.append_toArray, List.nil_append, List.cons_append]
  gi_wp2_with (refine ⟨trivial, ?_⟩; gi_at_call 262; refine (c0 _ _ _ hT).mono ?_; rintro e w' ⟨rfl, x1⟩; have d1 := x1.cell cs; have d2 := (x1.frozen cs).trans fs)
  have hu := up_size T
  gi_loopw [5] (fun i wr => ∃ (pre : List ByteArray) (cur : ByteArray), J pre wr ∧ wr.cell? ⟨bs, 0, none⟩ = some (.string cur) ∧ wr.frozen? ⟨bs, 0, none⟩ = false ∧
      abvF T = pre ++ (if cur.size = 0 then [] else cur :: abvF cur) ∧ cur.size ≤ T.size)
    (fun i wr => boxLen wr bs)
  case atStart =>
    refine ⟨[], upF T, hJ _ _ _ _ (hJ _ _ _ none h0 (grown_extN x1) (fun r e => by cases e)) (grownBy_setCell' _ bs _) (fun r e => by cases e; rfl), World.cell?_setCell_same' _ _ _ (by rw [d1]; rfl), by rw [World.frozen?_setCell]; exact d2, ?_, by omega⟩
    rw [abvF]
    simp only [List.nil_append]
    split <;> rfl
  case round =>
    obtain ⟨pre, cur, hJs, ds, df, hc, hl⟩ := hrel
    by_cases hz : cur.size = 0
    · have hE : cur.toList.isEmpty = true := by
        rw [ByteArray.toList_eq]
        have : cur.data.toList.length = 0 := by rw [Array.length_toList]; exact hz
        rw [List.length_eq_zero_iff.1 this]; rfl
      have hE2 : cur.toList = [] := List.isEmpty_iff.1 hE
      rw [if_pos hz] at hc
      clear hz
      gi_wp2
      refine ⟨by simp, ?_⟩
      gi_wp2
      go_end0
      exact ⟨⟨_, rfl⟩, .inl ⟨_, by rw [hc]; simp, hJs⟩⟩
    · have hE : cur.toList.isEmpty = false := by
        rw [ByteArray.toList_eq]
        cases hl : cur.data.toList with
        | nil => exact absurd (by rw [← Array.length_toList, hl]; rfl : cur.data.size = 0) hz
        | cons _ _ => rfl
      have hE2 : ¬ cur.toList = [] := fun h => by rw [h] at hE; cases hE
      rw [if_neg hz] at hc
      have hu := up_size cur
      obtain ⟨fn, tmps, assign, body, hy, hR⟩ := hY pre cur wr hJs
      gi_wp2
      refine hR.mono ?_
      clear hR
      rintro e Y (⟨rfl, hJ1, hb1⟩ | ⟨rfl, hJ1⟩)
      · have es : Y.cell? ⟨bs, 0, none⟩ = some (.string cur) := (Below.cell hb1 (p := ⟨bs, 0, none⟩) hs).trans ds
        have ef : Y.frozen? ⟨bs, 0, none⟩ = false := (World.frozen?_of_block (hb1.block bs hs)).trans df
        have hm := boxLen_eq ds
        clear ds df
        gi_wp2_with (refine ⟨trivial, ?_⟩; gi_at_call 262; refine (c0 _ _ _ (by omega)).mono ?_; rintro e w2 ⟨rfl, x2⟩; have d1 := x2.cell es; have d2 := (x2.frozen es).trans ef)
        go_roundw
        case rel =>
          refine ⟨pre ++ [cur], upF cur, hJ _ _ _ _ (hJ _ _ _ none hJ1 (grown_extN x2) (fun r e => by cases e)) (grownBy_setCell' _ bs _) (fun r e => by cases e; rfl), World.cell?_setCell_same' _ _ _ (by rw [d1]; rfl), by rw [World.frozen?_setCell]; exact d2, ?_, by omega⟩
          rw [hc, abvF]
          split <;> simp
        case measure =>
          rw [hm, boxLen_eq (World.cell?_setCell_same' _ _ _ (by rw [d1]; rfl))]
          omega
      · gi_wp2
        first | (refine bodyPost_ret (results_none rfl _ _ _) rfl ?_) | go_end0
        exact ⟨⟨_, rfl⟩, .inr ⟨_, by rw [hc]; exact ⟨abvF cur, by simp⟩, hJ1⟩⟩
theorem above_any (s : ByteArray) (w : World) : Calls Tryz.prog 214 #[.string s] w fun e w' =>
    e = .returned (.func (.func 261) #[] #[.pointer (some ⟨w.heap.size, 0, none⟩)]) ∧ w.alloc (.cells #[.string s] 9) = w' := by
  go_enter Tryz.func214, Tryz.ntmps214
  go_wp2
  go_ret
  exact ⟨rfl, rfl⟩
set_option maxRecDepth 100000 in
set_option maxHeartbeats 4000000 in
theorem below_any (s o : ByteArray) (hs : s.size ≤ 140737488355328) (w : World) :
    Calls Tryz.prog 121 #[.string s, .string o] w fun e w' => e = .returned (.bool ((abvF s).any (fun x => x.toList == o.toList))) ∧ Ext w w' := by
  refine (callsIn_wide (n := 5)).1 ?_
  have c2 : ∀ m w, CallsIn Fence.wide m Tryz.prog 214 #[.string s] w _ := fun m w => callsIn_wide.2 (above_any s w)
  refine callsIn_of_wp_marks Tryz.func121 rfl trivial ?_ rfl
  simp only [Tryz.ntmps121, List.size_toArray, List.length_cons, List.length_nil, Nat.reduceAdd, Nat.reduceSub, Array.replicate_succ, Array.replicate_zero, List.push_toArray, List.append_toArray, List.nil_append, List.cons_append]
  gi_wp2_with (refine ⟨trivial, ?_⟩; gi_at_call 214; refine (c2 _ _).mono ?_; clear c2; rintro e w' ⟨rfl, rfl⟩)
  obtain ⟨s0, hs0⟩ : ∃ s0, s0 = w.heap.size := ⟨_, rfl⟩
  have f0 : (((w.alloc (.cells #[.string o] 9)).alloc (.cells #[.bool false] 4)).alloc (.cells #[.string s] 9)).cell? ⟨s0, 0, none⟩ = some (.string o) ∧ (((w.alloc (.cells #[.string o] 9)).alloc (.cells #[.bool false] 4)).alloc (.cells #[.string s] 9)).cell? ⟨s0 + 1, 0, none⟩ = some (.bool false) ∧ (((w.alloc (.cells #[.string o] 9)).alloc (.cells #[.bool false] 4)).alloc (.cells #[.string s] 9)).frozen? ⟨s0 + 1, 0, none⟩ = false ∧
    (((w.alloc (.cells #[.string o] 9)).alloc (.cells #[.bool false] 4)).alloc (.cells #[.string s] 9)).cell? ⟨s0 + 1 + 1, 0, none⟩ = some (.string s) ∧ (((w.alloc (.cells #[.string o] 9)).alloc (.cells #[.bool false] 4)).alloc (.cells #[.string s] 9)).frozen? ⟨s0 + 1 + 1, 0, none⟩ = false := by
    subst hs0
    refine ⟨?_, ?_, ?_, ?_, ?_⟩ <;> simp [go_sem]
  obtain ⟨W0, hW0⟩ : ∃ W0, (((w.alloc (.cells #[.string o] 9)).alloc (.cells #[.bool false] 4)).alloc (.cells #[.string s] 9)) = W0 := ⟨_, rfl⟩
  have hE : Ext w W0 := by rw [← hW0]; exact (((Ext.refl w).alloc _).alloc _).alloc _
  have hsz : W0.heap.size = s0 + 3 := by rw [← hW0, hs0]; simp
  rw [hW0] at f0 ⊢
  rw [← hs0]
  obtain ⟨d0, d1, z1, d2, z2⟩ := f0
  have hE' : Below s0 w W0 := hs0 ▸ hE
  have Hs0 := Lib.hid hs0
  clear hs0 hW0 hE
  refine wpIn_range_box rfl (by omega) (gf := 261) (lb := #[.pointer (some ⟨s0 + 1 + 1, 0, none⟩)]) rfl trivial (enters_of Tryz.func261 (by kernel_rfl) rfl)
    (en := fun x : ByteArray => #[Value.string x]) (b := s0 + 1 + 1) (by omega) (S := fun xs => xs = abvF s) (Sp := fun pre => pre <+: abvF s)
    (fun l J Jx W hW hJ hJx hY h0 => above1_in 4 (by omega) l (s0 + 1 + 1) W0.heap.size (by omega) s hs J Jx hJ hY W ((World.frozen?_of_block (hW.block _ (by simp; omega))).trans z2) ((hW.cell (p := ⟨s0 + 1 + 1, 0, none⟩) (by simp; omega)).trans d2) h0)
    (fun _ => rfl)
    (fun pre W => W.cell? ⟨s0, 0, none⟩ = some (.string o) ∧ W.cell? ⟨s0 + 1, 0, none⟩ = some (.bool false) ∧ W.frozen? ⟨s0 + 1, 0, none⟩ = false ∧ W0.heap.size ≤ W.heap.size ∧ Below s0 w W ∧ pre.any (fun x => x.toList == o.toList) = false)
    (fun pre W => W.cell? ⟨s0 + 1, 0, none⟩ = some (.bool true) ∧ W0.heap.size ≤ W.heap.size ∧ Below s0 w W ∧ pre.any (fun x => x.toList == o.toList) = true)
    ?hI ?hIx ⟨d0, d1, z1, Nat.le_refl _, hE', by simp⟩
    (fun x => { tmps := #[Value.string s, Value.string o, undef, Value.pointer (some { block := s0, off := 0 }), Value.pointer (some { block := s0 + 1, off := 0 }), Value.string x, Value.string s, Value.func (Fn.func 261) #[] #[Value.pointer (some { block := s0 + 1 + 1, off := 0 })], Value.string x, undef, undef, undef], defers := [] }) ?assign ?body ?done ?stop
  case hI =>
    rintro pre X Y row ⟨i1, i2, i3, i4, i5, i6⟩ hg hr
    have hb : Y.heap[s0]? = X.heap[s0]? := hg.block s0 (by omega) (fun e => by rcases hr _ e.symm with h | ⟨h, _⟩ <;> omega)
    have hb1 : Y.heap[s0 + 1]? = X.heap[s0 + 1]? := hg.block (s0 + 1) (by omega) (fun e => by rcases hr _ e.symm with h | ⟨h, _⟩ <;> omega)
    exact ⟨(World.cell?_of_block (a := ⟨s0, 0, none⟩) hb).trans i1, (World.cell?_of_block (a := ⟨s0 + 1, 0, none⟩) hb1).trans i2, (World.frozen?_of_block (a := ⟨s0 + 1, 0, none⟩) hb1).trans i3, Nat.le_trans i4 hg.size, i5.grown hg (by omega) (fun r e => by rcases hr r e with h | ⟨h, _⟩ <;> omega), i6⟩
  case hIx =>
    rintro pre X Y row ⟨i2, i4, i5, i6⟩ hg hr
    have hb1 : Y.heap[s0 + 1]? = X.heap[s0 + 1]? := hg.block (s0 + 1) (by omega) (fun e => by rcases hr _ e.symm with h | ⟨h, _⟩ <;> omega)
    exact ⟨(World.cell?_of_block (a := ⟨s0 + 1, 0, none⟩) hb1).trans i2, Nat.le_trans i4 hg.size, i5.grown hg (by omega) (fun r e => by rcases hr r e with h | ⟨h, _⟩ <;> omega), i6⟩
  case assign =>
    intro l x W K hK
    gi_wp2
    exact hK
  case body =>
    rintro l pre x W ⟨i1, i2, i3, i4, i5, i6⟩
    cases hxb : (x.toList == o.toList) with
    | true =>
      gi_wp2
      refine ⟨KeepsOthers.setCell _ _ _, World.cell?_setCell_same' _ _ _ (by rw [i2]; rfl), Nat.le_trans i4 (KeepsOthers.setCell _ _ _).size, i5.setCell (p := ⟨s0 + 1, 0, none⟩) (Nat.le_succ _) _, by simp [hxb]⟩
    | false =>
      gi_wp2
      exact ⟨KeepsOthers.refl _, Below.refl _ _, i1, i2, i3, i4, i5, by rw [List.any_append, i6]; simp [hxb]⟩
  case done =>
    rintro D ys W hD rfl ⟨i1, i2, i3, i4, i5, i6⟩ hK
    have hno : (abvF s).any (fun x => x.toList == o.toList) = false := i6
    have j1 : (W.setCell ⟨s0 + 1, 0, none⟩ (.bool false)).cell? ⟨s0 + 1, 0, none⟩ = some (.bool false) := World.cell?_setCell_same' _ _ _ (by rw [i2]; rfl)
    have hK' : (W.setCell ⟨s0 + 1, 0, none⟩ (.bool false)).heap[D]? = some (.deferred (some [])) := (KeepsOthers.setCell _ _ _).same D _ hK rfl
    gi_wp2
    refine ⟨by simp, .inl ⟨_, _, rfl, run_takeDeferred hK', ?_⟩⟩
    have j2 : ((W.setCell ⟨s0 + 1, 0, none⟩ (.bool false)).putObj D (.deferred none)).cell? ⟨s0 + 1, 0, none⟩ = some (.bool false) := (World.cell?_of_block (World.putObj_heap_other (by simp; omega))).trans j1
    refine ⟨.bool false, by simp [results, Tryz.results121, go_sem, j2], ret_bool hno.symm, ?_⟩
    exact Ext.of (Hs0.out ▸ (i5.setCell (p := ⟨s0 + 1, 0, none⟩) (Nat.le_succ _) _).trans (belowK_b (n₀ := s0) (w := w) (by rw [Hs0.out]; exact Nat.le_refl _) _ D _ _ (by rw [hsz, Hs0.out] at hD; omega) hK' rfl rfl))
  case stop =>
    rintro D pre W hD hS ⟨i2, i4, i5, i6⟩ hK
    have hyes : (abvF s).any (fun x => x.toList == o.toList) = true := by obtain ⟨r, hr⟩ := hS; rw [← hr, List.any_append, i6]; rfl
    gi_wp2
    refine ⟨by simp, .inl ⟨_, _, rfl, run_takeDeferred hK, ?_⟩⟩
    have j2 : (W.putObj D (.deferred none)).cell? ⟨s0 + 1, 0, none⟩ = some (.bool true) := (World.cell?_of_block (World.putObj_heap_other (by simp; omega))).trans i2
    refine ⟨.bool true, by simp [results, Tryz.results121, go_sem, j2], ret_bool hyes.symm, ?_⟩
    exact Ext.of (Hs0.out ▸ i5.trans (belowK_b (n₀ := s0) (w := w) (by rw [Hs0.out]; exact Nat.le_refl _) _ D _ _ (by rw [hsz, Hs0.out] at hD; omega) hK rfl rfl))
/-- What a pattern is of, whether it is a star, whether it is a pattern. -/
def patF (s : ByteArray) : ByteArray × Bool × Bool :=
  if namP s then (s, false, true)
  else (⟨(Lib.trimPrefix s.data.toList [42, 46]).toArray⟩, Lib.hasPrefix s.data.toList [42, 46], Lib.hasPrefix s.data.toList [42, 46] && decide (nameQ 7 62 ⟨(Lib.trimPrefix s.data.toList [42, 46]).toArray⟩))
theorem trimP_le (s : ByteArray) (l : List UInt8) : (⟨(Lib.trimPrefix s.data.toList l).toArray⟩ : ByteArray).size ≤ s.size := by
  have e : s.data.toList.length = s.size := Array.length_toList
  unfold Lib.trimPrefix
  split
  · show ((s.data.toList.drop l.length).toArray).size ≤ s.size
    rw [List.size_toArray, List.length_drop]; omega
  · show (s.data.toList.toArray).size ≤ s.size
    rw [List.size_toArray]; omega
theorem pattern_any (s : ByteArray) (hs : s.size ≤ 140737488355328) (w : World) :
    Calls Tryz.prog 119 #[.string s] w fun e w' => e = .returned (.tuple #[.string (patF s).1, .bool (patF s).2.1, .bool (patF s).2.2]) ∧ Ext w w' := by
  have c1 := is_any s hs
  have c2 := fun w => (Tryz.strings_CutPrefix s ⟨#[42, 46]⟩ w).mono fun e w' (h : _ ∧ _) => (⟨h.1, h.2.symm⟩ : _ ∧ _)
  have hsz := trimP_le s [42, 46]
  unfold patF
  by_cases hn : namP s
  · rw [decide_eq_true hn] at c1
    rw [if_pos hn]
    clear c2 hsz
    go_enter Tryz.func119, Tryz.ntmps119
    go_wp2_with (go_at_call 120; refine (c1 _).mono ?_; clear c1; rintro e w1 ⟨rfl, x1⟩)
    go_ret3
    exact ⟨rfl, x1⟩
  · rw [decide_eq_false hn] at c1
    rw [if_neg hn]
    dsimp only at c2 ⊢
    generalize hT : (⟨(Lib.trimPrefix s.data.toList [42, 46]).toArray⟩ : ByteArray) = T at c2 hsz ⊢
    have c3 := name_any T (by omega) 7 62
    cases hp : Lib.hasPrefix s.data.toList [42, 46] with
    | true =>
      rw [hp] at c2
      clear hp hT
      go_enter Tryz.func119, Tryz.ntmps119
      go_wp2_with (first | (go_at_call 120; refine (c1 _).mono ?_; clear c1; rintro e w1 ⟨rfl, x1⟩) | (go_at_call 212; refine (c2 _).mono ?_; clear c2; rintro e w2 ⟨rfl, rfl⟩) | (go_at_call 213; refine (c3 _).mono ?_; clear c3; rintro e w3 ⟨rfl, x3⟩))
      go_ret3
      exact ⟨by simp, x1.trans x3⟩
    | false =>
      rw [hp] at c2
      clear hp hT
      go_enter Tryz.func119, Tryz.ntmps119
      go_wp2_with (first | (go_at_call 120; refine (c1 _).mono ?_; clear c1; rintro e w1 ⟨rfl, x1⟩) | (go_at_call 212; refine (c2 _).mono ?_; clear c2; rintro e w2 ⟨rfl, rfl⟩))
      go_ret3
      exact ⟨by simp, x1⟩
theorem Pattern_any (s : ByteArray) (hs : s.size ≤ 140737488355328) (w : World) :
    Calls Tryz.prog 207 #[.string s] w fun e w' => e = .returned (.int .i64 (if (patF s).2.2 = true then 0 else 110)) ∧ Ext w w' := by
  have c1 := pattern_any s hs
  have c2 := told_any (patF s).2.2
  generalize (patF s).2.2 = b at c1 c2 ⊢
  generalize (patF s).1 = o at c1
  generalize (patF s).2.1 = st at c1
  cases b <;> simp only [Bool.false_eq_true, if_false, if_true] at c2 ⊢
  all_goals
   go_enter Tryz.func207, Tryz.ntmps207
   go_wp2_with (first | (go_at_call 119; refine (c1 _).mono ?_; clear c1; rintro e w1 ⟨rfl, x1⟩) | (go_at_call 252; refine (c2 _).mono ?_; clear c2; rintro e w1 ⟨rfl, rfl⟩))
   go_ret
   exact ⟨rfl, x1⟩
/-- Does a pattern match a name? -/
def mchF (p s : ByteArray) : Bool := (patF p).2.2 && decide (namP s) && (if (patF p).2.1 = true then (abvF s).any (fun x => x.toList == (patF p).1.toList) else (patF p).1.toList == s.toList)
theorem Match_any (p s : ByteArray) (hp : p.size ≤ 140737488355328) (hs : s.size ≤ 140737488355328) (w : World) :
    Calls Tryz.prog 45 #[.string p, .string s] w fun e w' => e = .returned (.bool (mchF p s)) ∧ Ext w w' := by
  have c1 := pattern_any p hp
  have c2 := is_any s hs
  have c3 := below_any s (patF p).1 hs
  unfold mchF
  generalize (patF p).1 = o at c1 c3 ⊢
  generalize (patF p).2.1 = st at c1 ⊢
  generalize (patF p).2.2 = ok at c1 ⊢
  generalize decide (namP s) = nm at c2 ⊢
  generalize (abvF s).any (fun x => x.toList == o.toList) = r at c3 ⊢
  cases ok <;> cases nm <;> cases st
  all_goals
    go_enter Tryz.func45, Tryz.ntmps45
    go_wp2_with (first | (go_at_call 119; refine (c1 _).mono ?_; clear c1; rintro e w1 ⟨rfl, x1⟩) | (go_at_call 120; refine (c2 _).mono ?_; clear c2; rintro e w2 ⟨rfl, x2⟩) | (go_at_call 121; refine (c3 _).mono ?_; clear c3; rintro e w3 ⟨rfl, x3⟩))
    go_ret
    exact ⟨by simp, by first | exact x1 | exact x1.trans x2 | exact (x1.trans x2).trans x3⟩
end Go.Proofs.YtfpmfegmehbfbaaGreatDoor
