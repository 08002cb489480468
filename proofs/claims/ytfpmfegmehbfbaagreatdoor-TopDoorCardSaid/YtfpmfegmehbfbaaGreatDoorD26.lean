/- Parts of the proofs, put together: Or24, Or25, Or26, Open6. -/
import Derived.Test.YtfpmfegmehbfbaaGreatDoorD16
import Derived.Test.YtfpmfegmehbfbaaGreatDoorD20
import Derived.Test.YtfpmfegmehbfbaaGreatDoorD25
/- The door, walked: do authorizations hold, what is revoked, does a request fit. -/
namespace Go.Proofs.YtfpmfegmehbfbaaGreatDoor
set_option linter.unusedVariables false
set_option linter.unusedSimpArgs false
open Go.RowKit Go.Shelf Go.Maps

/-! ### a request in memory -/
def queV (q : QueR) (A : Option Addr) (c : Nat) : Value := .agg #[.int .i64 q.kind, .int .i64 q.acc, .int .i64 q.nonce, .int .u64 (q.key : Int), .slice A q.names.length c, .int .i64 q.life, .int .i64 q.id, .int .u64 (q.e : Int), .int .u64 (q.s : Int)]
def QueB (w : World) (b : Nat) (q : QueR) (A : Option Addr) (c : Nat) : Prop :=
  Blk w b 98 #[.int .i64 q.kind, .int .i64 q.acc, .int .i64 q.nonce, .int .u64 (q.key : Int), .slice A q.names.length c, .int .i64 q.life, .int .i64 q.id, .int .u64 (q.e : Int), .int .u64 (q.s : Int)]
structure QueW (w : World) (B : Nat) (q : QueR) (A : Option Addr) (c : Nat) : Prop where
  kind : wf64 q.kind
  acc : wf64 q.acc
  nonce : wf64 q.nonce
  key : q.key < 18446744073709551616
  life : wf64 q.life
  id : wf64 q.id
  e : q.e < 18446744073709551616
  s : q.s < 18446744073709551616
  names : Reads w B 1 A q.names.length (tv q.names)
  nc : q.names.length ≤ c
  nl : q.names.length ≤ 1099511627776
  ns : ∀ s ∈ q.names, s.size ≤ 140737488355328
theorem QueW.ext {w w' : World} {q : QueR} {A : Option Addr} {c : Nat} (h : QueW w w.heap.size q A c) (x : Ext w w') : QueW w' w'.heap.size q A c :=
  ⟨h.kind, h.acc, h.nonce, h.key, h.life, h.id, h.e, h.s, (h.names.below x.out).more x.size, h.nc, h.nl, h.ns⟩
theorem arr9 {W : World} {g : Nat} {T : TypeId} {a b c d e f h i j : Value} (k : Blk W g T #[a, b, c, d, e, f, h, i, j]) : W.cell? ⟨g, 0, none⟩ = some a ∧ W.cell? ⟨g, 1, none⟩ = some b ∧ W.cell? ⟨g, 2, none⟩ = some c ∧ W.cell? ⟨g, 3, none⟩ = some d ∧ W.cell? ⟨g, 4, none⟩ = some e ∧ W.cell? ⟨g, 5, none⟩ = some f ∧ W.cell? ⟨g, 6, none⟩ = some h ∧ W.cell? ⟨g, 7, none⟩ = some i ∧ W.cell? ⟨g, 8, none⟩ = some j :=
  ⟨k.cell 0, k.cell 1, k.cell 2, k.cell 3, k.cell 4, k.cell 5, k.cell 6, k.cell 7, k.cell 8⟩

/-! ### what holds -/
def oldA (f : List AutR) (now n : Int) : Bool := match f[n.toNat - 1]? with | some u => !holdA now u | none => true
theorem holdsF_old (f : List AutR) (l : List Int) (now : Int) : holdsF f l now = !decide (0 ≤ ixG (oldA f now) l) := by
  unfold holdsF ixG
  cases h : l.findIdx? (oldA f now) with
  | none =>
    have := List.findIdx?_eq_none_iff.1 h
    simp only [show decide ((0 : Int) ≤ -1) = false from rfl, Bool.not_false]
    rw [List.all_eq_true]
    intro n hn
    have h1 := this n hn
    unfold oldA at h1
    split at h1
    · next u e => rw [e]; simpa using h1
    · cases h1
  | some i =>
    obtain ⟨h1, h2, _⟩ := List.findIdx?_eq_some_iff_getElem.1 h
    simp only [show decide ((0 : Int) ≤ (i : Int)) = true by simp, Bool.not_true]
    rw [List.all_eq_false]
    refine ⟨l[i], List.getElem_mem h1, ?_⟩
    unfold oldA at h2
    split at h2
    · next u e => rw [e]; simpa using h2
    · next e => rw [e]; simp
theorem holds1_enters : Enters Tryz.prog 194 := enters_of Tryz.func194 (by kernel_rfl) rfl
set_option maxRecDepth 100000 in
set_option maxHeartbeats 4000000 in
theorem holds1_any (b : Nat) (d : DoorX) (now : Int) (gp : Nat) (n : Int) (hn : 1 ≤ n ∧ n ≤ d.auts.length) (hul : d.auts.length ≤ 1099511627776) (w : World) (h : DoorB w b d now) (hp : w.cell? ⟨gp, 0, none⟩ = some (.pointer (some ⟨b, 0, none⟩)))
    (hr : Reads w w.heap.size 7 d.uA d.auts.length (autV d.auts)) :
    Calls Tryz.prog 194 #[.int .i64 n, .pointer (some ⟨gp, 0, none⟩)] w fun e w' => e = .returned (.bool (oldA d.auts now n)) ∧ Ext w w' := by
  obtain ⟨a, rfl⟩ : ∃ a : Nat, n = (a : Int) + 1 := ⟨(n - 1).toNat, by omega⟩
  obtain ⟨a0, a1, a2, a3, a4, a5, a6⟩ := arr7 h
  have hal : (a : Int) < (d.auts.length : Int) := by omega
  have hab : (a : Int) ≤ 1099511627776 := by omega
  obtain ⟨u, hu⟩ : ∃ u, d.auts[a]? = some u := ⟨_, List.getElem?_eq_getElem (by omega)⟩
  obtain ⟨ad, hA, hlt, q0, q1, q2, q3, q4, q5, q6⟩ := reads_aut hr hu
  rw [hA] at a3
  have HO : Hid (oldA d.auts now ((a : Int) + 1) = !(decide (u.st = 3) && decide (now ≤ u.un))) := Lib.hid (by unfold oldA; rw [show ((a : Int) + 1).toNat - 1 = a by omega, hu]; rfl)
  have HB := Lib.hid (Blk.new w 192 #[.int .i64 u.id, .int .i64 u.acc, .string u.name, .string u.tok, .int .i64 u.st, .int .i64 u.fr, .int .i64 u.un])
  have HD := Lib.hid h
  have hp' := hp
  have HP := Lib.hid hp'
  clear h hr hu hA hlt hn hul hp'
  go_enter Tryz.func194, Tryz.ntmps194
  go_upto_region 2 with (fail)
  obtain ⟨W1, e1⟩ : ∃ W, W = w.alloc (.cells #[.int .i64 u.id, .int .i64 u.acc, .string u.name, .string u.tok, .int .i64 u.st, .int .i64 u.fr, .int .i64 u.un] 192) := ⟨_, rfl⟩
  rw [← e1] at HB ⊢
  have HX1 : Hid (Ext w W1) := by rw [e1]; exact (Ext.refl w).alloc _
  clear e1 a0 a1 a2 a3 a4 a5 a6 q0 q1 q2 q3 q4 q5 q6 hp
  obtain ⟨k0, k1, k2, k3, k4, k5, k6⟩ := arr7 HB.out
  obtain ⟨-, -, -, -, -, -, a6⟩ := arr7 (DoorB.ext HD.out HX1.out)
  have hp := HX1.out.cell HP.out
  have j4 := fun j : Later W1 => j.cell k4
  have j6 := fun j : Later W1 => j.cell k6
  have ja := fun j : Later W1 => j.cell a6
  have jp := fun j : Later W1 => j.cell hp
  clear k0 k1 k2 k3 k4 k5 k6 a6 hp
  by_cases g1 : u.st = 3
  · have d1 : (u.st != 3) = false := by simp [g1]
    by_cases g2 : u.un < now
    · have d2 : decide (u.un < now) = true := decide_eq_true g2
      have HR : Hid ((!(decide (u.st = 3) && decide (now ≤ u.un))) = true) := Lib.hid (by simp; omega)
      clear g1 g2
      refine wp_region_later (by kernel_rfl) (by kernel_rfl) ?_
      repeat (go_big_quiet_step ((fail)))
      refine wpQuiet_nil ?_
      rintro W2 ⟨q, hq⟩
      have x5 : Ext w W2 := by rw [hq]; exact HX1.out.trans q.ext
      clear hq q j4 j6 ja jp
      go_wp2
      go_ret
      exact ⟨ret_bool (by rw [HO.out, HR.out]), x5⟩
    · have d2 : decide (u.un < now) = false := decide_eq_false g2
      have HR : Hid ((!(decide (u.st = 3) && decide (now ≤ u.un))) = false) := Lib.hid (by simp; omega)
      clear g1 g2
      refine wp_region_later (by kernel_rfl) (by kernel_rfl) ?_
      repeat (go_big_quiet_step ((fail)))
      refine wpQuiet_nil ?_
      rintro W2 ⟨q, hq⟩
      have x5 : Ext w W2 := by rw [hq]; exact HX1.out.trans q.ext
      clear hq q j4 j6 ja jp
      go_wp2
      go_ret
      exact ⟨ret_bool (by rw [HO.out, HR.out]), x5⟩
  · have d1 : (u.st != 3) = true := by simp [g1]
    have HR : Hid ((!(decide (u.st = 3) && decide (now ≤ u.un))) = true) := Lib.hid (by simp [g1])
    clear g1
    refine wp_region_later (by kernel_rfl) (by kernel_rfl) ?_
    repeat (go_big_quiet_step ((fail)))
    refine wpQuiet_nil ?_
    rintro W2 ⟨q, hq⟩
    have x5 : Ext w W2 := by rw [hq]; exact HX1.out.trans q.ext
    clear hq q j4 j6 ja jp
    go_wp2
    go_ret
    exact ⟨ret_bool (by rw [HO.out, HR.out]), x5⟩
theorem containsI_any (F : FuncId) (hE : Enters Tryz.prog F) (cap : Array Value) (f : Int → Bool) (l : List Int) (hn : l.length ≤ 1099511627776) (A : Option Addr) (c : Nat) (w : World) (hr : Reads w w.heap.size 1 A l.length (iv l))
    (hstep : ∀ (W : World) (s : Int), s ∈ l → Ext w W → Calls Tryz.prog F (#[.int .i64 s] ++ cap) W fun e w' => e = .returned (.bool (f s)) ∧ Ext W w') :
    Calls Tryz.prog 193 #[.slice A l.length c, .func (.func F) #[] cap] w fun e w' => e = .returned (.bool (decide (0 ≤ ixG f l))) ∧ Ext w w' := by
  have c1 := indexI_any F hE cap f l hn A c w hr hstep
  obtain ⟨i, hi⟩ : ∃ i, i = ixG f l := ⟨_, rfl⟩
  rw [← hi] at c1 ⊢
  clear hi hr hn hstep
  go_enter Tryz.func193, Tryz.ntmps193
  go_wp2_with (go_at_call 243; refine c1.mono ?_; clear c1; rintro e w1 ⟨rfl, x1⟩)
  go_ret
  exact ⟨rfl, x1⟩
theorem holds_any (b : Nat) (d : DoorX) (now : Int) (l : List Int) (hl : ∀ s ∈ l, 1 ≤ s ∧ s ≤ d.auts.length) (hn : l.length ≤ 1099511627776) (hul : d.auts.length ≤ 1099511627776) (A : Option Addr) (c : Nat) (w : World) (h : DoorB w b d now)
    (hr : Reads w w.heap.size 1 A l.length (iv l)) (hu : Reads w w.heap.size 7 d.uA d.auts.length (autV d.auts)) :
    Calls Tryz.prog 103 #[.pointer (some ⟨b, 0, none⟩), .slice A l.length c] w fun e w' => e = .returned (.bool (holdsF d.auts l now)) ∧ Ext w w' := by
  obtain ⟨W0, e0⟩ : ∃ W, w.alloc (.cells #[.pointer (some ⟨b, 0, none⟩)] 178) = W := ⟨_, rfl⟩
  have x0 : Ext w W0 := by rw [← e0]; exact (Ext.refl w).alloc _
  have p0 : W0.cell? ⟨w.heap.size, 0, none⟩ = some (.pointer (some ⟨b, 0, none⟩)) := by rw [← e0]; exact (Blk.new w _ _).cell 0
  have c1 := containsI_any _ holds1_enters #[.pointer (some ⟨w.heap.size, 0, none⟩)] (oldA d.auts now) l hn A c W0 ((hr.below x0.out).more x0.size) (fun W s hs x => holds1_any b d now w.heap.size s (hl s hs) hul W (DoorB.ext h (x0.trans x)) (x.cell p0) ((hu.below (x0.trans x).out).more (x0.trans x).size))
  have HH := Lib.hid (holdsF_old d.auts l now)
  have HX := Lib.hid x0
  obtain ⟨i, hi⟩ : ∃ i, i = ixG (oldA d.auts now) l := ⟨_, rfl⟩
  rw [← hi] at c1 HH
  clear h hr hu hl hn hul x0 p0 hi
  go_enter Tryz.func103, Tryz.ntmps103
  go_wp2_with (go_at_call 193; refine c1.mono ?_; clear c1; rintro e w1 ⟨rfl, x1⟩)
  go_ret
  exact ⟨ret_bool HH.out.symm, HX.out.trans x1⟩

/-! ### does a request fit -/
set_option maxRecDepth 100000 in
set_option maxHeartbeats 8000000 in
theorem qfits_any (q : QueR) (A : Option Addr) (c : Nat) (w : World) (hq : QueW w w.heap.size q A c) :
    Calls Tryz.prog 94 #[queV q A c] w fun e w' => e = .returned (.bool (decide (fitsP q))) ∧ Ext w w' := by
  unfold queV
  obtain ⟨W0, e0⟩ : ∃ W, w.alloc (.cells #[.int .i64 q.kind, .int .i64 q.acc, .int .i64 q.nonce, .int .u64 (q.key : Int), .slice A q.names.length c, .int .i64 q.life, .int .i64 q.id, .int .u64 (q.e : Int), .int .u64 (q.s : Int)] 98) = W := ⟨_, rfl⟩
  have x0 : Ext w W0 := by rw [← e0]; exact (Ext.refl w).alloc _
  have b0 : QueB W0 w.heap.size q A c := by rw [← e0]; exact Blk.new w _ _
  have h0 := hq.ext x0
  have cO := orderable_any q.names h0.nl h0.ns A c h0.nc W0 h0.names
  have cI := In_any q.key h0.key
  obtain ⟨k0, k1, k2, k3, k4, k5, k6, k7, k8⟩ := arr9 b0
  have HB := Lib.hid b0
  have HX := Lib.hid x0
  clear hq h0 b0 x0
  go_enter Tryz.func94, Tryz.ntmps94
  go_upto_region 1 with (fail)
  try rw [e0]
  clear e0
  go_cut [3] (fun s3 wx => wx = W0 ∧ s3 = .bool (decide (q.names.length = 0 ∧ q.life = 0)))
  case first =>
    by_cases h1 : q.names.length = 0
    · have d1 : ((q.names.length : Int) == 0) = true := by simp [h1]
      by_cases h2 : q.life = 0
      · have d2 : (q.life == 0) = true := by simp [h2]
        have HH : Hid (q.names.length = 0 ∧ q.life = 0) := Lib.hid ⟨h1, h2⟩
        clear h1 h2
        go_wp2
        go_meet
        exact ⟨rfl, by rw [decide_eq_true HH.out]⟩
      · have d2 : (q.life == 0) = false := by simp [h2]
        have HH : Hid (¬ (q.names.length = 0 ∧ q.life = 0)) := Lib.hid (fun h => h2 h.2)
        clear h1 h2
        go_wp2
        go_meet
        exact ⟨rfl, by rw [decide_eq_false HH.out]⟩
    · have d1 : ((q.names.length : Int) == 0) = false := by rw [beq_eq_false_iff_ne]; omega
      have HH : Hid (¬ (q.names.length = 0 ∧ q.life = 0)) := Lib.hid (fun h => h1 h.1)
      clear h1
      go_wp2
      go_meet
      exact ⟨rfl, by rw [decide_eq_false HH.out]⟩
  case rest =>
    obtain ⟨hw, rfl⟩ := hcut
    rw [hw]
    clear hw
    obtain ⟨T, hT⟩ : ∃ T, T = decide (q.names.length = 0 ∧ q.life = 0) := ⟨_, rfl⟩
    rw [← hT]
    have HT : Hid (T = true ↔ q.names = [] ∧ q.life = 0) := Lib.hid (by rw [hT, decide_eq_true_iff]; simp [List.length_eq_zero_iff])
    clear hT
    by_cases s1 : q.kind = 1
    · have e1 : (q.kind == 1) = true := by simp [s1]
      have HF : Hid (fitsP q ↔ T = true ∧ q.acc = 0 ∧ q.id = 0) := Lib.hid (by unfold fitsP; rw [if_pos s1, HT.out]; exact ⟨fun ⟨a, b, c, d⟩ => ⟨⟨a, b⟩, c, d⟩, fun ⟨⟨a, b⟩, c, d⟩ => ⟨a, b, c, d⟩⟩)
      clear s1 cO cI
      cases T with
      | false =>
        have HN : Hid (¬ fitsP q) := Lib.hid (fun h => by have := (HF.out.1 h).1; cases this)
        go_wp2
        go_ret
        exact ⟨ret_bool (decide_eq_false HN.out).symm, HX.out⟩
      | true =>
        by_cases g1 : q.acc = 0
        · have d1 : (q.acc == 0) = true := by simp [g1]
          by_cases g2 : q.id = 0
          · have d2 : (q.id == 0) = true := by simp [g2]
            have HY : Hid (fitsP q) := Lib.hid (HF.out.2 ⟨rfl, g1, g2⟩)
            clear g1 g2
            go_wp2
            go_ret
            exact ⟨ret_bool (decide_eq_true HY.out).symm, HX.out⟩
          · have d2 : (q.id == 0) = false := by simp [g2]
            have HN : Hid (¬ fitsP q) := Lib.hid (fun h => g2 (HF.out.1 h).2.2)
            clear g1 g2
            go_wp2
            go_ret
            exact ⟨ret_bool (decide_eq_false HN.out).symm, HX.out⟩
        · have d1 : (q.acc == 0) = false := by simp [g1]
          have HN : Hid (¬ fitsP q) := Lib.hid (fun h => g1 (HF.out.1 h).2.1)
          clear g1
          go_wp2
          go_ret
          exact ⟨ret_bool (decide_eq_false HN.out).symm, HX.out⟩
    have e1 : (q.kind == 1) = false := by simp [s1]
    by_cases s2 : q.kind = 2
    · have e2 : (q.kind == 2) = true := by simp [s2]
      have HF : Hid (fitsP q ↔ q.id = 0 ∧ namesP q.names ∧ inB q.key = true ∧ 1 ≤ q.life ∧ q.life ≤ 1000) := Lib.hid (by unfold fitsP; rw [if_neg s1, if_pos s2])
      clear s1 s2
      by_cases g1 : q.id = 0
      case neg =>
        have d1 : (q.id == 0) = false := by simp [g1]
        have HN : Hid (¬ fitsP q) := Lib.hid (fun h => g1 (HF.out.1 h).1)
        clear g1
        go_wp2
        go_ret
        exact ⟨ret_bool (decide_eq_false HN.out).symm, HX.out⟩
      have d1 : (q.id == 0) = true := by simp [g1]
      by_cases g2 : namesP q.names
      case neg =>
        rw [decide_eq_false g2] at cO
        have HN : Hid (¬ fitsP q) := Lib.hid (fun h => g2 (HF.out.1 h).2.1)
        clear g1 g2
        go_wp2_with (go_at_call 177; refine cO.mono ?_; clear cO; rintro e w1 ⟨rfl, x1⟩)
        go_ret
        exact ⟨ret_bool (decide_eq_false HN.out).symm, HX.out.trans x1⟩
      rw [decide_eq_true g2] at cO
      cases g3 : inB q.key with
      | false =>
        rw [g3] at cI
        have HN : Hid (¬ fitsP q) := Lib.hid (fun h => by have := (HF.out.1 h).2.2.1; rw [g3] at this; cases this)
        clear g1 g2 g3
        go_wp2_with (first
          | (go_at_call 177; refine cO.mono ?_; clear cO; rintro e w1 ⟨rfl, x1⟩; clear k0 k1 k2 k3 k4 k5 k6 k7 k8; obtain ⟨k0, k1, k2, k3, k4, k5, k6, k7, k8⟩ := arr9 (ext_blk x1 HB.out))
          | (go_at_call 115; refine (cI _).mono ?_; clear cI; rintro e w2 ⟨rfl, x2⟩))
        go_ret
        exact ⟨ret_bool (decide_eq_false HN.out).symm, HX.out.trans (x1.trans x2)⟩
      | true =>
        rw [g3] at cI
        by_cases g4 : 0 < q.life
        · by_cases g5 : q.life ≤ 1000
          · have HY : Hid (fitsP q) := Lib.hid (HF.out.2 ⟨g1, g2, g3, by omega, g5⟩)
            clear g1 g2 g3
            go_wp2_with (first
              | (go_at_call 177; refine cO.mono ?_; clear cO; rintro e w1 ⟨rfl, x1⟩; clear k0 k1 k2 k3 k4 k5 k6 k7 k8; obtain ⟨k0, k1, k2, k3, k4, k5, k6, k7, k8⟩ := arr9 (ext_blk x1 HB.out))
              | (go_at_call 115; refine (cI _).mono ?_; clear cI; rintro e w2 ⟨rfl, x2⟩; clear k0 k1 k2 k3 k4 k5 k6 k7 k8; obtain ⟨k0, k1, k2, k3, k4, k5, k6, k7, k8⟩ := arr9 (ext_blk (x1.trans x2) HB.out)))
            go_ret
            exact ⟨ret_bool (decide_eq_true HY.out).symm, HX.out.trans (x1.trans x2)⟩
          · have HN : Hid (¬ fitsP q) := Lib.hid (fun h => g5 (HF.out.1 h).2.2.2.2)
            have d5 : decide (q.life ≤ 1000) = false := decide_eq_false g5
            clear g1 g2 g3
            go_wp2_with (first
              | (go_at_call 177; refine cO.mono ?_; clear cO; rintro e w1 ⟨rfl, x1⟩; clear k0 k1 k2 k3 k4 k5 k6 k7 k8; obtain ⟨k0, k1, k2, k3, k4, k5, k6, k7, k8⟩ := arr9 (ext_blk x1 HB.out))
              | (go_at_call 115; refine (cI _).mono ?_; clear cI; rintro e w2 ⟨rfl, x2⟩; clear k0 k1 k2 k3 k4 k5 k6 k7 k8; obtain ⟨k0, k1, k2, k3, k4, k5, k6, k7, k8⟩ := arr9 (ext_blk (x1.trans x2) HB.out)))
            go_ret
            exact ⟨ret_bool (decide_eq_false HN.out).symm, HX.out.trans (x1.trans x2)⟩
        · have HN : Hid (¬ fitsP q) := Lib.hid (fun h => g4 (by have := (HF.out.1 h).2.2.2.1; omega))
          have d4 : decide (0 < q.life) = false := decide_eq_false g4
          clear g1 g2 g3
          go_wp2_with (first
            | (go_at_call 177; refine cO.mono ?_; clear cO; rintro e w1 ⟨rfl, x1⟩; clear k0 k1 k2 k3 k4 k5 k6 k7 k8; obtain ⟨k0, k1, k2, k3, k4, k5, k6, k7, k8⟩ := arr9 (ext_blk x1 HB.out))
            | (go_at_call 115; refine (cI _).mono ?_; clear cI; rintro e w2 ⟨rfl, x2⟩; clear k0 k1 k2 k3 k4 k5 k6 k7 k8; obtain ⟨k0, k1, k2, k3, k4, k5, k6, k7, k8⟩ := arr9 (ext_blk (x1.trans x2) HB.out)))
          go_ret
          exact ⟨ret_bool (decide_eq_false HN.out).symm, HX.out.trans (x1.trans x2)⟩
    have e2 : (q.kind == 2) = false := by simp [s2]
    have HF : Hid (fitsP q ↔ T = true ∧ q.key = 0) := Lib.hid (by unfold fitsP; rw [if_neg s1, if_neg s2, HT.out]; exact ⟨fun ⟨a, b, c⟩ => ⟨⟨a, b⟩, c⟩, fun ⟨⟨a, b⟩, c⟩ => ⟨a, b, c⟩⟩)
    clear s1 s2 cO cI
    cases T with
    | false =>
      have HN : Hid (¬ fitsP q) := Lib.hid (fun h => by have := (HF.out.1 h).1; cases this)
      go_wp2
      go_ret
      exact ⟨ret_bool (decide_eq_false HN.out).symm, HX.out⟩
    | true =>
      by_cases g1 : q.key = 0
      · have d1 : ((q.key : Int) == 0) = true := by simp [g1]
        have HY : Hid (fitsP q) := Lib.hid (HF.out.2 ⟨rfl, g1⟩)
        clear g1
        go_wp2
        go_ret
        exact ⟨ret_bool (decide_eq_true HY.out).symm, HX.out⟩
      · have d1 : ((q.key : Int) == 0) = false := by rw [beq_eq_false_iff_ne]; omega
        have HN : Hid (¬ fitsP q) := Lib.hid (fun h => g1 (HF.out.1 h).2)
        clear g1
        go_wp2
        go_ret
        exact ⟨ret_bool (decide_eq_false HN.out).symm, HX.out⟩
end Go.Proofs.YtfpmfegmehbfbaaGreatDoor

/- The door, walked: an authorization, an order to be changed; looks. -/
namespace Go.Proofs.YtfpmfegmehbfbaaGreatDoor
set_option linter.unusedVariables false
set_option linter.unusedSimpArgs false
open Go.RowKit Go.Shelf Go.Maps

theorem DoorW.grownTo {w w' : World} {b : Nat} {d : DoorX} (h : DoorW w w.heap.size d) (hl : DoorL (fun k => k ≠ b) d) (hg : w.grownBy w' (some b)) : DoorW w' w'.heap.size d :=
  h.stay hl hg.size (fun k hk hb => hg.block k hb (by simpa using hk))
def withU (d : DoorX) (l : List AutR) (A : Option Addr) (c : Nat) : DoorX := { d with auts := l, uA := A, uc := c }
def withO (d : DoorX) (l : List OrdX) (A : Option Addr) (c : Nat) : DoorX := { d with ords := l, rA := A, rc := c }
theorem withU_w {w : World} {B : Nat} {d : DoorX} {l : List AutR} {A : Option Addr} {c : Nat} (h : DoorW w B d) (hr : Reads w B 7 A l.length (autV l)) (hc : l.length ≤ c) (hl : l.length ≤ 1099511627776) (hw : ∀ x ∈ l, AutW x) : DoorW w B (withU d l A c) :=
  ⟨h.non, h.ser, h.acc, h.cc, h.cl, h.cw, hr, hc, hl, hw, h.ord, h.rc, h.rl, h.rw⟩
theorem withO_w {w : World} {B : Nat} {d : DoorX} {l : List OrdX} {A : Option Addr} {c : Nat} (h : DoorW w B d) (hr : Reads w B 8 A l.length (ordV l)) (hc : l.length ≤ c) (hl : l.length ≤ 1099511627776) (hw : ∀ x ∈ l, OrdW w B x) : DoorW w B (withO d l A c) :=
  ⟨h.non, h.ser, h.acc, h.cc, h.cl, h.cw, h.aut, h.uc, h.ul, h.uw, hr, hc, hl, hw⟩
theorem withU_l {S S' : Nat → Prop} {d : DoorX} {l : List AutR} {A : Option Addr} {c : Nat} (h : DoorL S d) (k : ∀ b, S b → S' b) (ha : Lies S' A l.length) : DoorL S' (withU d l A c) :=
  ⟨h.o.mono k, h.c.mono k, ha, h.r.mono k, fun x hx => (h.n x hx).mono k, fun x hx => (h.a x hx).mono k⟩
theorem withO_l {S S' : Nat → Prop} {d : DoorX} {l : List OrdX} {A : Option Addr} {c : Nat} (h : DoorL S d) (k : ∀ b, S b → S' b) (ha : Lies S' A l.length) (hn : ∀ x ∈ l, Lies S' x.nA x.o.names.length ∧ Lies S' x.aA x.o.auths.length) : DoorL S' (withO d l A c) :=
  ⟨h.o.mono k, h.c.mono k, h.u.mono k, ha, fun x hx => (hn x hx).1, fun x hx => (hn x hx).2⟩
/-- Cells of a list of structs, one of which is turned. -/
theorem fm_set {α : Type} (enc : α → List Value) {k : Nat} (hk : ∀ x, (enc x).length = k) : ∀ {l : List α} {j : Nat} {x y : α}, l[j]? = some x → ∀ {i : Nat} {u : Value}, i < k → (enc x).set i u = enc y → (l.flatMap enc).set (j * k + i) u = (l.set j y).flatMap enc
  | [], j, x, y, h, i, u, hi, he => by simp at h
  | a :: l, 0, x, y, h, i, u, hi, he => by
    simp at h; subst h
    rw [List.flatMap_cons, Nat.zero_mul, Nat.zero_add, List.set_append_left _ _ (by rw [hk]; exact hi), he]
    rfl
  | a :: l, j + 1, x, y, h, i, u, hi, he => by
    simp at h
    rw [List.flatMap_cons, List.set_append_right _ _ (by rw [hk, Nat.add_mul]; omega), hk, show (j + 1) * k + i - k = j * k + i by rw [Nat.add_mul]; omega, fm_set enc hk h hi he]
    rfl
theorem own_fm {α : Type} (enc : α → List Value) {k : Nat} (hk : ∀ x, (enc x).length = k) {w : World} {base g n cap : Nat} {e : TypeId} {l : List α} (h : w.ownsRow base e k (.slice (some ⟨g, 0, none⟩) n cap) n (l.flatMap enc)) {j : Nat} {x : α} (hj : l[j]? = some x) {i : Nat} (hi : i < k) : w.cell? ⟨g, j * k + i, none⟩ = (enc x)[i]? := by
  have hl := (List.getElem?_eq_some_iff.1 hj).1
  have h1 := h.1
  rw [fm_length enc hk] at h1
  have h2 : (l.length - 1) * k + k = l.length * k := by rw [← Nat.succ_mul]; congr 1; omega
  have h3 : j * k ≤ (l.length - 1) * k := Nat.mul_le_mul_right _ (by omega)
  rw [h.cellAt (j * k + i) (by omega)]
  exact fm_at enc hk hj hi

/-! ### an authorization to be changed -/
def authPost (b : Nat) (d : DoorX) (now : Int) (a : Nat) (w : World) (e : Ending) (w' : World) : Prop :=
  ∃ g c, e = .returned (.pointer (some ⟨g, a * 7, none⟩)) ∧ DoorB w' b (withU d d.auts (some ⟨g, 0, none⟩) c) now ∧ w'.ownsRow w.heap.size 192 7 (.slice (some ⟨g, 0, none⟩) d.auts.length c) d.auts.length (autV d.auts) ∧ w.grownBy w' (some b)
def orderPost (b : Nat) (d : DoorX) (now : Int) (a : Nat) (w : World) (e : Ending) (w' : World) : Prop :=
  ∃ g c, e = .returned (.pointer (some ⟨g, a * 8, none⟩)) ∧ DoorB w' b (withO d d.ords (some ⟨g, 0, none⟩) c) now ∧ w'.ownsRow w.heap.size 109 8 (.slice (some ⟨g, 0, none⟩) d.ords.length c) d.ords.length (ordV d.ords) ∧ w.grownBy w' (some b)
set_option maxRecDepth 100000 in
set_option maxHeartbeats 4000000 in
theorem auth_any (b : Nat) (d : DoorX) (now : Int) (a : Nat) (ha : a < d.auts.length) (hl : d.auts.length ≤ 1099511627776) (w : World) (h : DoorB w b d now) (hr : Reads w w.heap.size 7 d.uA d.auts.length (autV d.auts)) :
    Calls Tryz.prog 105 #[.pointer (some ⟨b, 0, none⟩), .int .i64 ((a : Int) + 1)] w (authPost b d now a w) := by
  obtain ⟨a0, a1, a2, a3, a4, a5, a6⟩ := arr7 h
  have cC := cloneU_any d.uA d.auts.length d.uc (autV d.auts) (autV_one _) hl w hr
  have hal : (a : Int) < (d.auts.length : Int) := by omega
  have hab : (a : Int) ≤ 1099511627776 := by omega
  have HD := Lib.hid h
  have H0 : Hid (0 < d.auts.length) := Lib.hid (by omega)
  have hlt : Hid (b < w.heap.size) := Lib.hid (Blk.lt h)
  clear h hr ha hl
  go_enter Tryz.func105, Tryz.ntmps105
  go_wp2_with (go_at_call 187; refine cC.mono ?_; clear cC a0 a1 a2 a3 a4 a5 a6; rintro e w1 ⟨v, rfl, ho, x1⟩; obtain ⟨g, cap, rfl, hgb, hgl⟩ := ho.form H0.out; obtain ⟨a0, a1, a2, a3, a4, a5, a6⟩ := arr7 (DoorB.ext HD.out x1); have f3 := (DoorB.ext HD.out x1).frozen 3; have HO := Lib.hid ho; clear ho)
  go_ret
  exact ⟨g, cap, by simp, (DoorB.ext HD.out x1).set_ 3 _, own_far HO.out hlt.out 3 _, (grown_ext x1 (some b)).trans (grown_set _ _ _ _)⟩
set_option maxRecDepth 100000 in
set_option maxHeartbeats 4000000 in
theorem order_any (b : Nat) (d : DoorX) (now : Int) (a : Nat) (ha : a < d.ords.length) (hl : d.ords.length ≤ 1099511627776) (w : World) (h : DoorB w b d now) (hr : Reads w w.heap.size 8 d.rA d.ords.length (ordV d.ords)) :
    Calls Tryz.prog 192 #[.pointer (some ⟨b, 0, none⟩), .int .i64 ((a : Int) + 1)] w (orderPost b d now a w) := by
  obtain ⟨a0, a1, a2, a3, a4, a5, a6⟩ := arr7 h
  have cC := cloneO_any d.rA d.ords.length d.rc (ordV d.ords) (ordV_one _) hl w hr
  have hal : (a : Int) < (d.ords.length : Int) := by omega
  have hab : (a : Int) ≤ 1099511627776 := by omega
  have HD := Lib.hid h
  have H0 : Hid (0 < d.ords.length) := Lib.hid (by omega)
  have hlt : Hid (b < w.heap.size) := Lib.hid (Blk.lt h)
  clear h hr ha hl
  go_enter Tryz.func192, Tryz.ntmps192
  go_wp2_with (go_at_call 191; refine cC.mono ?_; clear cC a0 a1 a2 a3 a4 a5 a6; rintro e w1 ⟨v, rfl, ho, x1⟩; obtain ⟨g, cap, rfl, hgb, hgl⟩ := ho.form H0.out; obtain ⟨a0, a1, a2, a3, a4, a5, a6⟩ := arr7 (DoorB.ext HD.out x1); have f4 := (DoorB.ext HD.out x1).frozen 4; have HO := Lib.hid ho; clear ho)
  go_ret
  exact ⟨g, cap, by simp, (DoorB.ext HD.out x1).set_ 4 _, own_far HO.out hlt.out 4 _, (grown_ext x1 (some b)).trans (grown_set _ _ _ _)⟩
end Go.Proofs.YtfpmfegmehbfbaaGreatDoor

/- The door, walked: looks. -/
namespace Go.Proofs.YtfpmfegmehbfbaaGreatDoor
set_option linter.unusedVariables false
set_option linter.unusedSimpArgs false
open Go.RowKit Go.Shelf Go.Maps

theorem grown_new {w w1 : World} {row : Option Nat} (h : w.grownBy w1 row) {p : Addr} (hp : w.heap.size ≤ p.block) (u : Value) : w.grownBy (w1.setCell p u) row :=
  ⟨h.os, h.tape, h.output, Nat.le_trans h.size (KeepsWalks.setCell w1 p u).size, fun k hk hr => (Below.heap_setCell w1 p u k (by omega)).trans (h.block k hk hr)⟩
/-- What a kind of request ends in. -/
def methPost (b : Nat) (d : DoorX) (now : Int) (r : OutF) (w : World) (e : Ending) (w' : World) : Prop :=
  e = .returned (.tuple #[.int .i64 r.2.1, .int .i64 (r.2.2 : Nat)]) ∧ w.grownBy w' (some b) ∧ (r.2.2 = 0 → ∃ d', d'.fro = r.1 ∧ DoorB w' b d' now ∧ DoorW w' w'.heap.size d' ∧ ∀ S, DoorL S d → DoorL (orNew S w) d')
theorem methPost_bad {b : Nat} {d : DoorX} {now : Int} {w w' : World} {e : Ending} {E : Nat} (h0 : E ≠ 0) (he : e = .returned (.tuple #[.int .i64 0, .int .i64 (E : Int)])) (hg : w.grownBy w' (some b)) : methPost b d now (bad E) w e w' := ⟨he, hg, fun h => absurd h h0⟩
theorem HG3_cell {w w' : World} {b g : Nat} {T : TypeId} {x0 x1 x2 x3 x4 x5 x6 x7 x8 : Value} (hg : w.grownBy w' (some b)) (hb : Blk w g T #[x0, x1, x2, x3, x4, x5, x6, x7, x8]) (hne : some g ≠ some b) : w'.cell? ⟨g, 6, none⟩ = some x6 := (hb.grown hg hne).cell 6
theorem dfro_auts (d : DoorX) : d.fro.auts = d.auts := rfl
set_option maxRecDepth 100000 in
set_option maxHeartbeats 8000000 in
theorem looks_any (b : Nat) (d : DoorX) (now : Int) (q : QueR) (A : Option Addr) (c : Nat) (w : World) (hw : DoorW w w.heap.size d) (hL : DoorL (fun k => k ≠ b) d) (h : DoorB w b d now) :
    Calls Tryz.prog 99 #[.pointer (some ⟨b, 0, none⟩), queV q A c] w (methPost b d now (lookF d.fro q) w) := by
  obtain ⟨qk, qa, qn, qy, qs, ql, qi, qe, qss⟩ := q
  unfold queV
  obtain ⟨W0, e0⟩ : ∃ W, w.alloc (.cells #[.int .i64 qk, .int .i64 qa, .int .i64 qn, .int .u64 (qy : Int), .slice A qs.length c, .int .i64 ql, .int .i64 qi, .int .u64 (qe : Int), .int .u64 (qss : Int)] 98) = W := ⟨_, rfl⟩
  have x0 : Ext w W0 := by rw [← e0]; exact (Ext.refl w).alloc _
  have b0 : Blk W0 w.heap.size 98 #[.int .i64 qk, .int .i64 qa, .int .i64 qn, .int .u64 (qy : Int), .slice A qs.length c, .int .i64 ql, .int .i64 qi, .int .u64 (qe : Int), .int .u64 (qss : Int)] := by rw [← e0]; exact Blk.new w _ _
  have s0 : w.heap.size < W0.heap.size := Blk.lt b0
  have HW := Lib.hid hw
  have HL := Lib.hid hL
  have HD := Lib.hid h
  have HB := Lib.hid b0
  have HX := Lib.hid x0
  have HS0 := Lib.hid s0
  obtain ⟨k0, k1, k2, k3, k4, k5, k6, k7, k8⟩ := arr9 b0
  obtain ⟨a0, a1, a2, a3, a4, a5, a6⟩ := arr7 (DoorB.ext h x0)
  have hul := hw.ul
  clear hw hL h b0 x0 s0
  go_enter Tryz.func99, Tryz.ntmps99
  go_upto_region 1 with (fail)
  try rw [e0]
  clear e0
  by_cases g1 : qi < 1
  · have hR : lookF d.fro ⟨qk, qa, qn, qy, qs, ql, qi, qe, qss⟩ = bad 131 := by unfold lookF; rw [if_pos g1]
    have HR := Lib.hid hR
    have d1 : decide (qi < 1) = true := decide_eq_true g1
    clear g1 hR
    have j0 := fun q : Later W0 => q.cell k1
    have j1 := fun q : Later W0 => q.cell k6
    have j2 := fun q : Later W0 => q.cell a3
    try (have j3 := fun q : Later W0 => q.cell r1)
    clear k0 k1 k2 k3 k4 k5 k6 k7 k8 a0 a1 a2 a3 a4 a5 a6
    refine wp_region_later (by kernel_rfl) (by kernel_rfl) ?_
    repeat (go_big_quiet_step ((fail)))
    refine wpQuiet_nil ?_
    rintro W2 ⟨q, hq⟩
    have x2 : Ext w W2 := by rw [hq]; exact HX.out.trans q.ext
    have y2 : Ext W0 W2 := by rw [hq]; exact q.ext
    clear hq q j0 j1 j2
    (try clear j3)
    (try clear r1)
    go_wp2
    go_ret2
    rw [HR.out]
    exact methPost_bad (E := 131) (by decide) rfl (grown_ext x2 (some b))
  have d1 : decide (qi < 1) = false := decide_eq_false g1
  obtain ⟨a, rfl⟩ : ∃ a : Nat, qi = (a : Int) + 1 := ⟨(qi - 1).toNat, by omega⟩
  by_cases g2 : (d.auts.length : Int) < (a : Int) + 1
  · have hR : lookF d.fro ⟨qk, qa, qn, qy, qs, ql, (a : Int) + 1, qe, qss⟩ = bad 131 := by
      unfold lookF
      rw [if_neg g1]
      simp only
      rw [show ((a : Int) + 1).toNat - 1 = a by omega, dfro_auts, List.getElem?_eq_none (by omega)]
    have HR := Lib.hid hR
    have d2 : decide ((d.auts.length : Int) < (a : Int) + 1) = true := decide_eq_true g2
    clear g1 g2 hR
    have j0 := fun q : Later W0 => q.cell k1
    have j1 := fun q : Later W0 => q.cell k6
    have j2 := fun q : Later W0 => q.cell a3
    try (have j3 := fun q : Later W0 => q.cell r1)
    clear k0 k1 k2 k3 k4 k5 k6 k7 k8 a0 a1 a2 a3 a4 a5 a6
    refine wp_region_later (by kernel_rfl) (by kernel_rfl) ?_
    repeat (go_big_quiet_step ((fail)))
    refine wpQuiet_nil ?_
    rintro W2 ⟨q, hq⟩
    have x2 : Ext w W2 := by rw [hq]; exact HX.out.trans q.ext
    have y2 : Ext W0 W2 := by rw [hq]; exact q.ext
    clear hq q j0 j1 j2
    (try clear j3)
    (try clear r1)
    go_wp2
    go_ret2
    rw [HR.out]
    exact methPost_bad (E := 131) (by decide) rfl (grown_ext x2 (some b))
  have d2 : decide ((d.auts.length : Int) < (a : Int) + 1) = false := decide_eq_false g2
  obtain ⟨x, hx⟩ : ∃ u, d.auts[a]? = some u := ⟨_, List.getElem?_eq_getElem (by omega)⟩
  obtain ⟨ad, hA, hlt, r0, r1, r2, r3, r4, r5, r6⟩ := reads_aut HW.out.aut hx
  rw [hA] at a3
  have r1 := HX.out.cell r1
  have hal : (a : Int) < (d.auts.length : Int) := by omega
  have hab : (a : Int) ≤ 1099511627776 := by omega
  have hR0 : lookF d.fro ⟨qk, qa, qn, qy, qs, ql, (a : Int) + 1, qe, qss⟩ = if x.acc ≠ qa then bad 131 else if x.st ≠ 1 ∧ x.st ≠ 4 then bad 221 else ({ d.fro with auts := d.auts.set a { x with st := 2 } }, (a : Int) + 1, 0) := by
    unfold lookF
    rw [if_neg g1]
    simp only
    rw [show ((a : Int) + 1).toNat - 1 = a by omega, dfro_auts, hx]
  have HHX := Lib.hid hx
  clear hlt r0 r2 r3 r4 r5 r6 hx g1 g2 hul
  by_cases g3 : x.acc = qa
  case neg =>
    rw [if_pos g3] at hR0
    have HR := Lib.hid hR0
    have d3 : (x.acc != qa) = true := by simp [g3]
    clear g3 hR0
    have j0 := fun q : Later W0 => q.cell k1
    have j1 := fun q : Later W0 => q.cell k6
    have j2 := fun q : Later W0 => q.cell a3
    try (have j3 := fun q : Later W0 => q.cell r1)
    clear k0 k1 k2 k3 k4 k5 k6 k7 k8 a0 a1 a2 a3 a4 a5 a6
    refine wp_region_later (by kernel_rfl) (by kernel_rfl) ?_
    repeat (go_big_quiet_step ((fail)))
    refine wpQuiet_nil ?_
    rintro W2 ⟨q, hq⟩
    have x2 : Ext w W2 := by rw [hq]; exact HX.out.trans q.ext
    have y2 : Ext W0 W2 := by rw [hq]; exact q.ext
    clear hq q j0 j1 j2
    (try clear j3)
    (try clear r1)
    go_wp2
    go_ret2
    rw [HR.out]
    exact methPost_bad (E := 131) (by decide) rfl (grown_ext x2 (some b))
  rw [if_neg (by simpa using g3)] at hR0
  have HR := Lib.hid hR0
  have d3 : (x.acc != qa) = false := by simp [g3]
  clear g3 hR0
  have j0 := fun q : Later W0 => q.cell k1
  have j1 := fun q : Later W0 => q.cell k6
  have j2 := fun q : Later W0 => q.cell a3
  try (have j3 := fun q : Later W0 => q.cell r1)
  clear k0 k1 k2 k3 k4 k5 k6 k7 k8 a0 a1 a2 a3 a4 a5 a6
  refine wp_region_later (by kernel_rfl) (by kernel_rfl) ?_
  repeat (go_big_quiet_step ((fail)))
  refine wpQuiet_nil ?_
  rintro W2 ⟨q, hq⟩
  have x2 : Ext w W2 := by rw [hq]; exact HX.out.trans q.ext
  have y2 : Ext W0 W2 := by rw [hq]; exact q.ext
  clear hq q j0 j1 j2
  (try clear j3)
  (try clear r1)
  have cA := auth_any b d now a (by omega) HW.out.ul W2 (DoorB.ext HD.out x2) ((HW.out.aut.below x2.out).more x2.size)
  obtain ⟨k0, k1, k2, k3, k4, k5, k6, k7, k8⟩ := arr9 (ext_blk y2 HB.out)
  have HX2 := Lib.hid x2
  have HY2 := Lib.hid y2
  have hS2 : Hid (w.heap.size < W2.heap.size) := Lib.hid (by have := HS0.out; have := y2.size; omega)
  clear x2 y2 hA hal
  by_cases g4 : x.st ≠ 1 ∧ x.st ≠ 4
  · have HR2 := HR.out
    rw [if_pos g4] at HR2
    have HRb := Lib.hid HR2
    clear HR2 HR
    have d4 : (x.st != 1) = true := by simp [g4.1]
    have d5 : (x.st != 4) = true := by simp [g4.2]
    clear g4
    go_wp2_with (go_at_call 105; refine cA.mono ?_; clear cA k0 k1 k2 k3 k4 k5 k6 k7 k8; rintro e w3 ⟨g, cap, rfl, hb3, ho3, hg3⟩; have p4 := own_fm autC (fun _ => rfl) ho3 HHX.out (i := 4) (by decide); have HG3 := Lib.hid hg3; clear hb3 ho3 hg3; simp only [autC, List.getElem?_cons_succ, List.getElem?_cons_zero] at p4)
    go_ret2
    rw [HRb.out]
    exact methPost_bad (E := 221) (by decide) rfl ((grown_ext HX2.out (some b)).trans HG3.out)
  · have HR2 := HR.out
    rw [if_neg g4] at HR2
    have HRb := Lib.hid HR2
    clear HR2 HR
    have HF : Hid (x.st = 1 ∨ x.st = 4) := Lib.hid (by omega)
    by_cases g5 : x.st = 1
    · have d4 : (x.st != 1) = false := by simp [g5]
      clear g4 g5
      go_wp2_with (go_at_call 105; (refine cA.mono ?_; clear cA k0 k1 k2 k3 k4 k5 k6 k7 k8; rintro e w3 ⟨g, cap, rfl, hb3, ho3, hg3⟩; have p4 := own_fm autC (fun _ => rfl) ho3 HHX.out (i := 4) (by decide); have f4 := ho3.frozenAt (a * 7 + 4); have hgb : Hid (W2.heap.size ≤ g) := Lib.hid (own_ge ho3 g rfl); have hqg : ⟨w.heap.size, 6, none⟩ ≠ (⟨g, a * 7 + 4, none⟩ : Addr) := (fun e => by have h1 := congrArg Addr.block e; simp only at h1; have h2 := hS2.out; have h3 := hgb.out; omega); have k6 := HG3_cell hg3 (ext_blk HY2.out HB.out) (by have := Blk.lt HD.out; have := HS0.out; simp; omega); have HG3 := Lib.hid hg3; have HB3 := Lib.hid hb3; have HO3 := Lib.hid ho3; clear hb3 ho3 hg3; simp only [autC, List.getElem?_cons_succ, List.getElem?_cons_zero] at p4))
      go_ret2
      have hgb := hgb.out
      have hbl := Blk.lt HD.out
      have hS2 := hS2.out
      obtain ⟨o4, hg4⟩ := HO3.out.stored (a * 7 + 4) (.int .i64 2)
      have hset := fm_set autC (k := 7) (fun _ => rfl) HHX.out (i := 4) (u := .int .i64 2) (y := { x with st := 2 }) (by decide) rfl
      rw [show autV d.auts = d.auts.flatMap autC from rfl, hset] at o4
      have hg5 := grown_new ((grown_ext HX2.out (some b)).trans HG3.out) (p := ⟨g, a * 7 + 4, none⟩) (by simp only; omega) (.int .i64 2)
      have hlen : (d.auts.set a { x with st := 2 }).length = d.auts.length := List.length_set
      have xw := HW.out.uw x (List.mem_of_getElem? HHX.out)
      rw [HRb.out]
      refine ⟨rfl, hg5, fun _ => ⟨withU d (d.auts.set a { x with st := 2 }) (some ⟨g, 0, none⟩) cap, rfl, ?_, ?_, fun S hS => ?_⟩⟩
      · have := Blk.far HB3.out (p := ⟨g, a * 7 + 4, none⟩) (by simp; omega) (.int .i64 2)
        unfold DoorB withU at this ⊢
        simp only at this ⊢
        rw [hlen]
        exact this
      · have hr := Reads.of_own o4
        rw [← hlen] at hr
        refine withU_w (HW.out.grownTo HL.out hg5) hr (by rw [hlen]; exact own_cap HO3.out) (by rw [hlen]; exact HW.out.ul) (fun y hy => ?_)
        rcases List.mem_or_eq_of_mem_set hy with hy | rfl
        · exact HW.out.uw y hy
        · exact ⟨xw.id, xw.acc, wf64_of (by simp) (by simp), xw.fr, xw.un, xw.name, xw.tok⟩
      · refine withU_l hS (fun k hk => .inl hk) ?_
        rw [hlen]
        exact Lies.own o4 (fun k hk => .inr (by omega))
    · have d4 : (x.st != 1) = true := by simp [g5]
      have d5 : (x.st != 4) = false := by have := HF.out; simp; omega
      clear g4 g5
      go_wp2_with (go_at_call 105; refine cA.mono ?_; clear cA k0 k1 k2 k3 k4 k5 k6 k7 k8; rintro e w3 ⟨g, cap, rfl, hb3, ho3, hg3⟩; have p4 := own_fm autC (fun _ => rfl) ho3 HHX.out (i := 4) (by decide); have f4 := ho3.frozenAt (a * 7 + 4); have hgb : Hid (W2.heap.size ≤ g) := Lib.hid (own_ge ho3 g rfl); have hqg : ⟨w.heap.size, 6, none⟩ ≠ (⟨g, a * 7 + 4, none⟩ : Addr) := (fun e => by have h1 := congrArg Addr.block e; simp only at h1; have h2 := hS2.out; have h3 := hgb.out; omega); have k6 := HG3_cell hg3 (ext_blk HY2.out HB.out) (by have := Blk.lt HD.out; have := HS0.out; simp; omega); have HG3 := Lib.hid hg3; have HB3 := Lib.hid hb3; have HO3 := Lib.hid ho3; clear hb3 ho3 hg3; simp only [autC, List.getElem?_cons_succ, List.getElem?_cons_zero] at p4)
      go_ret2
      have hgb := hgb.out
      have hbl := Blk.lt HD.out
      have hS2 := hS2.out
      obtain ⟨o4, hg4⟩ := HO3.out.stored (a * 7 + 4) (.int .i64 2)
      have hset := fm_set autC (k := 7) (fun _ => rfl) HHX.out (i := 4) (u := .int .i64 2) (y := { x with st := 2 }) (by decide) rfl
      rw [show autV d.auts = d.auts.flatMap autC from rfl, hset] at o4
      have hg5 := grown_new ((grown_ext HX2.out (some b)).trans HG3.out) (p := ⟨g, a * 7 + 4, none⟩) (by simp only; omega) (.int .i64 2)
      have hlen : (d.auts.set a { x with st := 2 }).length = d.auts.length := List.length_set
      have xw := HW.out.uw x (List.mem_of_getElem? HHX.out)
      rw [HRb.out]
      refine ⟨rfl, hg5, fun _ => ⟨withU d (d.auts.set a { x with st := 2 }) (some ⟨g, 0, none⟩) cap, rfl, ?_, ?_, fun S hS => ?_⟩⟩
      · have := Blk.far HB3.out (p := ⟨g, a * 7 + 4, none⟩) (by simp; omega) (.int .i64 2)
        unfold DoorB withU at this ⊢
        simp only at this ⊢
        rw [hlen]
        exact this
      · have hr := Reads.of_own o4
        rw [← hlen] at hr
        refine withU_w (HW.out.grownTo HL.out hg5) hr (by rw [hlen]; exact own_cap HO3.out) (by rw [hlen]; exact HW.out.ul) (fun y hy => ?_)
        rcases List.mem_or_eq_of_mem_set hy with hy | rfl
        · exact HW.out.uw y hy
        · exact ⟨xw.id, xw.acc, wf64_of (by simp) (by simp), xw.fr, xw.un, xw.name, xw.tok⟩
      · refine withU_l hS (fun k hk => .inl hk) ?_
        rw [hlen]
        exact Lies.own o4 (fun k hk => .inr (by omega))
end Go.Proofs.YtfpmfegmehbfbaaGreatDoor

/- What comes in, opened: a door, a request, a script. -/
namespace Go.Proofs.YtfpmfegmehbfbaaGreatDoor
set_option linter.unusedVariables false
set_option linter.unusedSimpArgs false
open Go.ChangeShapes Go.WideShapes Go.ChangeAt Go.RowKit

section
variable {H : Type} {enc : TypeId × Value → H} {W : World}
theorem tw_val {t : TypeId} {v : Value} {d : DataW H} {p : List MemPlace} (h : DataW.Trod enc Tryz.prog W 0 (fun _ => true) true t v d p) (hw : ∀ m ∈ d.weights Tryz.prog t, m ≤ reachBytes) : Tw enc Tryz.prog W t v.cells.toList d := by
  obtain ⟨fuel, hf⟩ := h
  exact ⟨⟨fuel, p, hf⟩, hw⟩
theorem open_texts {A : Option Addr} {n c : Nat} {d : DataW H} {p : List MemPlace} (h' : DataW.Trod enc Tryz.prog W 0 (fun _ => true) true 65 (.slice A n c) d p) (hw : ∀ m ∈ d.weights Tryz.prog 65, m ≤ reachBytes) :
    ∃ l : List ByteArray, l.length = n ∧ n ≤ c ∧ c ≤ 140737488351232 ∧ (∀ s ∈ l, s.size ≤ 140737488351232) ∧ Reads W W.heap.size 1 A n (tv l) := by
  have h := tw_val h' hw
  simp only [Value.cells] at h
  obtain ⟨A', c', l, e, h1, h2, h3, h4⟩ := open_strs Tryz.underlying65 Tryz.underlying9 (by kernel_rfl) (by kernel_rfl) h
  simp at e
  obtain ⟨rfl, rfl, rfl⟩ := e
  exact ⟨l, rfl, h1, h2, h3, h4⟩
end
end Go.Proofs.YtfpmfegmehbfbaaGreatDoor
