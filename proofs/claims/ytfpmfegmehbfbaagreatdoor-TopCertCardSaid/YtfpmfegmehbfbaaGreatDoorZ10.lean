/- Parts of the proofs, put together: HaSum. -/
import Derived.Test.YtfpmfegmehbfbaaGreatDoorZ6
import Derived.Test.YtfpmfegmehbfbaaGreatDoorZ9
/- The hash, walked: Sum. -/
namespace Go.Proofs.YtfpmfegmehbfbaaGreatDoor
open Go.RowKit Go.Shelf

attribute [local irreducible] mix
def soak (s : Nat × Nat × Nat) : List Nat → Nat × Nat × Nat
  | [] => s
  | [x] => mix (addM bP s.1 x, s.2.1, s.2.2)
  | x :: y :: l => soak (mix (addM bP s.1 x, addM bP s.2.1 y, s.2.2)) l
def soakE (f : Bool) (s : Nat × Nat × Nat) (l : List Nat) : Nat × Nat × Nat := if f = true ∧ l = [] then mix s else soak s l
def hSum (b : List Nat) : Nat × Nat := ((soakE true (0, 0, b.length) (fOf b)).1, (soakE true (0, 0, b.length) (fOf b)).2.1)
theorem soak_one (s : Nat × Nat × Nat) (x : Nat) : soak s [x] = mix (addM bP s.1 x, s.2.1, s.2.2) := by rw [soak]
theorem soak_two (s : Nat × Nat × Nat) (x y : Nat) (l : List Nat) : soak s (x :: y :: l) = soak (mix (addM bP s.1 x, addM bP s.2.1 y, s.2.2)) l := by rw [soak]
theorem soakE_cons (f : Bool) (s : Nat × Nat × Nat) (x : Nat) (l : List Nat) : soakE f s (x :: l) = soak s (x :: l) := by unfold soakE; rw [if_neg (by simp)]
theorem soakE_false (s : Nat × Nat × Nat) (l : List Nat) : soakE false s l = soak s l := by unfold soakE; rw [if_neg (by simp)]
theorem mix_ok {s : Nat × Nat × Nat} (h : ok3 s) : ok3 (mix s) := by unfold mix; exact rnds_ok h 8

/-- A slice of words that are left, in a row of its own. -/
def Left (W : World) (B : Nat) (A : Option Addr) (c : Nat) (l : List Nat) : Prop :=
  l.length ≤ c ∧ (0 < l.length → ∃ g off cs, A = some ⟨g, off, none⟩ ∧ B ≤ g ∧ Blk W g 25 cs ∧ ∀ j u, (uv l)[j]? = some u → cs[off + j]? = some u)
theorem Left.keep {W W' : World} {B : Nat} {A : Option Addr} {c : Nat} {l : List Nat} (h : Left W B A c l) (hk : ∀ g cs, B ≤ g → Blk W g 25 cs → Blk W' g 25 cs) : Left W' B A c l :=
  ⟨h.1, fun hp => by obtain ⟨g, off, cs, e, hb, hB, hc⟩ := h.2 hp; exact ⟨g, off, cs, e, hb, hk g cs hb hB, hc⟩⟩
theorem Left.of_own {W : World} {B : Nat} {v : Value} {l : List Nat} (h : W.ownsRow B 25 1 v l.length (uv l)) : ∃ A c, v = .slice A l.length c ∧ Left W B A c l := by
  rcases h.2 with ⟨rfl, h0⟩ | ⟨g, cap, cur, rfl, hb, hh, hc⟩
  · exact ⟨none, 0, by rw [h0], by omega, fun h => by omega⟩
  · refine ⟨_, cap, rfl, hc.1, fun _ => ⟨g, 0, cur, rfl, hb, hh, fun j u hj => ?_⟩⟩
    rw [← hc.2.2.2] at hj
    rw [List.getElem?_take] at hj
    split at hj
    · rw [Nat.zero_add, ← Array.getElem?_toList]; exact hj
    · cases hj
theorem Left.set {W : World} {B : Nat} {A : Option Addr} {c : Nat} {l : List Nat} (h : Left W B A c l) {p : Addr} (hp : p.block < B) (u : Value) : Left (W.setCell p u) B A c l :=
  h.keep fun _ _ hb hB => hB.far (by omega) u
theorem Left.ext {W W' : World} {B : Nat} {A : Option Addr} {c : Nat} {l : List Nat} (h : Left W B A c l) (he : Ext W W') : Left W' B A c l :=
  h.keep fun _ _ _ hB => hB.below he.out hB.lt
theorem Left.at_ {W : World} {B g off c : Nat} {l : List Nat} (h : Left W B (some ⟨g, off, none⟩) c l) {j x : Nat} (hj : l[j]? = some x) : W.cell? ⟨g, off + j, none⟩ = some (.int .u64 (x : Int)) := by
  obtain ⟨g', off', cs, e, hb, hB, hc⟩ := h.2 (by have := (List.getElem?_eq_some_iff.1 hj).1; omega)
  cases e
  rw [hB.cell]
  exact hc j _ (by simp [uv, hj])
theorem Left.some_ {W : World} {B : Nat} {A : Option Addr} {c : Nat} {l : List Nat} (h : Left W B A c l) (hp : 0 < l.length) : ∃ g off, A = some ⟨g, off, none⟩ := by
  obtain ⟨g, off, cs, e, _⟩ := h.2 hp
  exact ⟨g, off, e⟩
theorem Left.tail {W : World} {B : Nat} {A : Option Addr} {c : Nat} {l : List Nat} (h : Left W B A c l) (m : Nat) (hm : m ≤ l.length) : ∃ A2, sliced A m l.length c 1 = .slice A2 (l.drop m).length (c - m) ∧ Left W B A2 (c - m) (l.drop m) := by
  refine ⟨if c = m then A else A.map (·.add (m * 1)), by unfold sliced; rw [List.length_drop], by have := h.1; rw [List.length_drop]; omega, fun hp => ?_⟩
  rw [List.length_drop] at hp
  obtain ⟨g, off, cs, rfl, hb, hB, hc⟩ := h.2 (by omega)
  have := h.1
  refine ⟨g, off + m, cs, ?_, hb, hB, fun j u hj => ?_⟩
  · rw [if_neg (by omega)]
    simp only [Option.map_some, Nat.mul_one]
    unfold Addr.add
    split
    · rename_i h0; subst h0; rfl
    · rfl
  · rw [Nat.add_assoc]
    refine hc (m + j) u ?_
    rw [← hj]
    simp only [uv, List.getElem?_map, List.getElem?_drop]
theorem arr_facts {W : World} {g : Nat} {T : TypeId} {a b c : Value} (h : Blk W g T #[a, b, c]) : W.cell? ⟨g, 0, none⟩ = some a ∧ W.cell? ⟨g, 1, none⟩ = some b ∧ W.cell? ⟨g, 2, none⟩ = some c ∧
    W.frozen? ⟨g, 0, none⟩ = false ∧ W.frozen? ⟨g, 1, none⟩ = false ∧ W.frozen? ⟨g, 2, none⟩ = false :=
  ⟨h.cell 0, h.cell 1, h.cell 2, h.frozen 0, h.frozen 1, h.frozen 2⟩
set_option maxRecDepth 100000 in
theorem slice_h (A : Option Addr) (n c m : Nat) (hm : m ≤ c) (w : World) : (Instr.slice 265 (.slice A n c) none (some (.int .i64 (m : Int))) none).run Tryz.prog w = .ok (sliced A 0 m c 1) w := by
  rw [run_slice_h w 265 A n c Tryz.underlying265 .i64 (m : Int) (by omega) (by omega)]
  have : (sizeOf (Tryz.prog.elem 265)).run Tryz.prog w = .ok 1 w := by kernel_rfl
  rw [this]
  rfl
set_option maxRecDepth 100000 in
theorem slice_l (A : Option Addr) (n c m : Nat) (hm : m ≤ n) (w : World) : (Instr.slice 265 (.slice A n c) (some (.int .i64 (m : Int))) none none).run Tryz.prog w = .ok (sliced A m n c 1) w := by
  rw [run_slice_l w 265 A n c Tryz.underlying265 .i64 (m : Int) (by omega) (by omega)]
  have : (sizeOf (Tryz.prog.elem 265)).run Tryz.prog w = .ok 1 w := by kernel_rfl
  rw [this]
  rfl
/-- Behind a Mix: three stores into the sponge. -/
theorem three {w W W5 : World} {B sb rb c : Nat} {T T2 : TypeId} {u v z : Value} {A : Option Addr} {l : List Nat} {cr : Array Value} (hb : Blk W sb T #[u, v, z]) (hr : Blk W rb T2 cr) (hl : Left W B A c l) (hx : Ext w W) (h5 : Ext W W5) (hsB : sb < B) (_ : rb < B) (hrs : rb < sb) (hws : w.heap.size ≤ rb) (a b d : Value) :
    ∃ W6, ((W5.setCell ⟨sb, 0, none⟩ a).setCell ⟨sb, 1, none⟩ b).setCell ⟨sb, 2, none⟩ d = W6 ∧ Blk W6 sb T #[a, b, d] ∧ Blk W6 rb T2 cr ∧ Left W6 B A c l ∧ Ext w W6 := by
  refine ⟨_, rfl, ?_, ?_, ?_, ?_⟩
  · exact (((hb.below h5.out hb.lt).set_ 0 a).set_ 1 b).set_ 2 d
  · have h := hr.below h5.out hr.lt
    exact ((h.far (p := ⟨sb, 0, none⟩) (by simp; omega) a).far (p := ⟨sb, 1, none⟩) (by simp; omega) b).far (p := ⟨sb, 2, none⟩) (by simp; omega) d
  · exact (((hl.ext h5).set (p := ⟨sb, 0, none⟩) hsB a).set (p := ⟨sb, 1, none⟩) hsB b).set (p := ⟨sb, 2, none⟩) hsB d
  · have hs : w.heap.size ≤ sb := by omega
    exact (((hx.trans h5).setCell (p := ⟨sb, 0, none⟩) hs a).setCell (p := ⟨sb, 1, none⟩) hs b).setCell (p := ⟨sb, 2, none⟩) hs d

/-- Behind one store into the sponge. -/
theorem one_set {w W : World} {B sb rb c : Nat} {T T2 : TypeId} {A : Option Addr} {l : List Nat} {cs cr : Array Value} (hb : Blk W sb T cs) (hr : Blk W rb T2 cr) (hl : Left W B A c l) (hx : Ext w W) (hsB : sb < B) (_ : rb < B) (hrs : rb < sb) (hws : w.heap.size ≤ rb) (k : Nat) (a : Value) :
    ∃ W6, W.setCell ⟨sb, k, none⟩ a = W6 ∧ Blk W6 sb T (cs.setIfInBounds k a) ∧ Blk W6 rb T2 cr ∧ Left W6 B A c l ∧ Ext w W6 :=
  ⟨_, rfl, hb.set_ k a, hr.far (p := ⟨sb, k, none⟩) (by simp; omega) a, hl.set (p := ⟨sb, k, none⟩) hsB a, hx.setCell (p := ⟨sb, k, none⟩) (by simp; omega) a⟩

set_option maxRecDepth 100000 in
set_option maxHeartbeats 1000000 in
theorem Sum_any (b : List Nat) (hl : ∀ x ∈ b, x < 256) (hm : b.length ≤ 1099511627776) (A : Option Addr) (c : Nat) (hmc : b.length ≤ c) (w : World) (hr : Reads w w.heap.size 1 A b.length (bv b)) :
    Calls Tryz.prog 143 #[.slice A b.length c] w fun e w' => e = .returned (.agg #[.int .u64 ((hSum b).1 : Int), .int .u64 ((hSum b).2 : Int)]) ∧ Ext w w' := by
  have hm1 : (b.length : Int) ≤ 1099511627776 := by omega
  go_enter Tryz.func143, Tryz.ntmps143
  obtain ⟨W1, hW1, r1, r2, r3, r4⟩ : ∃ W1, (w.alloc (.cells #[.int .u64 0, .int .u64 0] 34)).alloc (.cells #[.int .u64 0, .int .u64 0, .int .u64 (b.length : Int)] 310) = W1 ∧ Blk W1 w.heap.size 34 #[.int .u64 0, .int .u64 0] ∧
      Blk W1 (w.heap.size + 1) 310 #[.int .u64 0, .int .u64 0, .int .u64 (b.length : Int)] ∧ Ext w W1 ∧ W1.heap.size = w.heap.size + 2 :=
    ⟨_, rfl, (Blk.new w _ _).alloc _, by have := Blk.new (w.alloc (.cells #[.int .u64 0, .int .u64 0] 34)) 310 #[.int .u64 0, .int .u64 0, .int .u64 (b.length : Int)]; simpa using this, ((Ext.refl w).alloc _).alloc _, by simp⟩
  have cOf := fOf_any b hl hm A c hmc W1 ((hr.below r3.out).more r3.size)
  obtain ⟨s, hs⟩ : ∃ s, s = (0, 0, b.length) := ⟨_, rfl⟩
  have hok : ok3 s := by rw [hs]; exact ⟨(by decide : 0 < 18446744073709551616), (by decide : 0 < 18446744073709551616), by show b.length < _; omega⟩
  replace r2 : Blk W1 (w.heap.size + 1) 310 (val3 s) := by rw [hs]; exact r2
  obtain ⟨T, hT⟩ : ∃ T, T = soakE true s (fOf b) := ⟨_, rfl⟩
  have hTT : Hid (hSum b = (T.1, T.2.1)) := by show _ = _; rw [hT, hs]; rfl
  obtain ⟨L, hL⟩ : ∃ L, L = fOf b := ⟨_, rfl⟩
  have hL1 : L.length ≤ 1099511627776 := by rw [hL]; unfold fOf; simp [cnt]; omega
  have hL2 : ∀ x ∈ L, x < 18446744073709551616 := by
    intro x hx
    rw [hL] at hx
    simp only [fOf, List.mem_map] at hx
    obtain ⟨j, _, rfl⟩ := hx
    have := le_lt (ck b j) (fun y hy => hl y (List.mem_of_mem_drop (List.mem_of_mem_take hy)))
    have h7 : (ck b j).length ≤ 7 := by rw [ck_length]; unfold cLen; omega
    have := Nat.lt_of_lt_of_le this (Nat.pow_le_pow_right (by decide) h7)
    exact Nat.lt_trans this (by decide)
  rw [← hL] at cOf hT
  rw [r4] at cOf
  obtain ⟨B, hB⟩ : ∃ B, B = w.heap.size + 2 := ⟨_, rfl⟩
  obtain ⟨sb, hsb⟩ : ∃ sb, sb = w.heap.size + 1 := ⟨_, rfl⟩
  obtain ⟨rb, hrb⟩ : ∃ rb, rb = w.heap.size := ⟨_, rfl⟩
  rw [← hB] at cOf
  rw [← hsb] at r2
  have HT := Lib.hid hT
  have HL2 := Lib.hid hL2
  have HO := Lib.hid hok
  have HX := Lib.hid r3
  have R1 := Lib.hid r1
  have R2 := Lib.hid r2
  clear hT hL hs hL2 hok r1 r2 r3 hr hl
  go_wp2_with (go_at_call 220; refine cOf.mono ?_; clear cOf; rintro e W2 ⟨v, rfl, ho, hb⟩; obtain ⟨A2, c2, rfl, hleft⟩ := Left.of_own ho; clear ho)
  rw [← hsb, ← hrb]
  have hbx : Ext W1 W2 := Ext.of (by rw [r4, ← hB]; exact hb)
  have Z1 : Hid (Blk W2 rb 34 #[.int .u64 0, .int .u64 0]) := by
    show Blk _ _ _ _
    rw [hrb]; exact R1.out.below hbx.out R1.out.lt
  have Z2 : Hid (Blk W2 sb 310 (val3 s)) := Lib.hid (R2.out.below hbx.out R2.out.lt)
  have Z3 : Hid (Ext w W2) := Lib.hid (HX.out.trans hbx)
  have hsB : sb < B := by omega
  have hrB : rb < B := by omega
  have hrs : rb < sb := by omega
  have hws : w.heap.size ≤ rb := by omega
  clear hbx hb hW1 r4 R1 R2 HX hB hsb hrb
  go_loopg [4, 5] (L.length + 1) (fun m s4 s5 wr => ∃ (L : List Nat) (f : Bool) (s : Nat × Nat × Nat) (A : Option Addr) (c : Nat), s4 = .slice A L.length c ∧ s5 = .bool f ∧ m = L.length + (if f = true then 1 else 0) ∧ L.length ≤ 1099511627776 ∧ ok3 s ∧ (∀ x ∈ L, x < 18446744073709551616) ∧
    T = soakE f s L ∧ Left wr B A c L ∧ Blk wr sb 310 (val3 s) ∧ Blk wr rb 34 #[.int .u64 0, .int .u64 0] ∧ Ext w wr)
  case atStart => exact ⟨L, true, s, A2, c2, rfl, rfl, rfl, hL1, HO.out, HL2.out, HT.out, hleft, Z2.out, Z1.out, Z3.out⟩
  case round =>
    obtain ⟨L, f, s, A, c, rfl, rfl, hgk, hl1, hok, hl2, hT, hle, hb, hrb, hx⟩ := hrel
    clear HT HL2 HO Z1 Z2 Z3 hleft hL1
    rcases L with _ | ⟨x, _ | ⟨y, L⟩⟩
    · cases f with
      | true =>
        have hT' : T = mix s := by rw [hT]; rfl
        obtain ⟨m, hm⟩ : ∃ m, m = mix s := ⟨_, rfl⟩
        have hmo : ok3 m := by rw [hm]; exact mix_ok hok
        have mx := fun W => mix_any s hok W
        rw [← hm] at mx hT'
        unfold val3 at mx
        obtain ⟨A3, hA3, hl3⟩ := hle.tail 0 (Nat.le_refl _)
        have x2 : ∀ w, (Instr.slice 265 (.slice A 0 c) (some (.int .i64 0)) none none).run Tryz.prog w = .ok (.slice A3 0 c) w := fun w => by
          have e : sliced A 0 0 c 1 = .slice A3 0 c := by simpa using hA3
          rw [← e]; exact slice_l A 0 c 0 (Nat.zero_le _) w
        have kmin : min (2 : Int) 0 = 0 := rfl
        obtain ⟨s0, s1, s2, f0, f1, f2⟩ := arr_facts hb
        have HB := Lib.hid hb
        have HR := Lib.hid hrb
        have HX := Lib.hid hx
        have HT' := Lib.hid hT'
        have HO := Lib.hid hmo
        have HL := Lib.hid hl3
        have HGK := Lib.hid hgk
        have HL2 : Hid (∀ x ∈ ([] : List Nat), x < 18446744073709551616) := Lib.hid hl2
        simp only [List.length_nil]
        clear hT hb hrb hx hT' hm hmo hok hl2 hle hA3 hl3 hgk
        go_wp2
        refine wp_loop_rounds 1 ?_
        rw [rounds_succ]
        go_wp2_with (go_at_call 222; refine (mx _).mono ?_; clear mx; rintro e W5 ⟨rfl, hx5⟩; obtain ⟨s0, s1, s2, f0, f1, f2⟩ := arr_facts (HB.out.below hx5.out HB.out.lt))
        obtain ⟨W6, e6, b6, r6, l6, x6⟩ := three (sb := sb) HB.out HR.out HL.out HX.out hx5 hsB hrB hrs hws (.int .u64 (m.1 : Int)) (.int .u64 (m.2.1 : Int)) (.int .u64 (m.2.2 : Int))
        rw [e6]
        have B6 := Lib.hid b6
        have hgk := HGK.out
        clear e6 b6 s0 s1 s2 f0 f1 f2 hx5
        go_wp2
        go_roundg (([] : List Nat).length)
        case measure => simp at hgk ⊢; omega
        case rel => exact ⟨([] : List Nat), false, m, A3, c, rfl, rfl, rfl, hl1, HO.out, HL2.out, HT'.out, l6, B6.out, r6, x6⟩
      | false =>
        have hT' : T = s := by rw [hT]; rfl
        obtain ⟨s0, s1, s2, f0, f1, f2⟩ := arr_facts hb
        have hsp : ∀ W : World, (Instr.arrayAt 34 (.slice (some ⟨sb, 0, none⟩) 2 3)).run Tryz.prog W = .ok (.pointer (some ⟨sb, 0, none⟩)) W := fun _ => by kernel_rfl
        have q0 := hrb.cell 0
        have q1 := hrb.cell 1
        have p0 := hrb.frozen 0
        have p1 := hrb.frozen 1
        simp at q0 q1
        have HX := Lib.hid hx
        have HT' := Lib.hid hT'
        simp only [List.length_nil]
        clear hT hb hrb hx hT' hok hl2 hle hgk
        go_wp2
        refine bodyPost_ret (v := .agg #[.int .u64 (s.1 : Int), .int .u64 (s.2.1 : Int)]) (by simp [results, Tryz.results143, go_sem, q0, q1]) rfl ⟨by rw [hTT.out, HT'.out], ?_⟩
        exact (HX.out.setCell (p := ⟨rb, 0, none⟩) hws _).setCell (p := ⟨rb, 1, none⟩) hws _
    · have hT' : T = mix (addM bP s.1 x, s.2.1, s.2.2) := by rw [hT, soakE_cons, soak_one]
      obtain ⟨g, off, rfl⟩ := hle.some_ (by simp)
      obtain ⟨A3, hA3, hl3⟩ := hle.tail 1 (by simp)
      have hcx := hle.at_ (j := 0) (x := x) rfl
      rw [Nat.add_zero] at hcx
      have hc1 : 1 ≤ c := hle.1
      have hx64 : x < 18446744073709551616 := hl2 x (by simp)
      have cA := fun W => fAdd_any s.1 x hok.1 hx64 W
      obtain ⟨p, hp⟩ : ∃ p, p = addM bP s.1 x := ⟨_, rfl⟩
      have hp0 : p < bP := by rw [hp]; exact addM_lt' (by decide) _ _
      have hp1 : p < 18446744073709551616 := Nat.lt_trans hp0 (by decide)
      have hok' : ok3 (p, s.2.1, s.2.2) := ⟨hp1, hok.2⟩
      have mx := fun W => mix_any (p, s.2.1, s.2.2) hok' W
      rw [← hp] at cA hT'
      obtain ⟨m, hm⟩ : ∃ m, m = mix (p, s.2.1, s.2.2) := ⟨_, rfl⟩
      have hmo : ok3 m := by rw [hm]; exact mix_ok hok'
      rw [← hm] at mx hT'
      unfold val3 at mx
      have x2 : ∀ w, (Instr.slice 265 (.slice (some ⟨g, off, none⟩) 1 c) (some (.int .i64 1)) none none).run Tryz.prog w = .ok (.slice A3 0 (c - 1)) w := fun w => by
        have e : sliced (some ⟨g, off, none⟩) 1 1 c 1 = .slice A3 0 (c - 1) := by simpa using hA3
        rw [← e]; exact slice_l (some ⟨g, off, none⟩) 1 c 1 (Nat.le_refl _) w
      have kmin : min (2 : Int) 1 = 1 := rfl
      obtain ⟨s0, s1, s2, f0, f1, f2⟩ := arr_facts hb
      obtain ⟨W4, e4, b4, r4, l4, x4⟩ := one_set hb hrb hl3 hx hsB hrB hrs hws 0 (.int .u64 (p : Int))
      have HB : Hid (Blk W4 sb 310 #[.int .u64 (p : Int), .int .u64 (s.2.1 : Int), .int .u64 (s.2.2 : Int)]) := Lib.hid b4
      have HR := Lib.hid r4
      have HX := Lib.hid x4
      have HT' := Lib.hid hT'
      have HO := Lib.hid hmo
      have HL := Lib.hid l4
      have HGK := Lib.hid hgk
      have HL2 : Hid (∀ x ∈ ([] : List Nat), x < 18446744073709551616) := Lib.hid (by simp)
      have el : [x].length = 1 := rfl
      rw [el]
      have g4 := arr_facts HB.out
      obtain ⟨t0, t1, t2, -, -, -⟩ := g4
      clear hT hb hrb hx hT' hm hmo hok hl2 hle hA3 hl3 hgk b4 r4 l4 x4 hok' hp hx64 hp1 hp0 el hl1
      have hc1' : (1 : Int) ≤ c := by omega
      cases f <;> (
        go_wp2
        refine wp_loop_rounds 2 ?_
        rw [rounds_succ]
        go_wp2_with (go_at_call 221; refine (cA _).mono ?_; clear cA; rintro e w' ⟨rfl, rfl⟩)
        rw [rounds_succ]
        go_wp2_with (go_at_call 222; refine (mx _).mono ?_; clear mx; rintro e W5 ⟨rfl, hx5⟩; obtain ⟨s0, s1, s2, f0, f1, f2⟩ := arr_facts (HB.out.below hx5.out HB.out.lt))
        obtain ⟨W6, e6, b6, r6, l6, x6⟩ := three (sb := sb) HB.out HR.out HL.out HX.out hx5 hsB hrB hrs hws (.int .u64 (m.1 : Int)) (.int .u64 (m.2.1 : Int)) (.int .u64 (m.2.2 : Int))
        rw [e6]
        have B6 := Lib.hid b6
        have hgk := HGK.out
        clear e6 b6 s0 s1 s2 f0 f1 f2 hx5
        go_wp2
        go_roundg 0
        case measure => simp at hgk; omega
        case rel => exact ⟨[], false, m, A3, c - 1, rfl, rfl, rfl, by simp, HO.out, HL2.out, HT'.out, l6, B6.out, r6, x6⟩)
    · have hT' : T = soak (mix (addM bP s.1 x, addM bP s.2.1 y, s.2.2)) L := by rw [hT, soakE_cons, soak_two]
      obtain ⟨g, off, rfl⟩ := hle.some_ (by simp)
      obtain ⟨A3, hA3, hl3⟩ := hle.tail 2 (by simp)
      have hcx := hle.at_ (j := 0) (x := x) rfl
      rw [Nat.add_zero] at hcx
      obtain ⟨n, hn⟩ : ∃ n, n = (x :: y :: L).length := ⟨_, rfl⟩
      have hnL : L.length = n - 2 := by rw [hn]; simp
      have hn2 : 2 ≤ n := by rw [hn]; simp
      have hc1 : n ≤ c := by rw [hn]; exact hle.1
      have hnb : n ≤ 1099511627776 := by rw [hn]; exact hl1
      have hx64 : x < 18446744073709551616 := hl2 x (by simp)
      have hy64 : y < 18446744073709551616 := hl2 y (by simp)
      have cA := fun W => fAdd_any s.1 x hok.1 hx64 W
      have cB := fun W => fAdd_any s.2.1 y hok.2.1 hy64 W
      obtain ⟨p, hp⟩ : ∃ p, p = addM bP s.1 x := ⟨_, rfl⟩
      obtain ⟨q, hq⟩ : ∃ q, q = addM bP s.2.1 y := ⟨_, rfl⟩
      have hp0 : p < bP := by rw [hp]; exact addM_lt' (by decide) _ _
      have hq0 : q < bP := by rw [hq]; exact addM_lt' (by decide) _ _
      have hok' : ok3 (p, q, s.2.2) := ⟨Nat.lt_trans hp0 (by decide), Nat.lt_trans hq0 (by decide), hok.2.2⟩
      have mx := fun W => mix_any (p, q, s.2.2) hok' W
      rw [← hp] at cA hT'
      rw [← hq] at cB hT'
      obtain ⟨m, hm⟩ : ∃ m, m = mix (p, q, s.2.2) := ⟨_, rfl⟩
      have hmo : ok3 m := by rw [hm]; exact mix_ok hok'
      rw [← hm] at mx hT'
      unfold val3 at mx
      rw [← hn] at hA3 hgk ⊢
      have x2 : ∀ w, (Instr.slice 265 (.slice (some ⟨g, off, none⟩) n c) (some (.int .i64 2)) none none).run Tryz.prog w = .ok (.slice A3 L.length (c - 2)) w := fun w => by
        have e : sliced (some ⟨g, off, none⟩) 2 n c 1 = .slice A3 L.length (c - 2) := hA3
        rw [← e]; exact slice_l (some ⟨g, off, none⟩) n c 2 hn2 w
      have kmin : min (2 : Int) (n : Int) = 2 := by omega
      obtain ⟨s0, s1, s2, f0, f1, f2⟩ := arr_facts hb
      obtain ⟨W3, e3, b3, r3, l3, x3⟩ := one_set hb hrb hle hx hsB hrB hrs hws 0 (.int .u64 (p : Int))
      have l3' := hl3.set (p := ⟨sb, 0, none⟩) hsB (.int .u64 (p : Int))
      rw [e3] at l3'
      obtain ⟨W4, e4, b4, r4, l4, x4⟩ := one_set b3 r3 l3' x3 hsB hrB hrs hws 1 (.int .u64 (q : Int))
      have hcy := l3.at_ (j := 1) (x := y) rfl
      have HB : Hid (Blk W4 sb 310 #[.int .u64 (p : Int), .int .u64 (q : Int), .int .u64 (s.2.2 : Int)]) := Lib.hid b4
      have HB3 : Blk W3 sb 310 #[.int .u64 (p : Int), .int .u64 (s.2.1 : Int), .int .u64 (s.2.2 : Int)] := b3
      obtain ⟨u0, u1, u2, v0, v1, v2⟩ := arr_facts HB3
      have HR := Lib.hid r4
      have HX := Lib.hid x4
      have HT' := Lib.hid (show T = soakE false m L by rw [hT', soakE_false])
      have HO := Lib.hid hmo
      have HL : Hid (Left W4 B A3 (c - 2) L) := Lib.hid l4
      have HGK := Lib.hid hgk
      have HL2 : Hid (∀ x ∈ L, x < 18446744073709551616) := Lib.hid (fun z hz => hl2 z (by simp [hz]))
      obtain ⟨t0, t1, t2, -, -, -⟩ := arr_facts HB.out
      clear hT hb hrb hx hT' hm hmo hok hl2 hle hA3 hl3 hgk b4 r4 l4 x4 hok' hp hx64 hl1 hq hp0 hq0 hy64 b3 r3 l3 x3 l3' HB3 hn
      have HNL := Lib.hid hnL
      clear hnL
      have hn2' : (2 : Int) ≤ n := by omega
      have hc1' : (n : Int) ≤ c := by omega
      cases f <;> (
        go_wp2
        refine wp_loop_rounds 3 ?_
        rw [rounds_succ]
        go_wp2_with (go_at_call 221; refine (cA _).mono ?_; clear cA; rintro e w' ⟨rfl, rfl⟩)
        rw [rounds_succ]
        go_wp2_with (go_at_call 221; refine (cB _).mono ?_; clear cB; rintro e w' ⟨rfl, rfl⟩)
        rw [rounds_succ]
        go_wp2_with (go_at_call 222; refine (mx _).mono ?_; clear mx; rintro e W5 ⟨rfl, hx5⟩; obtain ⟨s0, s1, s2, f0, f1, f2⟩ := arr_facts (HB.out.below hx5.out HB.out.lt))
        obtain ⟨W6, e6, b6, r6, l6, x6⟩ := three (sb := sb) HB.out HR.out HL.out HX.out hx5 hsB hrB hrs hws (.int .u64 (m.1 : Int)) (.int .u64 (m.2.1 : Int)) (.int .u64 (m.2.2 : Int))
        rw [e6]
        have B6 := Lib.hid b6
        have hgk := HGK.out
        have hnL := HNL.out
        clear e6 b6 s0 s1 s2 f0 f1 f2 hx5
        go_wp2
        go_roundg (L.length)
        case measure => simp at hgk; omega
        case rel => exact ⟨L, false, m, A3, c - 2, rfl, rfl, rfl, by have := HNL.out; omega, HO.out, HL2.out, HT'.out, l6, B6.out, r6, x6⟩)
end Go.Proofs.YtfpmfegmehbfbaaGreatDoor
