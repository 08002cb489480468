/- Parts of the proofs, put together: Or33, Or34, OrLit, Or35. -/
import Derived.MapKept
import Derived.Test.YtfpmfegmehbfbaaGreatDoorD30
/- The door, walked: Bytes$1. -/
namespace Go.Proofs.YtfpmfegmehbfbaaGreatDoor
set_option linter.unusedVariables false
set_option linter.unusedSimpArgs false
set_option linter.unusedSimpArgs false
open Go.RowKit Go.Shelf Go.Maps

/-! ### a world that is as it was but for a cell and a row of one's own -/
structure ButV (g : Nat) (v : Value) (w w' : World) : Prop where
  os : w'.os = w.os
  tape : w'.tape = w.tape
  output : w'.output = w.output
  size : w.heap.size ≤ w'.heap.size
  block : ∀ k, k < w.heap.size → k ≠ g → v.ownBlock ≠ some k → w'.heap[k]? = w.heap[k]?
/-- The row of one's own is the old one, or a new one. -/
def follows (v v' : Value) (w : World) : Prop := v'.ownBlock = v.ownBlock ∨ ∃ k, v'.ownBlock = some k ∧ w.heap.size ≤ k
section
variable {g : Nat} {v v1 v2 : Value} {w w1 w2 : World}
theorem ButV.refl (g : Nat) (v : Value) (w : World) : ButV g v w w := ⟨rfl, rfl, rfl, Nat.le_refl _, fun _ _ _ _ => rfl⟩
theorem follows.refl (v : Value) (w : World) : follows v v w := .inl rfl
theorem follows.trans (h : follows v v1 w) (k : follows v1 v2 w1) (hs : w.heap.size ≤ w1.heap.size) : follows v v2 w := by
  rcases k with e | ⟨k, e, hk⟩
  · rcases h with e' | ⟨k, e', hk⟩
    · exact .inl (e.trans e')
    · exact .inr ⟨k, e.trans e', hk⟩
  · exact .inr ⟨k, e, by omega⟩
theorem ButV.ext (h : ButV g v w w1) (x : Ext w1 w2) : ButV g v w w2 := ⟨x.out.os.trans h.os, x.out.tape.trans h.tape, x.out.output.trans h.output, Nat.le_trans h.size x.size, fun k hk h1 h2 => (x.out.block k (Nat.lt_of_lt_of_le hk h.size)).trans (h.block k hk h1 h2)⟩
theorem ButV.set (h : ButV g v w w1) (i : Nat) (u : Value) : ButV g v w (w1.setCell ⟨g, i, none⟩ u) :=
  ⟨h.os, h.tape, h.output, Nat.le_trans h.size (KeepsWalks.setCell w1 ⟨g, i, none⟩ u).size, fun k hk h1 h2 => (Below.heap_setCell w1 ⟨g, i, none⟩ u k h1).trans (h.block k hk h1 h2)⟩
theorem ButV.grown (h : ButV g v w w1) (hf : follows v v1 w) (x : w1.grownBy w2 v1.ownBlock) : ButV g v w w2 :=
  ⟨x.os.trans h.os, x.tape.trans h.tape, x.output.trans h.output, Nat.le_trans h.size x.size, fun k hk h1 h2 => (x.block k (Nat.lt_of_lt_of_le hk h.size) (fun e => by
    rcases hf with e' | ⟨k', e', hk'⟩
    · exact h2 (by rw [← e', e])
    · rw [e'] at e; cases e; omega)).trans (h.block k hk h1 h2)⟩
theorem ButV.blk (h : ButV g v w w1) {k : Nat} {T : TypeId} {cs : Array Value} (hb : Blk w k T cs) (h1 : k ≠ g) (h2 : v.ownBlock ≠ some k) : Blk w1 k T cs := (h.block k hb.lt h1 h2).trans hb
/-- Nothing but the cell, for who holds the row for one's own: what lies below. -/
theorem ButV.below (h : ButV g v w w1) {B : Nat} (hB : B ≤ w.heap.size) (hg : B ≤ g) (hv : ∀ k, v.ownBlock = some k → B ≤ k) : Below B w w1 :=
  ⟨h.os, h.tape, h.output, h.size, fun k hk => h.block k (by omega) (by omega) (fun e => by have := hv k e; omega)⟩
end

def longPost (g B : Nat) (v : Value) (l : List Nat) (w : World) (e : Ending) (w' : World) : Prop :=
  e = .returned (.tuple #[]) ∧ ∃ v', Blk w' g 22 #[v'] ∧ w'.ownsRow B 5 1 v' l.length (bv l) ∧ follows v v' w ∧ ButV g v w w'
set_option maxRecDepth 100000 in
set_option maxHeartbeats 4000000 in
theorem long_any (g B : Nat) (n : Nat) (v : Value) (l : List Nat) (w : World) (hg : Blk w g 22 #[v]) (ho : w.ownsRow B 5 1 v l.length (bv l)) (hB : B ≤ w.heap.size) (hl : l.length ≤ 1099511627776) :
    Calls Tryz.prog 172 #[.int .u64 n, .pointer (some ⟨g, 0, none⟩)] w (longPost g B v (l ++ be n 8) w) := by
  obtain ⟨i0, hi, hz0, hz1, hz2⟩ := info_parts Tryz.infoU8
  have HG := Lib.hid hg
  have HO := Lib.hid ho
  have HB := Lib.hid hB
  have HL := Lib.hid hl
  clear hg ho hB hl
  go_enter Tryz.func172, Tryz.ntmps172
  go_wp2
  go_loopg [3] 8 (fun m s3 wr => ∃ (j : Nat) (v' : Value), j + m = 8 ∧ s3 = .int .i64 ((56 : Int) - 8 * j) ∧ Blk wr g 22 #[v'] ∧ wr.ownsRow B 5 1 v' (l ++ beN n 8 j).length (bv (l ++ beN n 8 j)) ∧ follows v v' w ∧ ButV g v w wr)
  case atStart => exact ⟨0, v, rfl, int_congr (by omega), HG.out, by simpa [beN] using HO.out, follows.refl _ _, ButV.refl _ _ _⟩
  case round =>
    obtain ⟨j, v', hj, rfl, hg, ho, hf, hb⟩ := hrel
    by_cases h : j < 8
    · obtain ⟨i, hij⟩ : ∃ i : Nat, (56 : Int) - 8 * j = i := ⟨56 - 8 * j, by omega⟩
      rw [hij]
      have hi7 : (i : Int) ≤ 56 := by omega
      obtain ⟨q, hq⟩ : ∃ q, q = n / 2 ^ i := ⟨_, rfl⟩
      have k1 : (n : Int) / 2 ^ i = (q : Int) := by rw [hq]; simp
      obtain ⟨r, hr⟩ : ∃ r, r = q % 256 := ⟨_, rfl⟩
      have k2 : IntKind.u8.wrap (q : Int) = (r : Int) := by rw [IntKind.wrap_u8, hr]; omega
      have hrb : r = n / 2 ^ (8 * (8 - 1 - j)) % 256 := by rw [hr, hq]; congr 3; omega
      have hlen : (l ++ beN n 8 j).length ≤ 1099511627784 := by have := HL.out; rw [List.length_append, beN_length]; omega
      obtain ⟨L, hLL⟩ : ∃ L, L = l ++ beN n 8 j := ⟨_, rfl⟩
      rw [← hLL] at ho hlen
      have HLL := Lib.hid hLL
      have HR := Lib.hid hrb
      have HJ := Lib.hid hj
      have HI := Lib.hid hij
      have HLN := Lib.hid hlen
      have HG2 := Lib.hid hg
      have HO2 := Lib.hid ho
      have HF := Lib.hid hf
      have HV := Lib.hid hb
      have hS1 := fun (W : World) (x : Ext wr W) => (ext_blk x hg).cell 0
      clear hLL hq hr hrb hj hij hlen hg ho hf hb
      go_upto_region 3 with (fail)
      refine E_start (n := 8) (ls := #[false, false, false, false, false, false, false, false]) (fun w' => w'.cell? ⟨g, 0, none⟩ = some v') 7 (by kernel_rfl) (by kernel_rfl) (by kernel_rfl) (hS1 _ (Ext.refl wr).drew) (fun hHeld => ?_)
      refine E_take (i := 0) (some 8) (ls' := #[true, false, false, false, false, false, false, false]) rfl rfl (by kernel_rfl) (by kernel_rfl) (by kernel_rfl) (by kernel_rfl) (by kernel_rfl) (by rfl) (v := ?_) ?_ hHeld ?_
      rotate_left 1
      · intro w hSw; (try dsimp only at hSw); go_simp; try with_reducible rfl
      try simp only [Act.put, List.setIfInBounds_toArray, List.set_cons_zero, List.set_cons_succ]
      refine E_take (i := 1) (some 9) (ls' := #[true, true, false, false, false, false, false, false]) rfl rfl (by kernel_rfl) (by kernel_rfl) (by kernel_rfl) (by kernel_rfl) (by kernel_rfl) (by rfl) (v := ?_) ?_ hHeld ?_
      rotate_left 1
      · intro w hSw; (try dsimp only at hSw); go_simp; try with_reducible rfl
      try simp only [Act.put, List.setIfInBounds_toArray, List.set_cons_zero, List.set_cons_succ]
      refine E_take (i := 2) (some 10) (ls' := #[true, true, true, false, false, false, false, false]) rfl rfl (by kernel_rfl) (by kernel_rfl) (by kernel_rfl) (by kernel_rfl) (by kernel_rfl) (by rfl) (v := ?_) ?_ hHeld ?_
      rotate_left 1
      · intro w hSw; (try dsimp only at hSw); go_simp; try with_reducible rfl
      try simp only [Act.put, List.setIfInBounds_toArray, List.set_cons_zero, List.set_cons_succ]
      refine E_take (i := 3) (some 11) (ls' := #[true, true, true, true, false, false, false, false]) rfl rfl (by kernel_rfl) (by kernel_rfl) (by kernel_rfl) (by kernel_rfl) (by kernel_rfl) (by rfl) (v := ?_) ?_ hHeld ?_
      rotate_left 1
      · intro w hSw; (try dsimp only at hSw); go_simp; try with_reducible rfl
      try simp only [Act.put, List.setIfInBounds_toArray, List.set_cons_zero, List.set_cons_succ]
      refine E_take (i := 4) (some 12) (ls' := #[true, true, true, true, true, false, false, false]) rfl rfl (by kernel_rfl) (by kernel_rfl) (by kernel_rfl) (by kernel_rfl) (by kernel_rfl) (by rfl) (v := ?_) ?_ hHeld ?_
      rotate_left 1
      · intro w hSw; (try dsimp only at hSw); go_simp; try with_reducible rfl
      try simp only [Act.put, List.setIfInBounds_toArray, List.set_cons_zero, List.set_cons_succ]
      refine E_one (i := 5) (ls' := #[true, true, true, true, true, true, false, false]) rfl (by kernel_rfl) (by kernel_rfl) (by rfl) (fun K hK => ?_)
      go_simp
      have hHeld2 := hS1 _ ((Ext.refl wr).drew.alloc (.cells #[.int .u8 (r : Int)] 5))
      clear hHeld
      have hHeld := hHeld2
      clear hHeld2
      refine hK _ _ (fun _ => hHeld) ?_
      clear hK K
      try simp only [Act.put, List.setIfInBounds_toArray, List.set_cons_zero, List.set_cons_succ]
      refine E_one (i := 6) (ls' := #[true, true, true, true, true, true, true, false]) rfl (by kernel_rfl) (by kernel_rfl) (by rfl) (fun K hK => ?_)
      clear hHeld
      refine wp_append_any _ (.tmp 8) (.tmp 13) 22 rfl B 5 i0 (.int .u8 0) 1 1 Tryz.underlying22 hi hz0 hz1 hz2 rfl (by decide) v' L.length (bv L) rfl ((HO2.out.drew).alloc _) _ (some ⟨wr.heap.size, 0, none⟩) 1 1 [.int .u8 (r : Int)] rfl (reads_newL wr.drew _ _) (by simp [Value.oneCell']) (by have := HLN.out; simp only [maxLen]; omega) (by have := HLN.out; omega) (by have := HV.out.size; have := HB.out; simp; omega) ?_
      intro v9 w9 hown9 hg9 hfo9
      obtain ⟨A9, c9, rfl, hc9, -⟩ := own_slice2 hown9
      have X9 : Ext wr (wr.drew.alloc (.cells #[.int .u8 (r : Int)] 5)) := (Ext.refl wr).drew.alloc _
      have b9 := Blk.grown (ext_blk X9 HG2.out) hg9 (fun e => own_blk_ne HO2.out HG2.out (by decide) e.symm)
      have hH9 := b9.cell 0
      have f9 := b9.frozen 0
      have HB9 := Lib.hid b9
      have HF9 : Hid (follows v (.slice A9 (L.length + 1) c9) w) := Lib.hid (HF.out.trans (w1 := wr) (hfo9.imp id (fun e => ⟨_, e, by simp⟩)) HV.out.size)
      have HV9 := Lib.hid ((HV.out.ext X9).grown HF.out hg9)
      have HO9 := Lib.hid hown9
      have hHeld := hH9
      clear b9 hown9 hg9 hfo9 X9
      have hHeld2 := hH9
      clear hHeld
      have hHeld := hHeld2
      clear hHeld2
      refine hK _ _ (fun _ => hHeld) ?_
      clear hK K
      try simp only [Act.put, List.setIfInBounds_toArray, List.set_cons_zero, List.set_cons_succ]
      refine E_one (i := 7) (ls' := #[true, true, true, true, true, true, true, true]) rfl (by kernel_rfl) (by kernel_rfl) (by rfl) (fun K hK => ?_)
      go_simp
      refine hK _ _ (fun h => absurd rfl h) ?_
      clear hK K
      try simp only [Act.put, List.setIfInBounds_toArray, List.set_cons_zero, List.set_cons_succ]
      refine E_done (by kernel_rfl) ?_
      clear hHeld f9 hH9 hS1
      have HJJ := HJ.out
      have HII := HI.out
      go_wp2
      go_roundg (gk - 1)
      case measure => omega
      case rel =>
        refine ⟨j + 1, .slice A9 (L.length + 1) c9, by omega, int_congr (by omega), HB9.out.set_ 0 _, ?_, HF9.out, HV9.out.set 0 _⟩
        have e : l ++ beN n 8 (j + 1) = L ++ [r] := by rw [beN_succ, HLL.out, List.append_assoc, HR.out]
        rw [e, List.length_append, bv_append]
        exact own_setT HO9.out HB9.out (by decide) 0 _
    · obtain rfl : j = 8 := by omega
      have e : (56 : Int) - 8 * (8 : Nat) = -8 := by omega
      rw [e]
      have HO2 := Lib.hid ho
      have HG2 := Lib.hid hg
      have HV := Lib.hid hb
      have HF := Lib.hid hf
      clear ho hg hf hb hi hz0 hz1 hz2 hj
      go_wp2
      (try simp only [Exit.inBlock, Exit.then])
      refine bodyPost_end (results_none rfl _ _ _) rfl ?_
      exact ⟨rfl, v', HG2.out, HO2.out, HF.out, HV.out⟩
end Go.Proofs.YtfpmfegmehbfbaaGreatDoor

/- The door, walked: Bytes. -/
namespace Go.Proofs.YtfpmfegmehbfbaaGreatDoor
set_option linter.unusedVariables false
set_option linter.unusedSimpArgs false
set_option linter.unusedSimpArgs false
open Go.RowKit Go.Shelf Go.Maps

theorem be_big (n : Nat) : be n 8 = bigD 8 n := by
  simp [be, beN, bigD, List.range_succ, Nat.div_div_eq_div_mul]
theorem namesB_append : ∀ (a b : List ByteArray), namesB (a ++ b) = namesB a ++ namesB b
  | [], b => rfl
  | s :: a, b => by simp [namesB, namesB_append a b]
theorem fm_len8 : ∀ l : List Nat, (l.flatMap (bigD 8)).length = 8 * l.length
  | [] => rfl
  | a :: l => by rw [List.flatMap_cons, List.length_append, fm_len8 l, bigD_length, List.length_cons]; omega
theorem namesB_len : ∀ {l : List ByteArray}, (∀ s ∈ l, s.size ≤ 64) → (namesB l).length ≤ 72 * l.length
  | [], _ => by simp [namesB]
  | s :: l, h => by
    have := namesB_len (l := l) fun x hx => h x (by simp [hx])
    have h0 := h s (by simp)
    have e1 : (txN s).length = s.size := strN_length s
    simp only [namesB, List.length_append, List.length_cons, eight_length, e1]
    omega
/-- The bytes so far, in the cell. -/
structure BSt (w W0 : World) (l : List Nat) (wr : World) : Prop where
  row : ∃ v, Blk wr (w.heap.size + 1) 22 #[v] ∧ wr.ownsRow (w.heap.size + 2) 5 1 v l.length (bv l)
  below : Below (w.heap.size + 1) W0 wr
theorem long_st (w W0 : World) (l : List Nat) (n : Nat) (wr : World) (h0 : w.heap.size + 2 ≤ W0.heap.size) (h : BSt w W0 l wr) (hl : l.length ≤ 1099511627776) :
    Calls Tryz.prog 172 #[.int .u64 n, .pointer (some ⟨w.heap.size + 1, 0, none⟩)] wr fun e w' => e = .returned (.tuple #[]) ∧ BSt w W0 (l ++ bigD 8 n) w' ∧ ∀ k T cs, Blk wr k T cs → 5 ≠ T → k ≠ w.heap.size + 1 → Blk w' k T cs := by
  obtain ⟨⟨v, hb, ho⟩, hw⟩ := h
  refine (long_any (w.heap.size + 1) (w.heap.size + 2) n v l wr hb ho (by have := hw.size; omega) hl).mono ?_
  rintro e w' ⟨rfl, v', b', o', hf, hv⟩
  rw [be_big] at o'
  refine ⟨rfl, ⟨⟨v', b', o'⟩, hw.trans (hv.below (by have := hw.size; omega) (Nat.le_refl _) (fun k hk => by have := own_out ho k hk; omega))⟩, fun k T cs hk hT hne => hv.blk hk hne (own_blk_ne ho hk hT)⟩
theorem uv_at {W : World} {g : Nat} {T : TypeId} {l : List Nat} (h : Blk W g T (uv l).toArray) {j : Nat} {x : Nat} (hj : l[j]? = some x) : W.cell? ⟨g, j, none⟩ = some (.int .u64 (x : Int)) := by
  rw [h.cell j]; simp [uv, hj]
theorem iv_cell {W : World} {g : Nat} {T : TypeId} {l : List Int} (h : Blk W g T (iv l).toArray) {j : Nat} {x : Int} (hj : l[j]? = some x) : W.cell? ⟨g, j, none⟩ = some (.int .i64 x) := by
  rw [h.cell j]; simp [iv, hj]
def bytR (q : QueR) : List Nat := if byteE q = 0 then byteL q else []
def bytPost (q : QueR) (w : World) (e : Ending) (w' : World) : Prop := ∃ v, e = .returned (.tuple #[v, .int .i64 ((byteE q : Nat) : Int)]) ∧ w'.ownsRow w.heap.size 5 1 v (bytR q).length (bv (bytR q)) ∧ Ext w w'
theorem bytPost_no {q : QueR} {w w' : World} (h : ¬ (headP q ∧ ∀ s ∈ q.names, s.size ≤ 64)) (x : Ext w w') : bytPost q w (.returned (.tuple #[.slice none 0 0, .int .i64 1])) w' := by
  have h1 : byteE q = 1 := by unfold byteE; rw [if_neg h]
  have h2 : bytR q = [] := by unfold bytR; rw [h1]; rfl
  exact ⟨.slice none 0 0, by rw [h1]; rfl, by rw [h2]; exact ⟨rfl, .inl ⟨rfl, rfl⟩⟩, x⟩
theorem bytes_head_no {q : QueR} (h : ¬ (1 ≤ q.kind ∧ q.kind ≤ 5 ∧ q.names.length ≤ 8)) : ¬ (headP q ∧ ∀ s ∈ q.names, s.size ≤ 64) := fun k => h ⟨k.1.1, k.1.2.1, k.1.2.2.1⟩
theorem BSt.ext {w W0 : World} (x : Ext w W0) (h0 : w.heap.size + 2 ≤ W0.heap.size) {l : List Nat} {wr : World} (h : BSt w W0 l wr) : Ext w wr := Ext.of (x.out.trans ⟨h.below.os, h.below.tape, h.below.output, h.below.size, fun k hk => h.below.block k (by omega)⟩)
set_option maxRecDepth 100000 in
set_option maxHeartbeats 8000000 in
theorem oBytes_any (q : QueR) (A : Option Addr) (c : Nat) (w : World) (hq : QueW w w.heap.size q A c) : Calls Tryz.prog 91 #[queV q A c] w (bytPost q w) := by
  unfold queV
  obtain ⟨W0, e0, bq, bb, x0, s0⟩ := startP w #[.int .i64 q.kind, .int .i64 q.acc, .int .i64 q.nonce, .int .u64 (q.key : Int), .slice A q.names.length c, .int .i64 q.life, .int .i64 q.id, .int .u64 (q.e : Int), .int .u64 (q.s : Int)] #[.slice none 0 0] 98 22
  have HQ := Lib.hid hq
  have HX := Lib.hid x0
  have HS0 := Lib.hid s0
  have HBQ := Lib.hid bq
  have HBB := Lib.hid bb
  have hnl : (q.names.length : Int) ≤ 1099511627776 := by have := hq.nl; omega
  obtain ⟨k0, k1, k2, k3, k4, k5, k6, k7, k8⟩ := arr9 bq
  have c0 := bb.cell 0
  have f0 := bb.frozen 0
  clear hq x0 s0 bq bb
  go_enter Tryz.func91, Tryz.ntmps91
  go_upto_region 2 with (fail)
  try rw [e0]
  clear e0
  by_cases h1 : 1 ≤ q.kind ∧ q.kind ≤ 5 ∧ q.names.length ≤ 8
  case neg =>
    have hno := Lib.hid (bytes_head_no h1)
    have key : ∀ (d1 d2 d3 : Bool), decide (q.kind < 1) = d1 → decide (5 < q.kind) = d2 → decide ((8 : Int) < (q.names.length : Int)) = d3 → (d1 || d2 || d3) = true := by
      intro d1 d2 d3 e1 e2 e3
      subst e1 e2 e3
      simp
      omega
    cases e1 : decide (q.kind < 1) <;> cases e2 : decide (5 < q.kind) <;> cases e3 : decide ((8 : Int) < (q.names.length : Int))
    all_goals (try (have := key _ _ _ e1 e2 e3; cases this; done))
    all_goals
      clear key h1
      go_wp2
      refine bodyPost_ret (v := .tuple #[.slice none 0 0, .int .i64 1]) (by simp [results, Tryz.results91, go_sem, c0]) rfl (bytPost_no hno.out (HX.out.setCell (p := ⟨w.heap.size + 1, 0, none⟩) (Nat.le_succ _) _))
  have d1 : decide (q.kind < 1) = false := decide_eq_false (by omega)
  have d2 : decide (5 < q.kind) = false := decide_eq_false (by omega)
  have d3 : decide ((8 : Int) < (q.names.length : Int)) = false := decide_eq_false (by omega)
  have H1 := Lib.hid h1
  clear h1
  go_upto_region 4 with (fail)
  go_upto_if 5 with (fail)
  obtain ⟨W1, e1⟩ : ∃ W, W0.alloc (.cells #[.int .i64 q.acc, .int .i64 q.nonce, .int .i64 q.life, .int .i64 q.id] 3) = W := ⟨_, rfl⟩
  try rw [e1]
  have X1 : Ext W0 W1 := by rw [← e1]; exact (Ext.refl W0).alloc _
  have b4 : Blk W1 W0.heap.size 3 (iv [q.acc, q.nonce, q.life, q.id]).toArray := by rw [← e1]; exact Blk.new _ _ _
  clear e1 k0 k1 k2 k3 k4 k5 k6 k7 k8 c0 f0 d1 d2 d3
  have HX1 := Lib.hid X1
  have HB4 := Lib.hid b4
  clear X1 b4
  go_loopg [3, 36] 4 (fun g s3 s36 wr => ∃ j : Nat, j + g = 4 ∧ s3 = .int .i64 0 ∧ s36 = .int .i64 j ∧ wr = W1 ∧ ∀ (i : Nat) (x : Int), i < j → [q.acc, q.nonce, q.life, q.id][i]? = some x → numP x)
  case atStart => exact ⟨0, rfl, rfl, rfl, rfl, fun i x h => by omega⟩
  case round =>
    obtain ⟨j, hj, rfl, rfl, hw, hok⟩ := hrel
    obtain rfl : W1 = wr := hw.symm
    by_cases hjl : j < 4
    · obtain ⟨x, hx⟩ : ∃ x, [q.acc, q.nonce, q.life, q.id][j]? = some x := ⟨_, List.getElem?_eq_getElem (by simpa using hjl)⟩
      have p1 := iv_cell HB4.out hx
      have hjb : (j : Int) < 4 := by omega
      by_cases hn : numP x
      · have HOK : Hid (∀ (i : Nat) (y : Int), i < j + 1 → [q.acc, q.nonce, q.life, q.id][i]? = some y → numP y) := Lib.hid fun i y hi hy => by
          by_cases hij : i < j
          · exact hok i y hij hy
          · obtain rfl : i = j := by omega
            rw [hx] at hy; cases hy; exact hn
        have cN := onum_any x
        rw [show decide (numP x) = true from decide_eq_true hn] at cN
        have HJ := Lib.hid hj
        clear hok hx hn hj
        go_wp2_with (go_at_call 93; refine (cN _).mono ?_; clear cN; rintro e w5 ⟨rfl, rfl⟩)
        have hj := HJ.out
        go_roundg (gk - 1)
        case measure => omega
        case rel => exact ⟨j + 1, by omega, rfl, int_congr (by omega), rfl, HOK.out⟩
      · have hno : Hid (¬ (headP q ∧ ∀ s ∈ q.names, s.size ≤ 64)) := Lib.hid fun h => hn (by
          obtain ⟨⟨_, _, _, h1, h2, h3, h4⟩, _⟩ := h
          match j, hx with
          | 0, e => simp at e; exact e ▸ h1
          | 1, e => simp at e; exact e ▸ h2
          | 2, e => simp at e; exact e ▸ h3
          | 3, e => simp at e; exact e ▸ h4)
        have cN := onum_any x
        rw [show decide (numP x) = false from decide_eq_false hn] at cN
        have bb := ext_blk HX1.out HBB.out
        have c0 := bb.cell 0
        have f0 := bb.frozen 0
        clear hok hx hn hj bb
        go_wp2_with (go_at_call 93; refine (cN _).mono ?_; clear cN; rintro e w5 ⟨rfl, rfl⟩)
        refine bodyPost_ret (v := .tuple #[.slice none 0 0, .int .i64 1]) (by simp [results, Tryz.results91, go_sem, c0]) rfl (bytPost_no hno.out ((HX.out.trans HX1.out).setCell (p := ⟨w.heap.size + 1, 0, none⟩) (Nat.le_succ _) _))
    · obtain rfl : j = 4 := by omega
      have hh : headP q := ⟨H1.out.1, H1.out.2.1, H1.out.2.2, hok 0 _ (by omega) rfl, hok 1 _ (by omega) rfl, hok 2 _ (by omega) rfl, hok 3 _ (by omega) rfl⟩
      clear hok hj hjl
      obtain ⟨z1, z2, z3, z4, z5, z6, z7⟩ := id hh
      obtain ⟨nk, hk⟩ : ∃ k : Nat, q.kind = k := ⟨q.kind.toNat, by omega⟩
      obtain ⟨na, ha⟩ : ∃ k : Nat, q.acc = k := ⟨q.acc.toNat, by have := z4.1; omega⟩
      obtain ⟨nn, hn⟩ : ∃ k : Nat, q.nonce = k := ⟨q.nonce.toNat, by have := z5.1; omega⟩
      obtain ⟨nf, hf⟩ : ∃ k : Nat, q.life = k := ⟨q.life.toNat, by have := z6.1; omega⟩
      obtain ⟨ni, hi⟩ : ∃ k : Nat, q.id = k := ⟨q.id.toNat, by have := z7.1; omega⟩
      have w1 : IntKind.u64.wrap (nk : Int) = (nk : Int) := by rw [IntKind.wrap_u64]; omega
      have w2 : IntKind.u64.wrap (na : Int) = (na : Int) := by rw [IntKind.wrap_u64]; have := z4.2; omega
      have w3 : IntKind.u64.wrap (nn : Int) = (nn : Int) := by rw [IntKind.wrap_u64]; have := z5.2; omega
      have w4 : IntKind.u64.wrap (nf : Int) = (nf : Int) := by rw [IntKind.wrap_u64]; have := z6.2; omega
      have w5 : IntKind.u64.wrap (ni : Int) = (ni : Int) := by rw [IntKind.wrap_u64]; have := z7.2; omega
      have w6 : IntKind.u64.wrap (q.names.length : Int) = (q.names.length : Int) := by rw [IntKind.wrap_u64]; omega
      have bq := ext_blk HX1.out HBQ.out
      obtain ⟨k0, k1, k2, k3, k4, k5, k6, k7, k8⟩ := arr9 bq
      rw [hk] at k0
      rw [ha] at k1
      rw [hn] at k2
      rw [hf] at k5
      rw [hi] at k6
      have HK := Lib.hid (And.intro hk (And.intro ha (And.intro hn (And.intro hf hi))))
      have HH := Lib.hid hh
      clear hh z1 z2 z3 z4 z5 z6 z7 hk ha hn hf hi bq
      go_upto_region 11 with (fail)
      obtain ⟨uvl, huvl⟩ : ∃ l, l = [nk, na, nn, q.key, nf, ni, q.names.length] := ⟨_, rfl⟩
      have hul : uvl.length = 7 := by rw [huvl]; rfl
      obtain ⟨W2, e2⟩ : ∃ W, W1.alloc (.cells #[.int .u64 (nk : Int), .int .u64 (na : Int), .int .u64 (nn : Int), .int .u64 (q.key : Int), .int .u64 (nf : Int), .int .u64 (ni : Int), .int .u64 (q.names.length : Int)] 25) = W := ⟨_, rfl⟩
      try rw [e2]
      have X2 : Ext W1 W2 := by rw [← e2]; exact (Ext.refl W1).alloc _
      have b7 : Blk W2 W1.heap.size 25 (uv uvl).toArray := by rw [← e2, huvl]; exact Blk.new _ _ _
      have HX2 := Lib.hid (HX1.out.trans X2)
      have HB7 := Lib.hid b7
      have HUV := Lib.hid huvl
      have HUL := Lib.hid hul
      have HB2 : Hid (BSt w W0 [] W2) := Lib.hid ⟨⟨_, ext_blk HX2.out HBB.out, ⟨rfl, .inl ⟨rfl, rfl⟩⟩⟩, HX2.out.out.mono (by have := HS0.out; omega)⟩
      clear e2 X2 b7 huvl hul k0 k1 k2 k3 k4 k5 k6 k7 k8 w1 w2 w3 w4 w5 w6
      go_loopg [67] 7 (fun g s67 wr => ∃ j : Nat, j + g = 7 ∧ s67 = .int .i64 j ∧ BSt w W0 ((uvl.take j).flatMap (bigD 8)) wr ∧ Blk wr W1.heap.size 25 (uv uvl).toArray ∧ Blk wr w.heap.size 98 #[.int .i64 q.kind, .int .i64 q.acc, .int .i64 q.nonce, .int .u64 (q.key : Int), .slice A q.names.length c, .int .i64 q.life, .int .i64 q.id, .int .u64 (q.e : Int), .int .u64 (q.s : Int)])
      case atStart => exact ⟨0, rfl, rfl, HB2.out, HB7.out, ext_blk HX2.out HBQ.out⟩
      case round =>
        obtain ⟨j, hj, rfl, hst, hb7, hbq⟩ := hrel
        by_cases hjl : j < 7
        · obtain ⟨x, hx⟩ : ∃ x, uvl[j]? = some x := ⟨_, List.getElem?_eq_getElem (by have := HUL.out; omega)⟩
          have p1 := uv_at hb7 hx
          have hjb : (j : Int) < 7 := by omega
          have hfl : ((uvl.take j).flatMap (bigD 8)).length ≤ 1099511627776 := by
            rw [fm_len8, List.length_take]; omega
          have cL := long_st w W0 ((uvl.take j).flatMap (bigD 8)) x wr (by have := HS0.out; omega) hst hfl
          have HE : Hid ((uvl.take (j + 1)).flatMap (bigD 8) = (uvl.take j).flatMap (bigD 8) ++ bigD 8 x) := Lib.hid (by rw [tk_snoc hx, List.flatMap_append]; simp)
          have HJ := Lib.hid hj
          have H7 := Lib.hid hb7
          have HQ7 := Lib.hid hbq
          have hne : Hid (W1.heap.size ≠ w.heap.size + 1) := Lib.hid (by have := HS0.out; have := HX1.out.size; omega)
          clear hx hj hst hb7 hbq hfl
          go_wp2_with (go_at_call 172; refine cL.mono ?_; clear cL; rintro e w5 ⟨rfl, hst5, hk5⟩)
          have hj := HJ.out
          go_roundg (gk - 1)
          case measure => omega
          case rel => exact ⟨j + 1, by omega, int_congr (by omega), by rw [HE.out]; exact hst5, hk5 _ _ _ H7.out (by decide) hne.out, hk5 _ _ _ HQ7.out (by decide) (by omega)⟩
        · obtain rfl : j = 7 := by omega
          have hst2 : BSt w W0 (uvl.flatMap (bigD 8)) wr := by rw [List.take_of_length_le (by have := HUL.out; omega)] at hst; exact hst
          have hpre : uvl.flatMap (bigD 8) ++ namesB q.names = byteL q := by
            obtain ⟨e1, e2, e3, e4, e5⟩ := HK.out
            unfold byteL eightI
            rw [HUV.out, e1, e2, e3, e4, e5]
            simp
          have hpl : (uvl.flatMap (bigD 8)).length = 56 := by rw [HUV.out]; simp [bigD_length]
          obtain ⟨P, hP⟩ : ∃ P, P = uvl.flatMap (bigD 8) := ⟨_, rfl⟩
          rw [← hP] at hst2 hpre hpl
          have HPR := Lib.hid hpre
          have HPL := Lib.hid hpl
          have HST := Lib.hid hst2
          have bq9 := hbq.cell 4
          clear hst hst2 hb7 hbq hj hjl hP hpre hpl
          go_upto_region 16 with (fail)
          go_loopg [3, 78] q.names.length (fun g s3 s78 wr => ∃ j : Nat, j + g = q.names.length ∧ s3 = .int .i64 0 ∧ s78 = .int .i64 j ∧ BSt w W0 (P ++ namesB (q.names.take j)) wr ∧ ∀ s ∈ q.names.take j, s.size ≤ 64)
          case atStart => exact ⟨0, by omega, rfl, rfl, by simpa [namesB] using HST.out, by simp⟩
          case round =>
            obtain ⟨j, hj, rfl, rfl, hst, hok⟩ := hrel
            have hxw := hst.ext HX.out (by have := HS0.out; omega)
            have hjb : (j : Int) ≤ 1099511627776 := by have := HQ.out.nl; omega
            by_cases hjl : j < q.names.length
            · obtain ⟨s, hs⟩ : ∃ s, q.names[j]? = some s := ⟨_, List.getElem?_eq_getElem hjl⟩
              obtain ⟨ad, hA, p1⟩ := reads_text (HQ.out.ext hxw).names hs
              subst hA
              by_cases h64 : s.size ≤ 64
              · have hlB : (P ++ namesB (q.names.take j)).length ≤ 1000 := by
                  have := namesB_len hok
                  rw [List.length_append, HPL.out]
                  rw [List.length_take] at this
                  have := H1.out.2.2
                  omega
                have cL := long_st w W0 (P ++ namesB (q.names.take j)) s.size wr (by have := HS0.out; omega) hst (by omega)
                have d1 : decide ((64 : Int) < (s.size : Int)) = false := decide_eq_false (by omega)
                have w1 : IntKind.u64.wrap (s.size : Int) = (s.size : Int) := by rw [IntKind.wrap_u64]; omega
                have HE : Hid (P ++ namesB (q.names.take (j + 1)) = (P ++ namesB (q.names.take j) ++ bigD 8 s.size) ++ txN s) := Lib.hid (by
                  rw [tk_snoc hs, namesB_append]
                  simp [namesB, eightI])
                have HOK : Hid (∀ x ∈ q.names.take (j + 1), x.size ≤ 64) := Lib.hid (by
                  rw [tk_snoc hs]
                  intro x hx
                  rcases List.mem_append.1 hx with hx | hx
                  · exact hok x hx
                  · rw [List.mem_singleton] at hx; subst hx; exact h64)
                obtain ⟨Q, hQ⟩ : ∃ Q, Q = P ++ namesB (q.names.take j) ++ bigD 8 s.size := ⟨_, rfl⟩
                rw [← hQ] at cL HE
                have hQl : Q.length ≤ 1008 := by rw [hQ, List.length_append, bigD_length]; omega
                have hQ0 : 0 < Q.length := by rw [hQ, List.length_append, bigD_length]; omega
                have HQL := Lib.hid hQl
                have HQ0 := Lib.hid hQ0
                have HJ := Lib.hid hj
                have H64 := Lib.hid h64
                clear hs hj hst hok h64 hlB hQ hQl hQ0 hxw
                go_upto_region 21 with (go_at_call 172; refine cL.mono ?_; clear cL; rintro e w5 ⟨rfl, hst5, hk5⟩)
                obtain ⟨⟨v5, b5, o5⟩, hB5⟩ := id hst5
                have hv5 : v5 ≠ .slice none 0 0 := by
                  obtain ⟨g, cap, e, _⟩ := o5.form HQ0.out
                  rw [e]
                  intro h
                  cases h
                have c5 := b5.cell 0
                obtain ⟨i0, hi, hz0, hz1, hz2⟩ := info_parts Tryz.infoU8
                have HO5 := Lib.hid o5
                have HB5 := Lib.hid b5
                have HBL := Lib.hid hB5
                clear hst5 hk5 o5 b5 hB5
                go_wp2_with (at_builtin; refine wpList_append_own_src _ rfl (.tmp 90) (.tmp 91) 22 9 rfl (w.heap.size + 2) 5 i0 (.int .u8 0) 1 1 Tryz.underlying22 hi hz0 hz1 hz2 rfl v5 Q.length (bv Q) rfl HO5.out (.string s) s.size (byteCells s) rfl (Src.ofString _ Tryz.underlying9 s) (by have := H64.out; have := HQL.out; simp only [maxLen]; omega) (by have := H64.out; have := HQL.out; omega) (by have := HS0.out; have := HBL.out.size; omega) hv5 ?_; intro v6 w6 hown6 hg6 _; obtain ⟨A6, c6, rfl, hc6, -⟩ := own_slice2 hown6; have b6 := Blk.grown HB5.out hg6 (fun e => own_blk_ne HO5.out HB5.out (by decide) e.symm); have f6 := b6.frozen 0; have c6' := b6.cell 0; have HB6 := Lib.hid b6; have HO6 := Lib.hid hown6; have HBL6 := Lib.hid (HBL.out.grown hg6 (by have := HS0.out; have := HBL.out.size; omega) (fun k hk => by have := own_out HO5.out k hk; omega)); clear b6 hown6 hg6)
                have hj := HJ.out
                have hst9 : Hid (BSt w W0 (P ++ namesB (q.names.take (j + 1))) (w6.setCell ⟨w.heap.size + 1, 0, none⟩ (.slice A6 (Q.length + s.size) c6))) := Lib.hid (by
                  rw [HE.out]
                  have e1 : (txN s).length = s.size := strN_length s
                  refine ⟨⟨_, HB6.out.set_ 0 _, ?_⟩, HBL6.out.setCell (p := ⟨w.heap.size + 1, 0, none⟩) (Nat.le_refl _) _⟩
                  rw [List.length_append, e1, bv_append]
                  have := own_setT HO6.out HB6.out (by decide) 0 (.slice A6 (Q.length + s.size) c6)
                  rw [byteCells_strN] at this
                  exact this)
                go_roundg (gk - 1)
                case measure => omega
                case rel => exact ⟨j + 1, by omega, rfl, int_congr (by omega), hst9.out, HOK.out⟩
              · have hno : Hid (¬ (headP q ∧ ∀ s ∈ q.names, s.size ≤ 64)) := Lib.hid fun h => h64 (h.2 s (List.mem_of_getElem? hs))
                have d1 : decide ((64 : Int) < (s.size : Int)) = true := decide_eq_true (by omega)
                obtain ⟨⟨v5, b5, o5⟩, hB5⟩ := hst
                have c0 := b5.cell 0
                have f0 := b5.frozen 0
                have HXW := Lib.hid hxw
                have HB5 := Lib.hid b5
                clear hs hj hok h64 hxw b5 o5 hB5
                go_wp2
                have c9 := (HB5.out.set_ 0 (.slice none 0 0)).cell 0
                refine bodyPost_ret (v := .tuple #[.slice none 0 0, .int .i64 1]) (by simp [results, Tryz.results91, go_sem, c9]) rfl (bytPost_no hno.out (HXW.out.setCell (p := ⟨w.heap.size + 1, 0, none⟩) (Nat.le_succ _) _))
            · obtain rfl : j = q.names.length := by omega
              rw [List.take_length] at hst hok
              rw [HPR.out] at hst
              have hbe : byteE q = 0 := by unfold byteE; rw [if_pos ⟨HH.out, hok⟩]
              obtain ⟨⟨v5, b5, o5⟩, hB5⟩ := hst
              obtain ⟨A5, c5, rfl, hc5, -⟩ := own_slice2 o5
              have f0 := b5.frozen 0
              have c0 := b5.cell 0
              have HB5 := Lib.hid b5
              have HO5 := Lib.hid o5
              have HXW := Lib.hid hxw
              have HBE := Lib.hid hbe
              clear hok hj hjl hxw b5 o5 hB5 hbe
              go_wp2
              have c9 := (HB5.out.set_ 0 (.slice A5 (byteL q).length c5)).cell 0
              refine bodyPost_ret (v := .tuple #[.slice A5 (byteL q).length c5, .int .i64 0]) (by simp [results, Tryz.results91, go_sem, c9]) rfl ⟨_, by rw [HBE.out]; rfl, ?_, HXW.out.setCell (p := ⟨w.heap.size + 1, 0, none⟩) (Nat.le_succ _) _⟩
              rw [show bytR q = byteL q by unfold bytR; rw [HBE.out]; rfl]
              exact own_base (own_setT HO5.out HB5.out (by decide) 0 _) (by omega)
end Go.Proofs.YtfpmfegmehbfbaaGreatDoor

/- A map literal of a few integer keys, as the heap holds it: put, and looked up. -/
namespace Go.Proofs.YtfpmfegmehbfbaaGreatDoor
set_option linter.unusedVariables false
set_option linter.unusedSimpArgs false
set_option linter.unusedSimpArgs false
open Go.RowKit Go.Shelf Go.Maps

section
variable {P : Program} {T K E : TypeId} {w : World} {m : Nat} {l : List (Int × Value)}
def LitM (w : World) (m : Nat) (l : List (Int × Value)) : Prop := ∃ es n, w.heap[m]? = some (.map es n) ∧ es.toList.map (fun e => (e.key, e.val)) = l.map fun p => (Value.int .i64 p.1, p.2)
theorem findNow_none (k : Int) : ∀ (es : List MapEntry) (l : List (Int × Value)) (i : Nat), es.map (fun e => (e.key, e.val)) = l.map (fun p => (Value.int .i64 p.1, p.2)) → (∀ p ∈ l, k ≠ p.1) → Instr.findNow (.int .i64) (.int .i64 k) es i = some none
  | [], l, i, h, _ => rfl
  | e :: es, [], i, h, _ => by simp at h
  | e :: es, p :: l, i, h, hk => by
    simp only [List.map_cons, List.cons.injEq, Prod.mk.injEq] at h
    have := findNow_none k es l (i + 1) h.2 fun x hx => hk x (by simp [hx])
    have h1 := hk p (by simp)
    unfold Instr.findNow
    rw [h.1.1]
    have h2 : (k == p.1) = false := by simp [h1]
    simp [Instr.sameNow, h2, this]
theorem findNow_some (k : Int) (v : Value) : ∀ (es : List MapEntry) (l : List (Int × Value)) (i : Nat), es.map (fun e => (e.key, e.val)) = l.map (fun p => (Value.int .i64 p.1, p.2)) → (l.find? fun p => decide (k = p.1)).map (·.2) = some v → ∃ j, Instr.findNow (.int .i64) (.int .i64 k) es i = some (some (j, v))
  | [], l, i, h, hk => by
    cases l with
    | nil => simp at hk
    | cons => simp at h
  | e :: es, [], i, h, _ => by simp at h
  | e :: es, p :: l, i, h, hk => by
    simp only [List.map_cons, List.cons.injEq, Prod.mk.injEq] at h
    unfold Instr.findNow
    rw [h.1.1]
    by_cases h1 : k = p.1
    · rw [List.find?_cons_of_pos (by simpa using h1)] at hk
      simp at hk
      exact ⟨i, by simp [Instr.sameNow, h1, h.1.2, hk]⟩
    · rw [List.find?_cons_of_neg (by simpa using h1)] at hk
      obtain ⟨j, hj⟩ := findNow_some k v es l (i + 1) h.2 hk
      have h2 : (k == p.1) = false := by simp [h1]
      exact ⟨j, by simp [Instr.sameNow, h2, hj]⟩
theorem LitM.new (w : World) : LitM (w.alloc (.map #[] 0)) w.heap.size [] := ⟨#[], 0, heap_alloc_new w _, rfl⟩
theorem LitM.put (h : LitM w m l) (hT : P.underlying T = some (.map K E)) (hK : P.underlying K = some (.int .i64)) (k : Int) (v : Value) (hk : ∀ p ∈ l, k ≠ p.1) :
    ∃ w', (Instr.mapUpdate T (.map (some m)) (.int .i64 k) v).run P w = .ok () w' ∧ LitM w' m (l ++ [(k, v)]) ∧ w.grownBy w' (some m) := by
  obtain ⟨es, n, hb, he⟩ := h
  have h1 := findNow_none k es.toList l 0 he hk
  have hlt : m < w.heap.size := (Array.getElem?_eq_some_iff.1 hb).1
  refine ⟨{ w with heap := w.heap.setIfInBounds m (.map (es.push { key := .int .i64 k, val := v, born := n }) (n + 1)) }, ?_, ⟨es.push { key := .int .i64 k, val := v, born := n }, n + 1, (MapKept.heap_set hb).1, by simp [he]⟩, ⟨rfl, rfl, rfl, by simp, fun k hk hr => (MapKept.heap_set hb).2 k (by rintro rfl; exact hr rfl)⟩⟩
  simp [Instr.mapUpdate, run_underlying hT, MapKept.run_getObj_map hb, MapKept.run_checkKey hK (k := .int .i64 k) rfl, MapKept.run_findKey hK h1, MapKept.run_setObj_map _ hb, Result.andThen]
theorem LitM.look (h : LitM w m l) (hT : P.underlying T = some (.map K E)) (hK : P.underlying K = some (.int .i64)) (k : Int) (v : Value) (hk : (l.find? fun p => decide (k = p.1)).map (·.2) = some v) :
    (Instr.lookup T (.map (some m)) (.int .i64 k) false).run P w = .ok v w := by
  obtain ⟨es, n, hb, he⟩ := h
  obtain ⟨j, h1⟩ := findNow_some k v es.toList l 0 he hk
  simp [Instr.lookup, run_underlying hT, MapKept.run_getObj_map hb, MapKept.run_checkKey hK (k := .int .i64 k) rfl, MapKept.run_findKey hK h1, Result.andThen]
end
end Go.Proofs.YtfpmfegmehbfbaaGreatDoor

/- The door, walked: what Do needs. -/
namespace Go.Proofs.YtfpmfegmehbfbaaGreatDoor
set_option linter.unusedVariables false
set_option linter.unusedSimpArgs false
set_option linter.unusedSimpArgs false
open Go.RowKit Go.Shelf Go.Maps

theorem boxes3 (w : World) (x y z : Array Value) (T U V : TypeId) : ∃ W, ((w.alloc (.cells x T)).alloc (.cells y U)).alloc (.cells z V) = W ∧ Blk W w.heap.size T x ∧ Blk W (w.heap.size + 1) U y ∧ Blk W (w.heap.size + 2) V z ∧ Ext w W ∧ W.heap.size = w.heap.size + 3 := by
  refine ⟨_, rfl, ((Blk.new w T x).alloc _).alloc _, ?_, ?_, (((Ext.refl w).alloc _).alloc _).alloc _, by simp⟩
  · have := (Blk.new (w.alloc (.cells x T)) U y).alloc (.cells z V)
    rwa [World.size_alloc] at this
  · have := Blk.new ((w.alloc (.cells x T)).alloc (.cells y U)) V z
    rwa [World.size_alloc, World.size_alloc] at this
theorem joins_enters : Enters Tryz.prog 97 := enters_of Tryz.func97 (by kernel_rfl) rfl
theorem wants_enters : Enters Tryz.prog 98 := enters_of Tryz.func98 (by kernel_rfl) rfl
theorem looks_enters : Enters Tryz.prog 99 := enters_of Tryz.func99 (by kernel_rfl) rfl
theorem issues_enters : Enters Tryz.prog 100 := enters_of Tryz.func100 (by kernel_rfl) rfl
theorem revokes_enters : Enters Tryz.prog 101 := enters_of Tryz.func101 (by kernel_rfl) rfl
/-- The literal that tells the kinds apart. -/
def kindsL : List (Int × Value) := [(1, .func (.func 97) #[] #[]), (2, .func (.func 98) #[] #[]), (3, .func (.func 99) #[] #[]), (4, .func (.func 100) #[] #[]), (5, .func (.func 101) #[] #[])]
theorem meth_any (B : Nat) (d : DoorX) (now : Int) (q : QueR) (A : Option Addr) (c : Nat) (hk : 1 ≤ q.kind ∧ q.kind ≤ 5) : ∃ F, Enters Tryz.prog F ∧ (kindsL.find? fun p => decide (q.kind = p.1)).map (·.2) = some (.func (.func F) #[] #[]) ∧
    ∀ w : World, DoorW w w.heap.size d → DoorL (fun k => k ≠ B) d → DoorB w B d now → QueW w w.heap.size q A c → Lies (fun k => k ≠ B) A q.names.length → 0 ≤ q.acc ∧ q.acc < 100 → d.auts.length + q.names.length < 99 → d.ords.length < 100 → d.accs.length < 100 → (∀ x ∈ d.ords, ∀ s ∈ x.o.auths, 1 ≤ s ∧ s ≤ d.auts.length) →
      Calls Tryz.prog F #[.pointer (some ⟨B, 0, none⟩), queV q A c] w (methPost B d now (stepF d.fro q now) w) := by
  obtain ⟨qk, qa, qn, qy, qs, ql, qi, qe, qss⟩ := q
  simp only at hk
  have hk5 : qk = 1 ∨ qk = 2 ∨ qk = 3 ∨ qk = 4 ∨ qk = 5 := by omega
  rcases hk5 with rfl | rfl | rfl | rfl | rfl
  · exact ⟨_, joins_enters, rfl, fun w h1 h2 h3 h4 h5 h6 h7 h8 h9 h10 => joins_any B d now _ A c w h1 h2 h3 h4.key h9⟩
  · exact ⟨_, wants_enters, rfl, fun w h1 h2 h3 h4 h5 h6 h7 h8 h9 h10 => wants_any B d now _ A c w h1 h2 h3 h4 h5 h6 h7 h8⟩
  · exact ⟨_, looks_enters, rfl, fun w h1 h2 h3 h4 h5 h6 h7 h8 h9 h10 => looks_any B d now _ A c w h1 h2 h3⟩
  · exact ⟨_, issues_enters, rfl, fun w h1 h2 h3 h4 h5 h6 h7 h8 h9 h10 => issues_any B d now _ A c w h1 h2 h3 h10⟩
  · exact ⟨_, revokes_enters, rfl, fun w h1 h2 h3 h4 h5 h6 h7 h8 h9 h10 => revokes_any B d now _ A c w h1 h3⟩
/-- The literal, laid. -/
theorem kinds_laid (W : World) : ∃ w1 w2 w3 w4 w5 : World,
    (Instr.mapUpdate 185 (.map (some W.heap.size)) (.int .i64 1) (.func (.func 97) #[] #[])).run Tryz.prog (W.alloc (.map #[] 0)) = .ok () w1 ∧
    (Instr.mapUpdate 185 (.map (some W.heap.size)) (.int .i64 2) (.func (.func 98) #[] #[])).run Tryz.prog w1 = .ok () w2 ∧
    (Instr.mapUpdate 185 (.map (some W.heap.size)) (.int .i64 3) (.func (.func 99) #[] #[])).run Tryz.prog w2 = .ok () w3 ∧
    (Instr.mapUpdate 185 (.map (some W.heap.size)) (.int .i64 4) (.func (.func 100) #[] #[])).run Tryz.prog w3 = .ok () w4 ∧
    (Instr.mapUpdate 185 (.map (some W.heap.size)) (.int .i64 5) (.func (.func 101) #[] #[])).run Tryz.prog w4 = .ok () w5 ∧
    LitM w5 W.heap.size kindsL ∧ Ext W w5 := by
  have hT := Tryz.underlying185
  have hK := Tryz.underlying3
  obtain ⟨w1, r1, l1, g1⟩ := (LitM.new W).put hT hK 1 (.func (.func 97) #[] #[]) (by simp)
  obtain ⟨w2, r2, l2, g2⟩ := l1.put hT hK 2 (.func (.func 98) #[] #[]) (by simp)
  obtain ⟨w3, r3, l3, g3⟩ := l2.put hT hK 3 (.func (.func 99) #[] #[]) (by simp)
  obtain ⟨w4, r4, l4, g4⟩ := l3.put hT hK 4 (.func (.func 100) #[] #[]) (by simp)
  obtain ⟨w5, r5, l5, g5⟩ := l4.put hT hK 5 (.func (.func 101) #[] #[]) (by simp)
  refine ⟨w1, w2, w3, w4, w5, r1, r2, r3, r4, r5, l5, ?_⟩
  have hG := (((g1.trans g2).trans g3).trans g4).trans g5
  exact Ext.of (((Below.refl _ W).alloc (Nat.le_refl _) _).grown hG (by simp) (fun k hk => by cases hk; exact Nat.le_refl _))
theorem auths_in {d : DoorX} (h : chkF d.fro = 0) : ∀ x ∈ d.ords, ∀ s ∈ x.o.auths, 1 ≤ s ∧ s ≤ d.auts.length := by
  intro x hx s hs
  have hp := ((chkF_zero.1 h).1).2.2.2.2.1
  obtain ⟨i, hi, rfl⟩ := List.getElem_of_mem hx
  have h1 := (hp i (by rw [dfro_ords, List.length_map]; exact hi)).1
  obtain ⟨j, hj, rfl⟩ := List.getElem_of_mem hs
  have e : d.fro.ords[i]'(by rw [dfro_ords, List.length_map]; exact hi) = d.ords[i].o := by simp [dfro_ords]
  rw [e] at h1
  obtain ⟨_, _, _, _, _, _, _, hl, hh⟩ := h1
  have := hh j hj (by omega)
  exact ⟨this.1, this.2.1⟩
theorem byteL_lt (q : QueR) : ∀ x ∈ byteL q, x < 256 := by
  have h8 : ∀ (k n : Nat), ∀ x ∈ bigD k n, x < 256 := by
    intro k
    induction k with
    | zero => intro n x hx; simp [bigD] at hx
    | succ k ih => intro n x hx; simp only [bigD, List.mem_append, List.mem_singleton] at hx; rcases hx with hx | rfl; exact ih _ _ hx; omega
  have hN : ∀ l : List ByteArray, ∀ x ∈ namesB l, x < 256 := by
    intro l
    induction l with
    | nil => intro x hx; simp [namesB] at hx
    | cons s l ih =>
      intro x hx
      simp only [namesB, List.mem_append] at hx
      rcases hx with (hx | hx) | hx
      · exact h8 _ _ x hx
      · exact strN_lt s x hx
      · exact ih x hx
  intro x hx
  unfold byteL eightI at hx
  simp only [List.mem_append] at hx
  rcases hx with ((((((hx | hx) | hx) | hx) | hx) | hx) | hx) | hx
  all_goals first | exact h8 _ _ x hx | exact hN _ x hx
theorem byteL_len {q : QueR} (h : byteE q = 0) : (byteL q).length ≤ 1000 := by
  unfold byteE at h
  split at h
  · next hh =>
    have := namesB_len hh.2
    have h3 := hh.1.2.2.1
    unfold byteL
    simp only [List.length_append, eight_length]
    omega
  · cases h
theorem byteE_head {q : QueR} (h : byteE q = 0) : headP q := by
  unfold byteE at h
  split at h
  · next hh => exact hh.1
  · cases h
end Go.Proofs.YtfpmfegmehbfbaaGreatDoor
