/- Parts of the proofs, put together: Rd3, Rd4, Rd5, Rd6. -/
import Derived.Recover
import Derived.Test.YtfpmfegmehbfbaaGreatDoorZ22
import Derived.Test.YtfpmfegmehbfbaaGreatDoorZ23
/- Rules, read: a number, a rule (of the one text that 'up' reads). -/
namespace Go.Proofs.YtfpmfegmehbfbaaGreatDoor
set_option linter.unusedVariables false
set_option linter.unusedSimpArgs false
set_option linter.unusedSimpArgs false
open Go.RowKit Go.Shelf

theorem grown_alloc (W : World) (o : Obj) (row : Option Nat) : W.grownBy (W.alloc o) row := ⟨rfl, rfl, rfl, by simp, fun k hk _ => Below.heap_alloc W o k hk⟩
theorem rule1_enters : Enters Tryz.prog 201 := enters_of Tryz.func201 (by kernel_rfl) rfl
theorem rule2_enters : Enters Tryz.prog 206 := enters_of Tryz.func206 (by kernel_rfl) rfl
theorem number1_enters : Enters Tryz.prog 254 := enters_of Tryz.func254 (by kernel_rfl) rfl
set_option maxHeartbeats 1000000 in
theorem number_any (T : ByteArray) (hT : T.size ≤ 32768) (b c p a a1 : Nat) (w : World) (hp : b ≠ p) (hc : T.size ≤ c) (hcb : c ≤ 9223372036854775807) (hb : Lib.Bytes w b 0 T) (hbl : b < w.heap.size) (hr : Rd w p b T c a ⟨#[57]⟩)
    (h1 : a + (⟨#[57]⟩ : ByteArray).size ≤ a1) (h2 : a1 ≤ T.size) (hsk : ∀ i (h : i < T.size), a + (⟨#[57]⟩ : ByteArray).size ≤ i → i < a1 → T[i].toNat = 32) (hst : ∀ h : a1 < T.size, T[a1].toNat ≠ 32 ∧ T[a1].toNat ≠ 10 ∧ T[a1].toNat ≠ 35) :
    Calls Tryz.prog 209 #[.pointer (some ⟨p, 0, none⟩), .int .u64 1000] w fun e w' => e = .returned (.int .u64 9) ∧ Rd w' p b T c a1 (T.extract a1 (a1 + rdLen T a1)) ∧ w.grownBy w' (some p) := by
  obtain ⟨W0, e0⟩ : ∃ W, (w.alloc (.cells #[.int .u64 1000] 25)).alloc (.cells #[.int .u64 0] 25) = W := ⟨_, rfl⟩
  have hpl : p < w.heap.size := Blk.lt hr
  have x0 : Ext w W0 := by rw [← e0]; exact ((Ext.refl w).alloc _).alloc _
  have bm : Blk W0 w.heap.size 25 #[.int .u64 1000] := by rw [← e0]; exact (Blk.new w _ _).alloc _
  have bn : Blk W0 (w.heap.size + 1) 25 #[.int .u64 0] := by
    rw [← e0]
    have := Blk.new (w.alloc (.cells #[.int .u64 1000] 25)) 25 #[.int .u64 0]
    rwa [World.size_alloc] at this
  have r0 : Rd W0 p b T c a ⟨#[57]⟩ := Blk.below hr x0.out hpl
  have hb0 : Lib.Bytes W0 b 0 T := bytes_grown hb (grown_extN x0) (by simp)
  have cT := take_any 254 number1_enters #[.pointer (some ⟨w.heap.size + 1, 0, none⟩), .pointer (some ⟨w.heap.size, 0, none⟩)] T hT b c p a a1 ⟨#[57]⟩ W0 hp hc hcb hb0 r0 h1 h2 hsk hst
    (fun w' => ∃ w1, Ext W0 w1 ∧ w' = w1.setCell ⟨w.heap.size + 1, 0, none⟩ (.int .u64 9)) (number1_any (w.heap.size + 1) w.heap.size W0 bn (Blk.cell bm 0) (by omega))
    (fun w' ⟨w1, x1, hw⟩ => ⟨some (w.heap.size + 1), by rw [hw]; exact (grown_extR x1 _).trans (grown_cell _ _ 0 _), by simp; omega, by simp; omega⟩)
  have HX0 := Lib.hid x0
  have HBN := Lib.hid bn
  clear hb hr hsk hst h1 h2 x0 bm bn r0 hb0
  go_enter Tryz.func209, Tryz.ntmps209
  go_upto_region 2 with (fail)
  try rw [e0]
  go_upto_region 3 with (go_at_call 200; refine cT.mono ?_; clear cT; rintro e w2 ⟨rfl, w1, ⟨w3, x3, hw⟩, r2, g2⟩)
  have b2 : Blk w2 (w.heap.size + 1) 25 #[.int .u64 9] := by
    have h3 : Blk w3 (w.heap.size + 1) 25 #[.int .u64 0] := Blk.below HBN.out x3.out HBN.out.lt
    have h1 : Blk w1 (w.heap.size + 1) 25 #[.int .u64 9] := by rw [hw]; exact Blk.set_ h3 0 _
    exact Blk.grown h1 g2 (by simp; omega)
  have c2 := Blk.cell b2 0
  go_wp2
  go_ret
  refine ⟨rfl, r2, ?_⟩
  have hlow : ∀ k, k < w.heap.size → w1.heap[k]? = w.heap[k]? := fun k hk => by
    rw [hw]
    exact (Below.heap_setCell w3 ⟨w.heap.size + 1, 0, none⟩ _ k (by simp; omega)).trans ((x3.out.block k (Nat.lt_of_lt_of_le hk HX0.out.size)).trans (HX0.out.out.block k hk))
  obtain ⟨a1, a2, a3, a4, a5⟩ := g2
  obtain ⟨d1, d2, d3, d4, d5⟩ := HX0.out.out.trans (Below.mono x3.out HX0.out.size)
  have s1 : w1.heap.size = w3.heap.size := by rw [hw]; simp
  refine ⟨?_, ?_, ?_, ?_, fun k hk hne => ?_⟩
  · rw [a1, hw]; exact d1
  · rw [a2, hw]; exact d2
  · rw [a3, hw]; exact d3
  · omega
  · exact (a5 k (by rw [s1]; omega) hne).trans (hlow k hk)
end Go.Proofs.YtfpmfegmehbfbaaGreatDoor

/- Rules, read: a rule (of the one text that 'up' reads). -/
namespace Go.Proofs.YtfpmfegmehbfbaaGreatDoor
set_option linter.unusedVariables false
set_option linter.unusedSimpArgs false
set_option linter.unusedSimpArgs false
open Go.RowKit Go.Shelf

/-- The text that 'up' reads. -/
def rdT : ByteArray := ⟨#[97, 108, 108, 111, 119, 32, 119, 101, 98, 32, 123, 32, 42, 46, 97, 59, 32, 108, 105, 102, 101, 32, 57, 59, 32, 125]⟩
/-- From a token to the next. -/
structure TkP (a n a1 : Nat) (tok : ByteArray) : Prop where
  h1 : a + n ≤ a1
  h2 : a1 ≤ rdT.size
  sk : ∀ i (h : i < rdT.size), a + n ≤ i → i < a1 → rdT[i].toNat = 32
  st : ∀ h : a1 < rdT.size, rdT[a1].toNat ≠ 32 ∧ rdT[a1].toNat ≠ 10 ∧ rdT[a1].toNat ≠ 35
  he : rdT.extract a1 (a1 + rdLen rdT a1) = tok
set_option maxRecDepth 100000 in
theorem tk0 : TkP 0 0 0 ⟨#[97, 108, 108, 111, 119]⟩ := ⟨by decide, by decide, by decide, by decide, by rfl⟩
set_option maxRecDepth 100000 in
theorem tk1 : TkP 0 5 6 ⟨#[119, 101, 98]⟩ := ⟨by decide, by decide, by decide, by decide, by rfl⟩
set_option maxRecDepth 100000 in
theorem tk2 : TkP 6 3 10 ⟨#[123]⟩ := ⟨by decide, by decide, by decide, by decide, by rfl⟩
set_option maxRecDepth 100000 in
theorem tk3 : TkP 10 1 12 ⟨#[42, 46, 97]⟩ := ⟨by decide, by decide, by decide, by decide, by rfl⟩
set_option maxRecDepth 100000 in
theorem tk4 : TkP 12 3 15 ⟨#[59]⟩ := ⟨by decide, by decide, by decide, by decide, by rfl⟩
set_option maxRecDepth 100000 in
theorem tk5 : TkP 15 1 17 ⟨#[108, 105, 102, 101]⟩ := ⟨by decide, by decide, by decide, by decide, by rfl⟩
set_option maxRecDepth 100000 in
theorem tk6 : TkP 17 4 22 ⟨#[57]⟩ := ⟨by decide, by decide, by decide, by decide, by rfl⟩
set_option maxRecDepth 100000 in
theorem tk7 : TkP 22 1 23 ⟨#[59]⟩ := ⟨by decide, by decide, by decide, by decide, by rfl⟩
set_option maxRecDepth 100000 in
theorem tk8 : TkP 23 1 25 ⟨#[125]⟩ := ⟨by decide, by decide, by decide, by decide, by rfl⟩
set_option maxRecDepth 100000 in
theorem tk9 : TkP 25 1 26 ⟨#[]⟩ := ⟨by decide, by decide, by decide, by decide, by rfl⟩
/-- The world while a rule is read. -/
structure RuS (w W : World) (p b c : Nat) (v : Array Value) (a : Nat) (tok : ByteArray) : Prop where
  bq : Blk W w.heap.size 116 #[.slice none 0 0]
  bx : Blk W (w.heap.size + 1) 121 v
  rd : Rd W p b rdT c a tok
  tx : Lib.Bytes W b 0 rdT
  gr : w.grownBy W (some p)
  pl : p < w.heap.size
  bl : b < w.heap.size
  pb : b ≠ p
  cc : rdT.size ≤ c ∧ c ≤ 9223372036854775807
variable {w W W' : World} {p b c a a1 : Nat} {v : Array Value} {tok tok1 : ByteArray}
theorem RuS.size (h : RuS w W p b c v a tok) : w.heap.size + 2 ≤ W.heap.size := h.bx.lt
theorem RuS.step (h : RuS w W p b c v a tok) (g : W.grownBy W' (some p)) (r : Rd W' p b rdT c a1 tok1) : RuS w W' p b c v a1 tok1 :=
  ⟨Blk.grown h.bq g (by have := h.pl; simp; omega), Blk.grown h.bx g (by have := h.pl; simp; omega), r, bytes_grown h.tx g (by have := h.pb; simp; omega), h.gr.trans g, h.pl, h.bl, h.pb, h.cc⟩
theorem RuS.ext (h : RuS w W p b c v a tok) (x : Ext W W') : RuS w W' p b c v a tok :=
  ⟨Blk.below h.bq x.out h.bq.lt, Blk.below h.bx x.out h.bx.lt, Blk.below h.rd x.out (Blk.lt h.rd), bytes_grown h.tx (grown_extN x) (by simp), h.gr.trans (grown_extR x _), h.pl, h.bl, h.pb, h.cc⟩
theorem RuS.put (h : RuS w W p b c v a tok) (i : Nat) (u : Value) : RuS w (W.setCell ⟨w.heap.size + 1, i, none⟩ u) p b c (v.setIfInBounds i u) a tok := by
  have hs := h.size
  have hg := grown_cell W (w.heap.size + 1) i u
  refine ⟨Blk.grown h.bq hg (by simp), Blk.set_ h.bx i u, Blk.grown h.rd hg (by have := h.pl; simp; omega), bytes_grown h.tx hg (by have := h.bl; simp; omega), ?_, h.pl, h.bl, h.pb, h.cc⟩
  obtain ⟨a1, a2, a3, a4, a5⟩ := h.gr
  obtain ⟨b1, b2, b3, b4, b5⟩ := hg
  exact ⟨b1.trans a1, b2.trans a2, b3.trans a3, Nat.le_trans a4 b4, fun k hk hne => (b5 k (by omega) (by simp; omega)).trans (a5 k hk hne)⟩
theorem next_T (tk : TkP a tok.size a1 tok1) (h : RuS w W p b c v a tok) : Calls Tryz.prog 113 #[.pointer (some ⟨p, 0, none⟩)] W fun e w' => e = .returned (.tuple #[]) ∧ RuS w w' p b c v a1 tok1 :=
  (next_any rdT (by decide) b c p a a1 tok W h.pb h.cc.1 h.cc.2 h.tx h.rd tk.h1 tk.h2 tk.sk tk.st).mono fun e w' ⟨he, r, g⟩ => ⟨he, h.step g (by rw [tk.he] at r; exact r)⟩
theorem want_T (tk : TkP a tok.size a1 tok1) (h : RuS w W p b c v a tok) : Calls Tryz.prog 205 #[.pointer (some ⟨p, 0, none⟩), .string tok] W fun e w' => e = .returned (.tuple #[]) ∧ RuS w w' p b c v a1 tok1 :=
  (want_any rdT (by decide) b c p a a1 tok W h.pb h.cc.1 h.cc.2 h.tx h.rd tk.h1 tk.h2 tk.sk tk.st).mono fun e w' ⟨he, r, g⟩ => ⟨he, h.step g (by rw [tk.he] at r; exact r)⟩
theorem take_T (F : FuncId) (hE : Enters Tryz.prog F) (cap : Array Value) (tk : TkP a tok.size a1 tok1) (h : RuS w W p b c v a tok) (hF : Calls Tryz.prog F (#[.string tok] ++ cap) W fun e w' => e = .returned (.bool true) ∧ Ext W w') :
    Calls Tryz.prog 200 #[.pointer (some ⟨p, 0, none⟩), .func (.func F) #[] cap] W fun e w' => e = .returned (.string tok) ∧ RuS w w' p b c v a1 tok1 :=
  (take_any F hE cap rdT (by decide) b c p a a1 tok W h.pb h.cc.1 h.cc.2 h.tx h.rd tk.h1 tk.h2 tk.sk tk.st (fun w' => Ext W w') hF (fun w' x => ⟨none, grown_extN x, by simp, by simp⟩)).mono
    fun e w' ⟨he, w1, x, r, g⟩ => ⟨he, (h.ext x).step g (by rw [tk.he] at r; exact r)⟩
theorem number_T (tk : TkP a (⟨#[57]⟩ : ByteArray).size a1 tok1) (h : RuS w W p b c v a ⟨#[57]⟩) : Calls Tryz.prog 209 #[.pointer (some ⟨p, 0, none⟩), .int .u64 1000] W fun e w' => e = .returned (.int .u64 9) ∧ RuS w w' p b c v a1 tok1 :=
  (number_any rdT (by decide) b c p a a1 W h.pb h.cc.1 h.cc.2 h.tx (by have := h.bl; have := h.size; omega) h.rd tk.h1 tk.h2 tk.sk tk.st).mono fun e w' ⟨he, r, g⟩ => ⟨he, h.step g (by rw [tk.he] at r; exact r)⟩
end Go.Proofs.YtfpmfegmehbfbaaGreatDoor

/- Rules, read: a rule (of the one text that 'up' reads): the walk. -/
namespace Go.Proofs.YtfpmfegmehbfbaaGreatDoor
set_option linter.unusedVariables false
set_option linter.unusedSimpArgs false
set_option linter.unusedSimpArgs false
open Go.RowKit Go.Shelf

theorem boxes2 (w : World) (x y : Array Value) (T U : TypeId) : ∃ W, (w.alloc (.cells x T)).alloc (.cells y U) = W ∧ Blk W w.heap.size T x ∧ Blk W (w.heap.size + 1) U y ∧ Ext w W := by
  refine ⟨_, rfl, (Blk.new w T x).alloc _, ?_, ((Ext.refl w).alloc _).alloc _⟩
  have := Blk.new (w.alloc (.cells x T)) U y
  rwa [World.size_alloc] at this
theorem reads_oneR (W : World) (T : TypeId) (x : Value) : Reads (W.alloc (.cells #[x] T)) (W.alloc (.cells #[x] T)).heap.size 1 (some ⟨W.heap.size, 0, none⟩) 1 [x] :=
  ⟨by simp, fun _ => ⟨_, rfl, by simp, fun j u hj => by
    rw [show (⟨W.heap.size, 0, none⟩ : Addr).add j = ⟨W.heap.size, j, none⟩ by simp [Addr.add]; exact fun h => h.symm, (Blk.new W T #[x]).cell j]
    simpa using hj⟩⟩
theorem cells7 {W : World} {g : Nat} {T : TypeId} {v0 v1 v2 v3 v4 v5 v6 : Value} (h : Blk W g T #[v0, v1, v2, v3, v4, v5, v6]) : (W.cell? ⟨g, 0, none⟩ = some v0 ∧ W.cell? ⟨g, 1, none⟩ = some v1 ∧ W.cell? ⟨g, 2, none⟩ = some v2 ∧ W.cell? ⟨g, 3, none⟩ = some v3 ∧ W.cell? ⟨g, 4, none⟩ = some v4 ∧ W.cell? ⟨g, 5, none⟩ = some v5 ∧ W.cell? ⟨g, 6, none⟩ = some v6) ∧
    W.frozen? ⟨g, 0, none⟩ = false ∧ W.frozen? ⟨g, 1, none⟩ = false ∧ W.frozen? ⟨g, 2, none⟩ = false ∧ W.frozen? ⟨g, 3, none⟩ = false ∧ W.frozen? ⟨g, 4, none⟩ = false ∧ W.frozen? ⟨g, 5, none⟩ = false ∧ W.frozen? ⟨g, 6, none⟩ = false :=
  ⟨⟨h.cell 0, h.cell 1, h.cell 2, h.cell 3, h.cell 4, h.cell 5, h.cell 6⟩, h.frozen 0, h.frozen 1, h.frozen 2, h.frozen 3, h.frozen 4, h.frozen 5, h.frozen 6⟩
set_option maxRecDepth 100000 in
set_option maxHeartbeats 8000000 in
theorem rule_any (p b c : Nat) (w : World) (hr : Rd w p b rdT c 0 ⟨#[97, 108, 108, 111, 119]⟩) (ht : Lib.Bytes w b 0 rdT) (hp : b ≠ p) (hc : rdT.size ≤ c ∧ c ≤ 9223372036854775807) :
    Calls Tryz.prog 114 #[.pointer (some ⟨p, 0, none⟩), .slice none 0 0] w fun e w' => ∃ A cp, e = .returned (.agg #[.string ⟨#[119, 101, 98]⟩, .bool true, .slice A 1 cp, .int .u64 0, .int .i64 9, .int .i64 0, .int .i64 0]) ∧ Rd w' p b rdT c 26 ⟨#[]⟩ ∧ Lib.Bytes w' b 0 rdT ∧ w.grownBy w' (some p) := by
  obtain ⟨W0, e0, bq, bx, x0⟩ := boxes2 w #[.slice none 0 0] #[.string ⟨#[]⟩, .bool false, .slice none 0 0, .int .u64 0, .int .i64 0, .int .i64 0, .int .i64 0] 116 121
  have hs0 : RuS w W0 p b c #[.string ⟨#[]⟩, .bool false, .slice none 0 0, .int .u64 0, .int .i64 0, .int .i64 0, .int .i64 0] 0 ⟨#[97, 108, 108, 111, 119]⟩ :=
    ⟨bq, bx, Blk.below hr x0.out (Blk.lt hr), bytes_grown ht (grown_extN x0) (by simp), grown_extR x0 _, Blk.lt hr, World.block_lt_of_cell? _ _ (ht 0 (by decide)), hp, hc⟩
  have HS0 := Lib.hid hs0
  obtain ⟨-, -, m2, -, -, f2⟩ := hs0.rd.cells
  obtain ⟨⟨v0, v1, v2, v3, v4, v5, v6⟩, z0, z1, z2, z3, z4, z5, z6⟩ := cells7 hs0.bx
  have q0 := hs0.bq.cell 0
  clear hr ht hp hc bq bx x0 hs0
  go_enter Tryz.func114, Tryz.ntmps114
  go_upto_region 1 with (fail)
  try rw [e0]
  clear e0
  go_upto_region 2 with (fail)
  obtain ⟨W1, e1⟩ : ∃ W, W = W0.setCell ⟨w.heap.size + 1, 1, none⟩ (.bool true) := ⟨_, rfl⟩
  have hs1 : RuS w W1 p b c #[.string ⟨#[]⟩, .bool true, .slice none 0 0, .int .u64 0, .int .i64 0, .int .i64 0, .int .i64 0] 0 ⟨#[97, 108, 108, 111, 119]⟩ := by rw [e1]; exact HS0.out.put 1 _
  try rw [← e1]
  clear e1
  clear m2 f2 v0 v1 v2 v3 v4 v5 v6 z0 z1 z2 z3 z4 z5 z6 q0
  have HS1 := Lib.hid hs1
  obtain ⟨-, -, m2, -, -, f2⟩ := hs1.rd.cells
  obtain ⟨⟨v0, v1, v2, v3, v4, v5, v6⟩, z0, z1, z2, z3, z4, z5, z6⟩ := cells7 hs1.bx
  have q0 := hs1.bq.cell 0
  clear hs1
  go_upto_region 6 with (fail)
  go_upto_region 7 with (go_at_call 113; refine (next_T tk1 HS1.out).mono ?_; rintro e w2 ⟨rfl, hs2⟩; clear m2 f2 v0 v1 v2 v3 v4 v5 v6 z0 z1 z2 z3 z4 z5 z6 q0)
  have HS2 := Lib.hid hs2
  obtain ⟨-, -, m2, -, -, f2⟩ := hs2.rd.cells
  obtain ⟨⟨v0, v1, v2, v3, v4, v5, v6⟩, z0, z1, z2, z3, z4, z5, z6⟩ := cells7 hs2.bx
  have q0 := hs2.bq.cell 0
  clear hs2
  go_upto_region 8 with (go_at_call 200; refine (take_T 201 rule1_enters #[.pointer (some ⟨w.heap.size, 0, none⟩)] tk2 HS2.out (rule1_any w.heap.size w2 q0)).mono ?_; rintro e w3 ⟨rfl, hs3⟩; clear m2 f2 v0 v1 v2 v3 v4 v5 v6 z0 z1 z2 z3 z4 z5 z6 q0; obtain ⟨-, -, m2, -, -, f2⟩ := hs3.rd.cells; obtain ⟨⟨v0, v1, v2, v3, v4, v5, v6⟩, z0, z1, z2, z3, z4, z5, z6⟩ := cells7 hs3.bx; have q0 := hs3.bq.cell 0)
  obtain ⟨W4, e4⟩ : ∃ W, W = w3.setCell ⟨w.heap.size + 1, 0, none⟩ (.string ⟨#[119, 101, 98]⟩) := ⟨_, rfl⟩
  have hs4 : RuS w W4 p b c #[.string ⟨#[119, 101, 98]⟩, .bool true, .slice none 0 0, .int .u64 0, .int .i64 0, .int .i64 0, .int .i64 0] 10 ⟨#[123]⟩ := by rw [e4]; exact hs3.put 0 _
  try rw [← e4]
  clear e4
  clear m2 f2 v0 v1 v2 v3 v4 v5 v6 z0 z1 z2 z3 z4 z5 z6 q0
  clear hs3
  have HS4 := Lib.hid hs4
  obtain ⟨-, -, m2, -, -, f2⟩ := hs4.rd.cells
  obtain ⟨⟨v0, v1, v2, v3, v4, v5, v6⟩, z0, z1, z2, z3, z4, z5, z6⟩ := cells7 hs4.bx
  have q0 := hs4.bq.cell 0
  clear hs4
  go_wp2_with (go_at_call 205; refine (want_T tk3 HS4.out).mono ?_; rintro e w5 ⟨rfl, hs5⟩; clear m2 f2 v0 v1 v2 v3 v4 v5 v6 z0 z1 z2 z3 z4 z5 z6 q0)
  have HS5 := Lib.hid hs5
  obtain ⟨-, -, m2, -, -, f2⟩ := hs5.rd.cells
  obtain ⟨⟨v0, v1, v2, v3, v4, v5, v6⟩, z0, z1, z2, z3, z4, z5, z6⟩ := cells7 hs5.bx
  have q0 := hs5.bq.cell 0
  clear hs5
  go_loopg [40] 0 (fun m s40 wr => w5 = wr)
  case atStart => rfl
  case round =>
    subst hrel
    obtain ⟨i0, hi, hz0, hz1, hz2⟩ := info_parts Tryz.infoStr
    have hd : RuS w w5.drew p b c #[.string ⟨#[119, 101, 98]⟩, .bool true, .slice none 0 0, .int .u64 0, .int .i64 0, .int .i64 0, .int .i64 0] 12 ⟨#[42, 46, 97]⟩ := HS5.out.ext (Ext.refl _).drew
    have HD := Lib.hid hd
    clear hd
    clear m2 f2 v0 v1 v2 v3 v4 v5 v6 z0 z1 z2 z3 z4 z5 z6 q0
    go_upto_region 9 with (fail)
    refine E_start (n := 9) (ls := #[false, false, false, false, false, false, false, false, false]) (fun w' => w'.cell? ⟨w.heap.size + 1, 2, none⟩ = some (.slice none 0 0)) 8 (by kernel_rfl) (by kernel_rfl) (by kernel_rfl) (HD.out.bx.cell 2) (fun hHeld => ?_)
    refine E_take (i := 0) (some 40) (ls' := #[true, false, false, false, false, false, false, false, false]) rfl rfl (by kernel_rfl) (by kernel_rfl) (by kernel_rfl) (by kernel_rfl) (by kernel_rfl) (by rfl) (v := ?_) ?_ hHeld ?_
    rotate_left 1
    · intro w hSw; (try dsimp only at hSw); go_simp; try with_reducible rfl
    try simp only [Act.put, List.setIfInBounds_toArray, List.set_cons_zero, List.set_cons_succ]
    refine E_take (i := 1) (some 41) (ls' := #[true, true, false, false, false, false, false, false, false]) rfl rfl (by kernel_rfl) (by kernel_rfl) (by kernel_rfl) (by kernel_rfl) (by kernel_rfl) (by rfl) (v := ?_) ?_ hHeld ?_
    rotate_left 1
    · intro w hSw; (try dsimp only at hSw); go_simp; try with_reducible rfl
    try simp only [Act.put, List.setIfInBounds_toArray, List.set_cons_zero, List.set_cons_succ]
    refine E_take (i := 2) (some 42) (ls' := #[true, true, true, false, false, false, false, false, false]) rfl rfl (by kernel_rfl) (by kernel_rfl) (by kernel_rfl) (by kernel_rfl) (by kernel_rfl) (by rfl) (v := ?_) ?_ hHeld ?_
    rotate_left 1
    · intro w hSw; (try dsimp only at hSw); go_simp; try with_reducible rfl
    try simp only [Act.put, List.setIfInBounds_toArray, List.set_cons_zero, List.set_cons_succ]
    refine E_take (i := 3) (some 43) (ls' := #[true, true, true, true, false, false, false, false, false]) rfl rfl (by kernel_rfl) (by kernel_rfl) (by kernel_rfl) (by kernel_rfl) (by kernel_rfl) (by rfl) (v := ?_) ?_ hHeld ?_
    rotate_left 1
    · intro w hSw; (try dsimp only at hSw); go_simp; try with_reducible rfl
    try simp only [Act.put, List.setIfInBounds_toArray, List.set_cons_zero, List.set_cons_succ]
    refine E_one (i := 4) (ls' := #[true, true, true, true, true, false, false, false, false]) rfl (by kernel_rfl) (by kernel_rfl) (by rfl) (fun K hK => ?_)
    go_simp
    go_at_call 200
    refine (take_T 206 rule2_enters #[.pointer (some ⟨w.heap.size + 1, 0, none⟩)] tk4 HD.out (rule2_any (w.heap.size + 1) w5.drew (HD.out.bx.cell 2))).mono ?_
    rintro e w6 ⟨rfl, hs6⟩
    have HS6 := Lib.hid hs6
    have hH1 : w6.cell? ⟨w.heap.size + 1, 2, none⟩ = some (.slice none 0 0) := hs6.bx.cell 2
    clear hs6
    have hHeld2 := hH1
    clear hHeld
    have hHeld := hHeld2
    clear hHeld2
    refine hK _ _ (fun _ => hHeld) ?_
    clear hK K
    try simp only [Act.put, List.setIfInBounds_toArray, List.set_cons_zero, List.set_cons_succ]
    refine E_one (i := 5) (ls' := #[true, true, true, true, true, true, false, false, false]) rfl (by kernel_rfl) (by kernel_rfl) (by rfl) (fun K hK => ?_)
    go_simp
    have hH2 : (w6.alloc (.cells #[.string ⟨#[42, 46, 97]⟩] 9)).cell? ⟨w.heap.size + 1, 2, none⟩ = some (.slice none 0 0) := (Blk.alloc HS6.out.bx _).cell 2
    have hHeld2 := hH2
    clear hHeld
    have hHeld := hHeld2
    clear hHeld2
    refine hK _ _ (fun _ => hHeld) ?_
    clear hK K
    try simp only [Act.put, List.setIfInBounds_toArray, List.set_cons_zero, List.set_cons_succ]
    refine E_one (i := 6) (ls' := #[true, true, true, true, true, true, true, false, false]) rfl (by kernel_rfl) (by kernel_rfl) (by rfl) (fun K hK => ?_)
    clear hHeld
    refine wp_append_any _ (.tmp 41) (.tmp 45) 65 rfl w6.heap.size 9 i0 (.string ⟨#[]⟩) 1 16 Tryz.underlying65 hi hz0 hz1 hz2 rfl (by decide) (.slice none 0 0) 0 [] rfl (World.ownsRow_nil _ _ _ _) _ (some ⟨w6.heap.size, 0, none⟩) 1 1 [.string ⟨#[42, 46, 97]⟩] rfl (reads_oneR w6 9 _) (by simp [Value.oneCell']) (by simp [maxLen]) (by decide) (by simp) ?_
    intro v7 w7 hown7 hg7 _
    obtain ⟨A7, c7, rfl, -, -⟩ := own_slice hown7
    have X7 : Ext w6 w7 := ext_grown ((Ext.refl w6).alloc _) (World.ownsRow_nil _ _ 9 1) hg7
    have hs7 := HS6.out.ext X7
    have HS7 := Lib.hid hs7
    have hH3 : w7.cell? ⟨w.heap.size + 1, 2, none⟩ = some (.slice none 0 0) := hs7.bx.cell 2
    have f7 := hs7.bx.frozen 2
    have hHeld := hH3
    clear hown7 hg7 X7 hs7
    have hHeld2 := hH3
    clear hHeld
    have hHeld := hHeld2
    clear hHeld2
    refine hK _ _ (fun _ => hHeld) ?_
    clear hK K
    try simp only [Act.put, List.setIfInBounds_toArray, List.set_cons_zero, List.set_cons_succ]
    refine E_one (i := 7) (ls' := #[true, true, true, true, true, true, true, true, false]) rfl (by kernel_rfl) (by kernel_rfl) (by rfl) (fun K hK => ?_)
    go_simp
    refine hK _ _ (fun _ => hHeld) ?_
    clear hK K
    try simp only [Act.put, List.setIfInBounds_toArray, List.set_cons_zero, List.set_cons_succ]
    refine E_one (i := 8) (ls' := #[true, true, true, true, true, true, true, true, true]) rfl (by kernel_rfl) (by kernel_rfl) (by rfl) (fun K hK => ?_)
    clear hHeld
    go_simp
    refine hK _ _ (fun h => absurd rfl h) ?_
    clear hK K
    try simp only [Act.put, List.setIfInBounds_toArray, List.set_cons_zero, List.set_cons_succ]
    refine E_done (by kernel_rfl) ?_
    obtain ⟨W7, e7⟩ : ∃ W, W = w7.setCell ⟨w.heap.size + 1, 2, none⟩ (.slice A7 1 c7) := ⟨_, rfl⟩
    have hs7 : RuS w W7 p b c #[.string ⟨#[119, 101, 98]⟩, .bool true, .slice A7 1 c7, .int .u64 0, .int .i64 0, .int .i64 0, .int .i64 0] 15 ⟨#[59]⟩ := by rw [e7]; exact HS7.out.put 2 _
    try rw [← e7]
    clear e7
    clear hH1 hH2 hH3 f7
    have HS7 := Lib.hid hs7
    obtain ⟨-, -, m2, -, -, f2⟩ := hs7.rd.cells
    obtain ⟨⟨v0, v1, v2, v3, v4, v5, v6⟩, z0, z1, z2, z3, z4, z5, z6⟩ := cells7 hs7.bx
    have q0 := hs7.bq.cell 0
    clear hs7
    go_upto_region 12 with (fail)
    go_upto_region 13 with (go_at_call 205; refine (want_T tk5 HS7.out).mono ?_; rintro e w8 ⟨rfl, hs8⟩; clear m2 f2 v0 v1 v2 v3 v4 v5 v6 z0 z1 z2 z3 z4 z5 z6 q0)
    have HS8 := Lib.hid hs8
    obtain ⟨-, -, m2, -, -, f2⟩ := hs8.rd.cells
    obtain ⟨⟨v0, v1, v2, v3, v4, v5, v6⟩, z0, z1, z2, z3, z4, z5, z6⟩ := cells7 hs8.bx
    have q0 := hs8.bq.cell 0
    clear hs8
    go_upto_region 18 with (fail)
    go_upto_region 19 with (go_at_call 205; refine (want_T tk6 HS8.out).mono ?_; rintro e w9 ⟨rfl, hs9⟩; clear m2 f2 v0 v1 v2 v3 v4 v5 v6 z0 z1 z2 z3 z4 z5 z6 q0)
    have HS9 := Lib.hid hs9
    obtain ⟨-, -, m2, -, -, f2⟩ := hs9.rd.cells
    obtain ⟨⟨v0, v1, v2, v3, v4, v5, v6⟩, z0, z1, z2, z3, z4, z5, z6⟩ := cells7 hs9.bx
    have q0 := hs9.bq.cell 0
    clear hs9
    go_upto_region 20 with (go_at_call 209; refine (number_T tk7 HS9.out).mono ?_; rintro e w10 ⟨rfl, hs10⟩; clear m2 f2 v0 v1 v2 v3 v4 v5 v6 z0 z1 z2 z3 z4 z5 z6 q0; obtain ⟨-, -, m2, -, -, f2⟩ := hs10.rd.cells; obtain ⟨⟨v0, v1, v2, v3, v4, v5, v6⟩, z0, z1, z2, z3, z4, z5, z6⟩ := cells7 hs10.bx; have q0 := hs10.bq.cell 0)
    obtain ⟨W11, e11⟩ : ∃ W, W = w10.setCell ⟨w.heap.size + 1, 4, none⟩ (.int .i64 9) := ⟨_, rfl⟩
    have hs11 : RuS w W11 p b c #[.string ⟨#[119, 101, 98]⟩, .bool true, .slice A7 1 c7, .int .u64 0, .int .i64 9, .int .i64 0, .int .i64 0] 23 ⟨#[59]⟩ := by rw [e11]; exact hs10.put 4 _
    try rw [← e11]
    clear e11
    clear m2 f2 v0 v1 v2 v3 v4 v5 v6 z0 z1 z2 z3 z4 z5 z6 q0
    clear hs10
    have HS11 := Lib.hid hs11
    obtain ⟨-, -, m2, -, -, f2⟩ := hs11.rd.cells
    obtain ⟨⟨v0, v1, v2, v3, v4, v5, v6⟩, z0, z1, z2, z3, z4, z5, z6⟩ := cells7 hs11.bx
    have q0 := hs11.bq.cell 0
    clear hs11
    go_upto_region 21 with (go_at_call 205; refine (want_T tk8 HS11.out).mono ?_; rintro e w12 ⟨rfl, hs12⟩; clear m2 f2 v0 v1 v2 v3 v4 v5 v6 z0 z1 z2 z3 z4 z5 z6 q0)
    have HS12 := Lib.hid hs12
    obtain ⟨-, -, m2, -, -, f2⟩ := hs12.rd.cells
    obtain ⟨⟨v0, v1, v2, v3, v4, v5, v6⟩, z0, z1, z2, z3, z4, z5, z6⟩ := cells7 hs12.bx
    have q0 := hs12.bq.cell 0
    clear hs12
    go_upto_region 27 with (fail)
    go_upto_region 28 with (go_at_call 205; refine (want_T tk9 HS12.out).mono ?_; rintro e w13 ⟨rfl, hs13⟩; clear m2 f2 v0 v1 v2 v3 v4 v5 v6 z0 z1 z2 z3 z4 z5 z6 q0)
    have HS13 := Lib.hid hs13
    obtain ⟨-, -, m2, -, -, f2⟩ := hs13.rd.cells
    obtain ⟨⟨v0, v1, v2, v3, v4, v5, v6⟩, z0, z1, z2, z3, z4, z5, z6⟩ := cells7 hs13.bx
    have q0 := hs13.bq.cell 0
    clear hs13
    have hsF : RuS w (((((((w13.setCell ⟨w.heap.size + 1, 0, none⟩ (.string ⟨#[119, 101, 98]⟩)).setCell ⟨w.heap.size + 1, 1, none⟩ (.bool true)).setCell ⟨w.heap.size + 1, 2, none⟩ (.slice A7 1 c7)).setCell ⟨w.heap.size + 1, 3, none⟩ (.int .u64 0)).setCell ⟨w.heap.size + 1, 4, none⟩ (.int .i64 9)).setCell ⟨w.heap.size + 1, 5, none⟩ (.int .i64 0)).setCell ⟨w.heap.size + 1, 6, none⟩ (.int .i64 0)) p b c #[.string ⟨#[119, 101, 98]⟩, .bool true, .slice A7 1 c7, .int .u64 0, .int .i64 9, .int .i64 0, .int .i64 0] 26 ⟨#[]⟩ := ((((((HS13.out.put 0 (.string ⟨#[119, 101, 98]⟩)).put 1 (.bool true)).put 2 (.slice A7 1 c7)).put 3 (.int .u64 0)).put 4 (.int .i64 9)).put 5 (.int .i64 0)).put 6 (.int .i64 0)
    have HSF := Lib.hid hsF
    clear hsF
    go_wp2
    obtain ⟨⟨v0, v1, v2, v3, v4, v5, v6⟩, -⟩ := cells7 HSF.out.bx
    refine bodyPost_ret (v := .agg #[.string ⟨#[119, 101, 98]⟩, .bool true, .slice A7 1 c7, .int .u64 0, .int .i64 9, .int .i64 0, .int .i64 0]) (by simp [results, Tryz.results114, go_sem, v0, v1, v2, v3, v4, v5, v6]) rfl ⟨A7, c7, rfl, HSF.out.rd, HSF.out.tx, HSF.out.gr⟩
end Go.Proofs.YtfpmfegmehbfbaaGreatDoor

/- Rules, read: Parse (of the one text that 'up' reads). -/
namespace Go.Proofs.YtfpmfegmehbfbaaGreatDoor
set_option linter.unusedVariables false
set_option linter.unusedSimpArgs false
set_option linter.unusedSimpArgs false
open Go.RowKit Go.Shelf

theorem parse1_idle (x y z : Value) (w : World) :
    CallsD Tryz.prog 112 #[x, y, z] .returning w fun e u' w' => e = .returned (.tuple #[]) ∧ u' = .returning ∧ w' = w := by
  refine callsD_of_wpS Tryz.func112 rfl fun c₀ cs hu => ?_
  apply wpS_seq
  apply wpS_region
  simp [wpOpsS, go_sem, recoverD, hu, Tryz.ntmps112, Exit.thenS]
  refine wpS_of_wp ?_
  go_wp2
  cases c₀
  simp_all [bodyPostS, results, Tryz.results112]
theorem Tryz.infoRule : (Tryz.prog.info? 121).map (fun i => (i.zero, i.size, i.bytes)) = some (some (.agg #[.string ⟨#[]⟩, .bool false, .slice none 0 0, .int .u64 0, .int .i64 0, .int .i64 0, .int .i64 0]), 7, 80) := by kernel_rfl
theorem reads_rows (W : World) (T : TypeId) (xs : List Value) : Reads (W.alloc (.cells xs.toArray T)) (W.alloc (.cells xs.toArray T)).heap.size xs.length (some ⟨W.heap.size, 0, none⟩) 1 xs :=
  ⟨by simp, fun _ => ⟨_, rfl, by simp, fun j u hj => by
    rw [show (⟨W.heap.size, 0, none⟩ : Addr).add j = ⟨W.heap.size, j, none⟩ by simp [Addr.add]; exact fun h => h.symm, (Blk.new W T xs.toArray).cell j]
    simpa using hj⟩⟩
theorem own_rule {w : World} {base : Nat} {e : TypeId} {v : Value} {u0 u1 u2 u3 u4 u5 u6 : Value} (h : w.ownsRow base e 7 v (0 + 1) ([] ++ [u0, u1, u2, u3, u4, u5, u6])) : ∃ g c, v = .slice (some ⟨g, 0, none⟩) 1 c ∧ base ≤ g ∧ w.cell? ⟨g, 4, none⟩ = some u4 := by
  obtain ⟨A, c, hv, hc, hr⟩ := own_slice2 h
  obtain ⟨ad, rfl, hlt, hcell⟩ := hr.2 (by decide)
  rcases h.2 with ⟨rfl, h0⟩ | ⟨g, cap, cur, rfl, hbg, _⟩
  · cases hv
  · cases hv
    exact ⟨g, c, rfl, hbg, hcell 4 u4 rfl⟩
theorem boxes3R (w : World) (x y z : Array Value) (T U V : TypeId) : ∃ W, ((w.alloc (.cells x T)).alloc (.cells y U)).alloc (.cells z V) = W ∧ Blk W w.heap.size T x ∧ Blk W (w.heap.size + 1) U y ∧ Blk W (w.heap.size + 1 + 1) V z ∧ Ext w W ∧ W.heap.size = w.heap.size + 3 := by
  refine ⟨_, rfl, ((Blk.new w T x).alloc _).alloc _, ?_, ?_, (((Ext.refl w).alloc _).alloc _).alloc _, by simp⟩
  · have := (Blk.new (w.alloc (.cells x T)) U y).alloc (.cells z V)
    rwa [World.size_alloc] at this
  · have := Blk.new ((w.alloc (.cells x T)).alloc (.cells y U)) V z
    rwa [World.size_alloc, World.size_alloc] at this
/-- The world while a text is read. -/
structure PaS (w W : World) (b c : Nat) (v : Value) (a : Nat) (tok : ByteArray) : Prop where
  b0 : Blk W w.heap.size 116 #[v]
  b1 : Blk W (w.heap.size + 1) 3 #[.int .i64 0]
  b2 : Blk W (w.heap.size + 1 + 1) 39 #[.int .i64 0]
  rd : Rd W (w.heap.size + 3) b rdT c a tok
  tx : Lib.Bytes W b 0 rdT
  x : Ext w W
  bl : b < w.heap.size
  cc : rdT.size ≤ c ∧ c ≤ 9223372036854775807
variable {w W W' : World} {b c a a1 : Nat} {v : Value} {tok tok1 : ByteArray}
theorem PaS.ne (h : PaS w W b c v a tok) : b ≠ w.heap.size + 3 := by have := h.bl; omega
theorem PaS.step (h : PaS w W b c v a tok) (g : W.grownBy W' (some (w.heap.size + 3))) (r : Rd W' (w.heap.size + 3) b rdT c a1 tok1) : PaS w W' b c v a1 tok1 :=
  ⟨Blk.grown h.b0 g (by simp), Blk.grown h.b1 g (by simp), Blk.grown h.b2 g (by simp), r, bytes_grown h.tx g (by have := h.ne; simp; omega), Ext.of (h.x.out.grown g h.x.size (fun k e => by cases e; omega)), h.bl, h.cc⟩
theorem PaS.ext (h : PaS w W b c v a tok) (x : Ext W W') : PaS w W' b c v a tok :=
  ⟨Blk.below h.b0 x.out h.b0.lt, Blk.below h.b1 x.out h.b1.lt, Blk.below h.b2 x.out h.b2.lt, Blk.below h.rd x.out (Blk.lt h.rd), bytes_grown h.tx (grown_extN x) (by simp), h.x.trans x, h.bl, h.cc⟩
theorem PaS.put (h : PaS w W b c v a tok) (u : Value) : PaS w (W.setCell ⟨w.heap.size, 0, none⟩ u) b c u a tok := by
  have hg := grown_cell W w.heap.size 0 u
  exact ⟨Blk.set_ h.b0 0 u, Blk.grown h.b1 hg (by simp), Blk.grown h.b2 hg (by simp; omega), Blk.grown h.rd hg (by simp), bytes_grown h.tx hg (by have := h.bl; simp; omega), h.x.setCell (p := ⟨w.heap.size, 0, none⟩) (Nat.le_refl _) _, h.bl, h.cc⟩
set_option maxRecDepth 100000 in
set_option maxHeartbeats 8000000 in
theorem Parse_any (b c : Nat) (w : World) (ht : Lib.Bytes w b 0 rdT) (hc : rdT.size ≤ c ∧ c ≤ 9223372036854775807) :
    Calls Tryz.prog 43 #[.slice (some ⟨b, 0, none⟩) 26 c] w fun e w' => ∃ g cp, e = .returned (.tuple #[.slice (some ⟨g, 0, none⟩) 1 cp, .int .i64 0, .int .i64 0]) ∧ w'.cell? ⟨g, 4, none⟩ = some (.int .i64 9) ∧ Ext w w' := by
  obtain ⟨W0, e0, b0, b1, b2, x0, s0⟩ := boxes3R w #[.slice none 0 0] #[.int .i64 0] #[.int .i64 0] 116 3 39
  have hmf : ∀ (fn : Fn) (first cap : Array Value) (w : World), (Instr.makeFunc fn first cap).run Tryz.prog w = .ok (.func fn first cap) w := fun _ _ _ _ => rfl
  obtain ⟨W1, e1⟩ : ∃ W, W0.alloc (.cells #[.slice (some ⟨b, 0, none⟩) 26 c, .int .i64 0, .string ⟨#[]⟩] 205) = W := ⟨_, rfl⟩
  have hs1 : PaS w W1 b c (.slice none 0 0) 0 ⟨#[]⟩ := by
    rw [← e1]
    have hr := Blk.new W0 205 #[.slice (some ⟨b, 0, none⟩) 26 c, .int .i64 0, .string ⟨#[]⟩]
    rw [s0] at hr
    exact ⟨b0.alloc _, b1.alloc _, b2.alloc _, hr, bytes_grown ht (grown_extN (x0.alloc _)) (by simp), x0.alloc _, World.block_lt_of_cell? _ _ (ht 0 (by decide)), hc⟩
  have c1 := (next_any rdT (by decide) b c (w.heap.size + 3) 0 0 ⟨#[]⟩ W1 hs1.ne hc.1 hc.2 hs1.tx hs1.rd tk0.h1 tk0.h2 tk0.sk tk0.st)
  rw [tk0.he] at c1
  have HS1 := Lib.hid hs1
  have HS0 := Lib.hid s0
  have m0 := b0.cell 0
  have m1 := b1.cell 0
  have m2 := b2.cell 0
  clear b0 b1 b2 x0 ht hs1 hc
  go_enter_defers Tryz.func43, Tryz.ntmps43
  go_upto_region 5 with (fail)
  try rw [e1]
  try rw [HS0.out]
  clear e0 e1 m0 m1 m2
  go_wp2_with (go_at_call 113; refine c1.mono ?_; clear c1; rintro e w2 ⟨rfl, r2, g2⟩)
  have hs2 := HS1.out.step g2 r2
  clear r2 g2
  go_loopg [20] 1 (fun m s20 wr => (m = 1 ∧ PaS w wr b c (.slice none 0 0) 0 ⟨#[97, 108, 108, 111, 119]⟩) ∨ (m = 0 ∧ ∃ g cp, PaS w wr b c (.slice (some ⟨g, 0, none⟩) 1 cp) 26 ⟨#[]⟩ ∧ wr.cell? ⟨g, 4, none⟩ = some (.int .i64 9)))
  case atStart => exact .inl ⟨rfl, hs2⟩
  case round =>
    clear hs2
    rcases hrel with ⟨rfl, hs⟩ | ⟨rfl, g, cp, hs, hc9⟩
    · obtain ⟨i0, hi, hz0, hz1, hz2⟩ := info_parts Tryz.infoRule
      have hd : PaS w wr.drew b c (.slice none 0 0) 0 ⟨#[97, 108, 108, 111, 119]⟩ := hs.ext (Ext.refl _).drew
      have HD := Lib.hid hd
      obtain ⟨-, -, n2, -, -, k2⟩ := hs.rd.cells
      clear hs hd
      go_upto_region 7 with (fail)
      clear n2 k2
      refine E_start (n := 7) (ls := #[false, false, false, false, false, false, false]) (fun w' => w'.cell? ⟨w.heap.size, 0, none⟩ = some (.slice none 0 0)) 6 (by kernel_rfl) (by kernel_rfl) (by kernel_rfl) (HD.out.b0.cell 0) (fun hHeld => ?_)
      refine E_take (i := 0) (some 20) (ls' := #[true, false, false, false, false, false, false]) rfl rfl (by kernel_rfl) (by kernel_rfl) (by kernel_rfl) (by kernel_rfl) (by kernel_rfl) (by rfl) (v := ?_) ?_ hHeld ?_
      rotate_left 1
      · intro w hSw; (try dsimp only at hSw); go_simp; try with_reducible rfl
      try simp only [Act.put, List.setIfInBounds_toArray, List.set_cons_zero, List.set_cons_succ]
      refine E_take (i := 1) (some 21) (ls' := #[true, true, false, false, false, false, false]) rfl rfl (by kernel_rfl) (by kernel_rfl) (by kernel_rfl) (by kernel_rfl) (by kernel_rfl) (by rfl) (v := ?_) ?_ hHeld ?_
      rotate_left 1
      · intro w hSw; (try dsimp only at hSw); go_simp; try with_reducible rfl
      try simp only [Act.put, List.setIfInBounds_toArray, List.set_cons_zero, List.set_cons_succ]
      refine E_take (i := 2) (some 22) (ls' := #[true, true, true, false, false, false, false]) rfl rfl (by kernel_rfl) (by kernel_rfl) (by kernel_rfl) (by kernel_rfl) (by kernel_rfl) (by rfl) (v := ?_) ?_ hHeld ?_
      rotate_left 1
      · intro w hSw; (try dsimp only at hSw); go_simp; try with_reducible rfl
      try simp only [Act.put, List.setIfInBounds_toArray, List.set_cons_zero, List.set_cons_succ]
      refine E_one (i := 3) (ls' := #[true, true, true, true, false, false, false]) rfl (by kernel_rfl) (by kernel_rfl) (by rfl) (fun K hK => ?_)
      go_simp
      go_at_call 114
      refine (rule_any (w.heap.size + 3) b c wr.drew HD.out.rd HD.out.tx HD.out.ne HD.out.cc).mono ?_
      rintro e w6 ⟨A6, c6, rfl, r6, t6, g6⟩
      have hs6 := HD.out.step g6 r6
      have HS6 := Lib.hid hs6
      have hH1 := hs6.b0.cell 0
      clear hs6 r6 t6 g6
      have hHeld2 := hH1
      clear hHeld
      have hHeld := hHeld2
      clear hHeld2
      refine hK _ _ (fun _ => hHeld) ?_
      clear hK K
      try simp only [Act.put, List.setIfInBounds_toArray, List.set_cons_zero, List.set_cons_succ]
      refine E_one (i := 4) (ls' := #[true, true, true, true, true, false, false]) rfl (by kernel_rfl) (by kernel_rfl) (by rfl) (fun K hK => ?_)
      go_simp
      have hH2 : (w6.alloc (.cells #[.string ⟨#[119, 101, 98]⟩, .bool true, .slice A6 1 c6, .int .u64 0, .int .i64 9, .int .i64 0, .int .i64 0] 121)).cell? ⟨w.heap.size, 0, none⟩ = some (.slice none 0 0) := (Blk.alloc HS6.out.b0 _).cell 0
      have hHeld2 := hH2
      clear hHeld
      have hHeld := hHeld2
      clear hHeld2
      refine hK _ _ (fun _ => hHeld) ?_
      clear hK K
      try simp only [Act.put, List.setIfInBounds_toArray, List.set_cons_zero, List.set_cons_succ]
      refine E_one (i := 5) (ls' := #[true, true, true, true, true, true, false]) rfl (by kernel_rfl) (by kernel_rfl) (by rfl) (fun K hK => ?_)
      clear hHeld
      refine wp_append_any _ (.tmp 20) (.tmp 24) 116 rfl w6.heap.size 121 i0 (.agg #[.string ⟨#[]⟩, .bool false, .slice none 0 0, .int .u64 0, .int .i64 0, .int .i64 0, .int .i64 0]) 7 80 Tryz.underlying116 hi hz0 hz1 hz2 rfl (by decide) (.slice none 0 0) 0 [] rfl (World.ownsRow_nil _ _ _ _) _ (some ⟨w6.heap.size, 0, none⟩) 1 1 [.string ⟨#[119, 101, 98]⟩, .bool true, .slice A6 1 c6, .int .u64 0, .int .i64 9, .int .i64 0, .int .i64 0] rfl (reads_rows w6 121 _) (by simp [Value.oneCell']) (by simp [maxLen]) (by decide) (by simp) ?_
      intro v7 w7 hown7 hg7 _
      obtain ⟨g7, c7, rfl, hb7, hc7⟩ := own_rule hown7
      have X7 : Ext w6 w7 := ext_grown ((Ext.refl w6).alloc _) (World.ownsRow_nil _ _ 121 7) hg7
      have hs7 := HS6.out.ext X7
      have HS7 := Lib.hid hs7
      have hH3 := hs7.b0.cell 0
      have f7 := hs7.b0.frozen 0
      have HC7 := Lib.hid hc7
      have HB7 := Lib.hid hb7
      have hHeld := hH3
      clear hown7 hg7 X7 hs7 hc7 hb7
      have hHeld2 := hH3
      clear hHeld
      have hHeld := hHeld2
      clear hHeld2
      refine hK _ _ (fun _ => hHeld) ?_
      clear hK K
      try simp only [Act.put, List.setIfInBounds_toArray, List.set_cons_zero, List.set_cons_succ]
      refine E_one (i := 6) (ls' := #[true, true, true, true, true, true, true]) rfl (by kernel_rfl) (by kernel_rfl) (by rfl) (fun K hK => ?_)
      clear hHeld
      go_simp
      refine hK _ _ (fun h => absurd rfl h) ?_
      clear hK K
      try simp only [Act.put, List.setIfInBounds_toArray, List.set_cons_zero, List.set_cons_succ]
      refine E_done (by kernel_rfl) ?_

      obtain ⟨W8, e8⟩ : ∃ W, W = w7.setCell ⟨w.heap.size, 0, none⟩ (.slice (some ⟨g7, 0, none⟩) 1 c7) := ⟨_, rfl⟩
      have hs8 : PaS w W8 b c (.slice (some ⟨g7, 0, none⟩) 1 c7) 26 ⟨#[]⟩ := by rw [e8]; exact HS7.out.put _
      have hc8 : W8.cell? ⟨g7, 4, none⟩ = some (.int .i64 9) := by
        rw [e8]
        exact (World.cell?_setCell_other _ _ _ _ (fun h => by cases h)).trans HC7.out
      try rw [← e8]
      clear e8 hH1 hH2 hH3 f7
      go_wp2
      go_roundg 0
      case measure => omega
      case rel => exact .inr ⟨rfl, g7, c7, hs8, hc8⟩
    · obtain ⟨-, -, n2, -, -, k2⟩ := hs.rd.cells
      have m0 := hs.b0.cell 0
      have m1 := hs.b1.cell 0
      have m2 := hs.b2.cell 0
      have f0 := hs.b0.frozen 0
      have f1 := hs.b1.frozen 0
      have f2 := hs.b2.frozen 0
      have HS := Lib.hid hs
      have HC := Lib.hid hc9
      clear hs hc9
      go_wp2
      obtain ⟨W9, e9⟩ : ∃ W, W = (((wr.setCell ⟨w.heap.size, 0, none⟩ (.slice (some ⟨g, 0, none⟩) 1 cp)).setCell ⟨w.heap.size + 1, 0, none⟩ (.int .i64 0)).setCell ⟨w.heap.size + 1 + 1, 0, none⟩ (.int .i64 0)) := ⟨_, rfl⟩
      have y0 : Blk W9 w.heap.size 116 #[.slice (some ⟨g, 0, none⟩) 1 cp] := by
        rw [e9]; exact ((Blk.set_ HS.out.b0 0 _).far (by simp) _).far (by simp; omega) _
      have y1 : Blk W9 (w.heap.size + 1) 3 #[.int .i64 0] := by
        rw [e9]; exact (Blk.set_ (HS.out.b1.far (by simp) _) 0 _).far (by simp) _
      have y2 : Blk W9 (w.heap.size + 1 + 1) 39 #[.int .i64 0] := by
        rw [e9]; exact Blk.set_ ((HS.out.b2.far (by simp; omega) _).far (by simp) _) 0 _
      have yx : Ext w W9 := by
        rw [e9]; exact ((HS.out.x.setCell (p := ⟨w.heap.size, 0, none⟩) (Nat.le_refl _) _).setCell (p := ⟨w.heap.size + 1, 0, none⟩) (Nat.le_succ _) _).setCell (p := ⟨w.heap.size + 1 + 1, 0, none⟩) (by simp; omega) _
      have yc : W9.cell? ⟨g, 4, none⟩ = some (.int .i64 9) := by
        rw [e9]
        exact (World.cell?_setCell_other _ _ _ _ (fun h => by cases h)).trans ((World.cell?_setCell_other _ _ _ _ (fun h => by cases h)).trans ((World.cell?_setCell_other _ _ _ _ (fun h => by cases h)).trans HC.out))
      try rw [← e9]
      have n0 := y0.cell 0
      have n1 := y1.cell 0
      have n2 := y2.cell 0
      clear e9 m0 m1 m2 f0 f1 f2
      refine leaves_cons (f := 112) (args := #[.pointer (some ⟨w.heap.size, 0, none⟩), .pointer (some ⟨w.heap.size + 1, 0, none⟩), .pointer (some ⟨w.heap.size + 1 + 1, 0, none⟩)]) (by simp) (by simp [go_sem]) ?_
      refine (parse1_idle _ _ _ _).mono ?_
      rintro e u' w'' ⟨rfl, rfl, rfl⟩
      refine ⟨.tuple #[.slice (some ⟨g, 0, none⟩) 1 cp, .int .i64 0, .int .i64 0], by simp [results, Tryz.results43, go_sem, n0, n1, n2], g, cp, rfl, yc, yx⟩
end Go.Proofs.YtfpmfegmehbfbaaGreatDoor
