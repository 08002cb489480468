/- Parts of the proofs, put together: Rd2. -/
import Derived.Lib.SmallJoins
import Derived.Test.YtfpmfegmehbfbaaGreatDoorZ15
import Derived.Test.YtfpmfegmehbfbaaGreatDoorZ21
/- Rules, read: what judges a token (of the one text that 'up' reads). -/
namespace Go.Proofs.YtfpmfegmehbfbaaGreatDoor
set_option linter.unusedVariables false
set_option linter.unusedSimpArgs false
open Go.RowKit Go.Shelf

set_option maxRecDepth 100000 in
theorem Trim_web (w : World) : Calls Tryz.prog 250 #[.string ⟨#[119, 101, 98]⟩, .string ⟨#[97, 98, 99, 100, 101, 102, 103, 104, 105, 106, 107, 108, 109, 110, 111, 112, 113, 114, 115, 116, 117, 118, 119, 120, 121, 122, 48, 49, 50, 51, 52, 53, 54, 55, 56, 57, 45]⟩] w fun e w' => e = .returned (.string ⟨#[]⟩) ∧ Ext w w' := by
  have h116 : (Tryz.prog.info? 337).map (fun i => (i.zero, i.size)) = some (some (.agg (Array.replicate 256 (.bool false))), 256) := by kernel_rfl
  refine (Any.strings_Trim_laid Tryz.lays160 h116 ⟨#[119, 101, 98]⟩ ⟨#[97, 98, 99, 100, 101, 102, 103, 104, 105, 106, 107, 108, 109, 110, 111, 112, 113, 114, 115, 116, 117, 118, 119, 120, 121, 122, 48, 49, 50, 51, 52, 53, 54, 55, 56, 57, 45]⟩ w (by decide) (by decide) (ascii_of_all (by decide))).mono ?_
  rintro e w' ⟨rfl, x⟩
  refine ⟨?_, Ext.of x⟩
  congr 2
set_option maxRecDepth 100000 in
theorem named_web (w : World) : Calls Tryz.prog 202 #[.string ⟨#[119, 101, 98]⟩] w fun e w' => e = .returned (.bool true) ∧ Ext w w' := by
  have c1 := Trim_web
  go_enter Tryz.func202, Tryz.ntmps202
  go_wp2_with (go_at_call 250; refine (c1 _).mono ?_; clear c1; rintro e w1 ⟨rfl, x1⟩)
  go_ret
  exact ⟨rfl, x1⟩
theorem indexR_none (fv : Value) (w : World) : Calls Tryz.prog 251 #[.slice none 0 0, fv] w fun e w' => e = .returned (.int .i64 (-1)) ∧ w = w' := by
  go_enter Tryz.func251, Tryz.ntmps251
  go_wp2
  go_loopg [8] 0 (fun m s8 wr => s8 = .int .i64 0 ∧ w = wr)
  case atStart => exact ⟨rfl, rfl⟩
  case round =>
    obtain ⟨rfl, rfl⟩ := hrel
    go_wp2
    go_ret
    exact ⟨rfl, rfl⟩
theorem containsR_none (fv : Value) (w : World) : Calls Tryz.prog 203 #[.slice none 0 0, fv] w fun e w' => e = .returned (.bool false) ∧ w = w' := by
  have c1 := indexR_none fv
  go_enter Tryz.func203, Tryz.ntmps203
  go_wp2_with (go_at_call 251; refine (c1 _).mono ?_; clear c1; rintro e w1 ⟨rfl, rfl⟩)
  go_ret
  exact ⟨rfl, rfl⟩
theorem indexS_none (s : ByteArray) (w : World) : Calls Tryz.prog 253 #[.slice none 0 0, .string s] w fun e w' => e = .returned (.int .i64 (-1)) ∧ w = w' := by
  go_enter Tryz.func253, Tryz.ntmps253
  go_wp2
  go_loopg [8] 0 (fun m s8 wr => s8 = .int .i64 0 ∧ w = wr)
  case atStart => exact ⟨rfl, rfl⟩
  case round =>
    obtain ⟨rfl, rfl⟩ := hrel
    go_wp2
    go_ret
    exact ⟨rfl, rfl⟩
theorem containsS_none (s : ByteArray) (w : World) : Calls Tryz.prog 208 #[.slice none 0 0, .string s] w fun e w' => e = .returned (.bool false) ∧ w = w' := by
  have c1 := indexS_none s
  go_enter Tryz.func208, Tryz.ntmps208
  go_wp2_with (go_at_call 253; refine (c1 _).mono ?_; clear c1; rintro e w1 ⟨rfl, rfl⟩)
  go_ret
  exact ⟨rfl, rfl⟩
theorem rule1_any (q : Nat) (w : World) (hq : w.cell? ⟨q, 0, none⟩ = some (.slice none 0 0)) :
    Calls Tryz.prog 201 #[.string ⟨#[119, 101, 98]⟩, .pointer (some ⟨q, 0, none⟩)] w fun e w' => e = .returned (.bool true) ∧ Ext w w' := by
  have c1 := named_web
  have c2 := containsR_none
  have hlt : q < w.heap.size := World.block_lt_of_cell? _ _ hq
  have hq1 : (w.alloc (.cells #[.string ⟨#[119, 101, 98]⟩] 9)).cell? ⟨q, 0, none⟩ = some (.slice none 0 0) := (World.cell?_alloc_lt w _ ⟨q, 0, none⟩ hlt).trans hq
  go_enter Tryz.func201, Tryz.ntmps201
  go_wp2_with (first | (go_at_call 202; refine (c1 _).mono ?_; clear c1; rintro e w1 ⟨rfl, x1⟩; have hq2 := x1.cell hq1) | (go_at_call 203; refine (c2 _ _).mono ?_; clear c2; rintro e w2 ⟨rfl, rfl⟩))
  go_ret
  exact ⟨rfl, ((Ext.refl w).alloc _).trans x1⟩
set_option maxRecDepth 100000 in
theorem pat_ok : (if (patF ⟨#[42, 46, 97]⟩).2.2 = true then (0 : Int) else 110) = 0 := by decide
theorem rule2_any (x : Nat) (w : World) (hx : w.cell? ⟨x, 2, none⟩ = some (.slice none 0 0)) :
    Calls Tryz.prog 206 #[.string ⟨#[42, 46, 97]⟩, .pointer (some ⟨x, 0, none⟩)] w fun e w' => e = .returned (.bool true) ∧ Ext w w' := by
  have c1 := Pattern_any ⟨#[42, 46, 97]⟩ (by decide)
  rw [pat_ok] at c1
  have c2 := containsS_none ⟨#[42, 46, 97]⟩
  go_enter Tryz.func206, Tryz.ntmps206
  go_wp2_with (first | (go_at_call 207; refine (c1 _).mono ?_; clear c1; rintro e w1 ⟨rfl, x1⟩; have hx2 := x1.cell hx) | (go_at_call 208; refine (c2 _).mono ?_; clear c2; rintro e w2 ⟨rfl, rfl⟩))
  go_ret
  exact ⟨rfl, x1⟩
theorem ext_bytesWorld (w : World) (t : TypeId) (s : ByteArray) : Ext w (Lib.bytesWorld w t s) := Ext.of (Go.Joins.below_bytesWorld w.heap.size w t s (Nat.le_refl _))
set_option maxRecDepth 100000 in
theorem parse_nine (w : World) : Calls Tryz.prog 255 #[.string ⟨#[57]⟩, .int .i64 10, .int .i64 64] w fun e w' => e = .returned (.tuple #[.int .u64 9, .nilIface]) ∧ Ext w w' := by
  refine (Tryz.strconv_ParseUint_10_at64_ok ⟨#[57]⟩ (by decide) 9 (by rfl) w).mono ?_
  rintro e w' ⟨rfl, rfl | rfl⟩
  · exact ⟨rfl, Ext.refl _⟩
  · exact ⟨rfl, ext_bytesWorld _ _ _⟩
theorem number1_any (n m : Nat) (w : World) (hn : Blk w n 25 #[.int .u64 0]) (hm : w.cell? ⟨m, 0, none⟩ = some (.int .u64 1000)) (hne : n ≠ m) :
    Calls Tryz.prog 254 #[.string ⟨#[57]⟩, .pointer (some ⟨n, 0, none⟩), .pointer (some ⟨m, 0, none⟩)] w fun e w' => e = .returned (.bool true) ∧ ∃ w1, Ext w w1 ∧ w' = w1.setCell ⟨n, 0, none⟩ (.int .u64 9) := by
  have c1 := parse_nine
  have hn0 := Blk.cell hn 0
  have hn1 := Blk.frozen hn 0
  go_enter Tryz.func254, Tryz.ntmps254
  go_wp2_with (go_at_call 255; refine (c1 _).mono ?_; clear c1; rintro e w1 ⟨rfl, x1⟩; have hn2 := x1.cell hn0; have hn3 := (x1.frozen hn0).trans hn1; have hm2 : (w1.setCell ⟨n, 0, none⟩ (.int .u64 9)).cell? ⟨m, 0, none⟩ = some (.int .u64 1000) := (World.cell?_setCell_other _ _ _ _ (fun h => hne (by cases h; rfl))).trans (x1.cell hm))
  go_ret
  exact ⟨rfl, _, x1, rfl⟩
end Go.Proofs.YtfpmfegmehbfbaaGreatDoor
