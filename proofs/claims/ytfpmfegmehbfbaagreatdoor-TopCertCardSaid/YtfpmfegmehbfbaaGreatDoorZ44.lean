/- Parts of the proofs, put together: CtH2, CtH3, CtH4, CtH5, CtH7. -/
import Derived.BigQuiet
import Derived.Test.YtfpmfegmehbfbaaGreatDoorZ3
import Derived.Test.YtfpmfegmehbfbaaGreatDoorZ43
import Derived.Test.YtfpmfegmehbfbaaGreatDoorZ45
/- Certificates, walked: rows that are alike. -/
namespace Go.Proofs.YtfpmfegmehbfbaaGreatDoor
set_option linter.unusedVariables false
set_option linter.unusedSimpArgs false
set_option linter.unusedSimpArgs false
open Go.RowKit Go.Shelf Go.Maps

structure FRowC where
  (ty : TypeId) (off : Nat) (x : Value)
theorem eqFieldsC {P : Program} (d : Nat) (cs : Array Value) (w : World) : ∀ (rows : List FRowC) (fs : List Field), fs.map (fun f => (f.name != "_", f.type, f.offset)) = rows.map (fun r => (true, r.ty, r.off)) →
    (∀ r ∈ rows, (part r.ty cs r.off).run P w = .ok r.x w ∧ (Op.equalIn d r.ty r.x r.x).run P w = .ok true w) → (Op.eqFields d cs cs fs).run P w = .ok true w
  | [], [], _, _ => by simp [Op.eqFields]
  | [], f :: fs, h, _ => by simp at h
  | r :: rows, [], h, _ => by simp at h
  | r :: rows, f :: fs, h, hr => by
    simp only [List.map_cons, List.cons.injEq, Prod.mk.injEq, bne_iff_ne, ne_eq] at h
    obtain ⟨⟨f1, f2, f3⟩, h'⟩ := h
    obtain ⟨p1, p3⟩ := hr r List.mem_cons_self
    have ih := eqFieldsC d cs w rows fs h' (fun r' hr' => hr r' (List.mem_cons_of_mem _ hr'))
    simp only [Op.eqFields, ne_eq, f1, not_false_eq_true, if_true, f2, f3, Sem.run_bind, p1, p3, Result.andThen_ok]
    simp [ih]
theorem eqSigC (d : Nat) (a b : Int) (w : World) : (Op.equalIn (d + 2) 36 (.agg #[.int .u64 a, .int .u64 b]) (.agg #[.int .u64 a, .int .u64 b])).run Tryz.prog w = .ok true w := by
  have p0 : ∀ (a b : Value) (w : World), (part 25 #[a, b] 0).run Tryz.prog w = .ok a w := fun a b w => by kernel_rfl
  have p1 : ∀ (a b : Value) (w : World), (part 25 #[a, b] 1).run Tryz.prog w = .ok b w := fun a b w => by kernel_rfl
  have e : ∀ a : Int, (Op.equalIn (d + 1) 25 (.int .u64 a) (.int .u64 a)).run Tryz.prog w = .ok true w := fun a => by rw [run_equalIn_int (P := Tryz.prog) w d 25 .u64 .u64 a a Tryz.underlying25]; simp
  rw [run_equalIn_struct w (d + 1) 36 _ _ (by kernel_rfl) (by kernel_rfl)]
  refine eqFieldsC (d + 1) _ w [⟨25, 0, .int .u64 a⟩, ⟨25, 1, .int .u64 b⟩] _ (by kernel_rfl) (fun r hr => ?_)
  simp only [List.mem_cons, List.not_mem_nil, or_false] at hr
  rcases hr with rfl | rfl
  · exact ⟨p0 _ _ _, e _⟩
  · exact ⟨p1 _ _ _, e _⟩
theorem eqSumC (d : Nat) (a b : Int) (w : World) : (Op.equalIn (d + 3) 34 (.agg #[.int .u64 a, .int .u64 b]) (.agg #[.int .u64 a, .int .u64 b])).run Tryz.prog w = .ok true w := by
  obtain ⟨i, hi⟩ := Tryz.infoU64e
  have hc : Tryz.prog.cellsOf 25 = 1 := by kernel_rfl
  rw [run_equalIn_array w (d + 2) _ _ Tryz.underlying34 hi, hc, show List.range 2 = [0, 1] from rfl,
    eqItem a a w (d + 1) _ _ 0 1 _ (by kernel_rfl) (by kernel_rfl), eqItem b b w (d + 1) _ _ 1 1 _ (by kernel_rfl) (by kernel_rfl)]
  simp [Op.eqItems]
theorem eqPrmC (a b c e f g : Int) (w : World) : (Op.equalIn 10000 55 (.agg #[.int .i64 a, .int .i64 b, .int .u64 c, .int .u64 e, .int .u64 f, .int .u64 g]) (.agg #[.int .i64 a, .int .i64 b, .int .u64 c, .int .u64 e, .int .u64 f, .int .u64 g])).run Tryz.prog w = .ok true w := by
  have p0 : ∀ (a b c d e f : Value) (w : World), (part 3 #[a, b, c, d, e, f] 0).run Tryz.prog w = .ok a w := fun a b c d e f w => by kernel_rfl
  have p1 : ∀ (a b c d e f : Value) (w : World), (part 3 #[a, b, c, d, e, f] 1).run Tryz.prog w = .ok b w := fun a b c d e f w => by kernel_rfl
  have p2 : ∀ (a b c d e f : Value) (w : World), (part 34 #[a, b, c, d, e, f] 2).run Tryz.prog w = .ok (.agg #[c, d]) w := fun a b c d e f w => by kernel_rfl
  have p4 : ∀ (a b c d e f : Value) (w : World), (part 36 #[a, b, c, d, e, f] 4).run Tryz.prog w = .ok (.agg #[e, f]) w := fun a b c d e f w => by kernel_rfl
  have ei : ∀ a : Int, (Op.equalIn (9998 + 1) 3 (.int .i64 a) (.int .i64 a)).run Tryz.prog w = .ok true w := fun a => by rw [run_equalIn_int (P := Tryz.prog) w 9998 3 .i64 .i64 a a Tryz.underlying3]; simp
  rw [run_equalIn_struct w 9999 55 _ _ (by kernel_rfl) (by kernel_rfl)]
  refine eqFieldsC 9999 _ w [⟨3, 0, .int .i64 a⟩, ⟨3, 1, .int .i64 b⟩, ⟨34, 2, .agg #[.int .u64 c, .int .u64 e]⟩, ⟨36, 4, .agg #[.int .u64 f, .int .u64 g]⟩] _ (by kernel_rfl) (fun r hr => ?_)
  simp only [List.mem_cons, List.not_mem_nil, or_false] at hr
  rcases hr with rfl | rfl | rfl | rfl
  · exact ⟨p0 _ _ _ _ _ _ _, ei _⟩
  · exact ⟨p1 _ _ _ _ _ _ _, ei _⟩
  · exact ⟨p2 _ _ _ _ _ _ _, eqSumC 9996 _ _ _⟩
  · exact ⟨p4 _ _ _ _ _ _ _, eqSigC 9997 _ _ _⟩
set_option maxRecDepth 100000 in
set_option maxHeartbeats 2000000 in
theorem eqS_any (l : List ByteArray) (hl : l.length ≤ 1000) (A B : Option Addr) (cA cB : Nat) (w : World) (h1 : Reads w w.heap.size 1 A l.length (tv l)) (h2 : Reads w w.heap.size 1 B l.length (tv l)) :
    Calls Tryz.prog 85 #[.slice A l.length cA, .slice B l.length cB] w fun e w' => e = .returned (.bool true) ∧ Ext w w' := by
  have H1 := Lib.hid h1
  have H2 := Lib.hid h2
  have HL := Lib.hid hl
  clear h1 h2 hl
  go_enter Tryz.func85, Tryz.ntmps85
  go_wp2
  go_loopg [13] l.length (fun gm s13 wr => ∃ j : Nat, j + gm = l.length ∧ s13 = .int .i64 j ∧ Ext w wr)
  case atStart => exact ⟨0, by omega, rfl, Ext.refl w⟩
  case round =>
    obtain ⟨j, hj, rfl, x⟩ := hrel
    have hjb : (j : Int) ≤ 1000 := by have := HL.out; omega
    by_cases h : j < l.length
    · obtain ⟨s, hs⟩ : ∃ s, l[j]? = some s := ⟨_, List.getElem?_eq_getElem h⟩
      obtain ⟨g, k, rfl, -, hcl⟩ := reads_form H1.out (by omega)
      obtain ⟨g2, k2, rfl, -, hcl2⟩ := reads_form H2.out (by omega)
      have q0 := x.cell (hcl j (.string s) (by simp [tv, hs]))
      have q1 := x.cell (hcl2 j (.string s) (by simp [tv, hs]))
      have d1 : decide ((j : Int) < (l.length : Int)) = true := by simp; omega
      have d2 : (j : Int) < (l.length : Int) := by omega
      have HJ := Lib.hid (And.intro hj h)
      have HX := Lib.hid x
      clear hj hs hcl hcl2 x h
      go_upto_region 6 with (fail)
      go_quiet (fail)
      go_wp2
      go_roundg (gk - 1)
      case measure => have := HJ.out; omega
      case rel => exact ⟨j + 1, by have := HJ.out; omega, int_congr (by omega), by first | exact HX.out.drew | exact HX.out.drewN _ | exact HX.out⟩
    · obtain rfl : j = l.length := by omega
      have HX := Lib.hid x
      clear hj h x
      go_wp2
      go_ret
      exact ⟨rfl, HX.out⟩
set_option maxRecDepth 100000 in
set_option maxHeartbeats 2000000 in
theorem eqP_any (l : List PrmR) (hl : l.length ≤ 1000) (A B : Option Addr) (cA cB : Nat) (w : World) (h1 : Reads w w.heap.size 6 A l.length (prmV l)) (h2 : Reads w w.heap.size 6 B l.length (prmV l)) :
    Calls Tryz.prog 86 #[.slice A l.length cA, .slice B l.length cB] w fun e w' => e = .returned (.bool true) ∧ Ext w w' := by
  have H1 := Lib.hid h1
  have H2 := Lib.hid h2
  have HL := Lib.hid hl
  clear h1 h2 hl
  go_enter Tryz.func86, Tryz.ntmps86
  go_wp2
  go_loopg [13] l.length (fun gm s13 wr => ∃ j : Nat, j + gm = l.length ∧ s13 = .int .i64 j ∧ Ext w wr)
  case atStart => exact ⟨0, by omega, rfl, Ext.refl w⟩
  case round =>
    obtain ⟨j, hj, rfl, x⟩ := hrel
    have hjb : (j : Int) ≤ 1000 := by have := HL.out; omega
    by_cases h : j < l.length
    · obtain ⟨s, hs⟩ : ∃ s, l[j]? = some s := ⟨_, List.getElem?_eq_getElem h⟩
      obtain ⟨ad, rfl, -, H1c⟩ := reads_prmR H1.out hs
      have q0 := H1c 0 _ rfl
      have q1 := H1c 1 _ rfl
      have q2 := H1c 2 _ rfl
      have q3 := H1c 3 _ rfl
      have q4 := H1c 4 _ rfl
      have q5 := H1c 5 _ rfl
      rw [add_of_add, Nat.add_zero] at q0
      rw [add_succ_eq] at q1
      rw [add_succ_eq] at q2
      rw [add_succ_eq] at q3
      rw [add_succ_eq] at q4
      rw [add_succ_eq] at q5
      replace q0 := x.cell q0
      replace q1 := x.cell q1
      replace q2 := x.cell q2
      replace q3 := x.cell q3
      replace q4 := x.cell q4
      replace q5 := x.cell q5
      obtain ⟨bd, rfl, -, H2c⟩ := reads_prmR H2.out hs
      have r0 := H2c 0 _ rfl
      have r1 := H2c 1 _ rfl
      have r2 := H2c 2 _ rfl
      have r3 := H2c 3 _ rfl
      have r4 := H2c 4 _ rfl
      have r5 := H2c 5 _ rfl
      rw [add_of_add, Nat.add_zero] at r0
      rw [add_succ_eq] at r1
      rw [add_succ_eq] at r2
      rw [add_succ_eq] at r3
      rw [add_succ_eq] at r4
      rw [add_succ_eq] at r5
      replace r0 := x.cell r0
      replace r1 := x.cell r1
      replace r2 := x.cell r2
      replace r3 := x.cell r3
      replace r4 := x.cell r4
      replace r5 := x.cell r5
      have qe := eqPrmC s.log s.at_ (s.l0 : Int) (s.l1 : Int) (s.e : Int) (s.s : Int)
      have d1 : decide ((j : Int) < (l.length : Int)) = true := by simp; omega
      have d2 : (j : Int) < (l.length : Int) := by omega
      have HJ := Lib.hid (And.intro hj h)
      have HX := Lib.hid x
      clear hj hs H1c H2c x h
      go_upto_region 6 with (fail)
      go_quiet (fail)
      go_wp2
      go_roundg (gk - 1)
      case measure => have := HJ.out; omega
      case rel => exact ⟨j + 1, by have := HJ.out; omega, int_congr (by omega), by first | exact HX.out.drew | exact HX.out.drewN _ | exact HX.out⟩
    · obtain rfl : j = l.length := by omega
      have HX := Lib.hid x
      clear hj h x
      go_wp2
      go_ret
      exact ⟨rfl, HX.out⟩
end Go.Proofs.YtfpmfegmehbfbaaGreatDoor

/- Certificates, walked: Same, Leaf. -/
namespace Go.Proofs.YtfpmfegmehbfbaaGreatDoor
set_option linter.unusedVariables false
set_option linter.unusedSimpArgs false
set_option linter.unusedSimpArgs false
open Go.RowKit Go.Shelf Go.Maps

set_option maxRecDepth 100000 in
set_option maxHeartbeats 8000000 in
theorem Same_any (r : CrtR) (nA : Option Addr) (nc : Nat) (pA : Option Addr) (pc : Nat) (mA : Option Addr) (mc : Nat) (bnA : Option Addr) (bnc : Nat) (bpA : Option Addr) (bpc : Nat) (bmA : Option Addr) (bmc : Nat) (w : World) (hx : CrtW w w.heap.size ⟨r, nA, nc, pA, pc, mA, mc⟩) (hy : CrtW w w.heap.size ⟨r, bnA, bnc, bpA, bpc, bmA, bmc⟩) :
    Calls Tryz.prog 31 #[crtV ⟨r, nA, nc, pA, pc, mA, mc⟩, crtV ⟨r, bnA, bnc, bpA, bpc, bmA, bmc⟩] w fun e w' => e = .returned (.bool true) ∧ Ext w w' := by
  obtain ⟨ser, iss, sub, key, names, frm, unt, ca, dep, perm, proms, e, s⟩ := r
  obtain ⟨W0, e0, b1, b2, x0⟩ := boxes2 w #[.int .i64 ser, .string iss, .string sub, .int .u64 (key : Int), .slice nA names.length nc, .int .i64 frm, .int .i64 unt, .bool ca, .int .i64 dep, .slice pA perm.length pc, .slice mA proms.length mc, .int .u64 (e : Int), .int .u64 (s : Int)] #[.int .i64 ser, .string iss, .string sub, .int .u64 (key : Int), .slice bnA names.length bnc, .int .i64 frm, .int .i64 unt, .bool ca, .int .i64 dep, .slice bpA perm.length bpc, .slice bmA proms.length bmc, .int .u64 (e : Int), .int .u64 (s : Int)] 67 67
  have few := hx.few
  have c1 := fun W (X : Ext W0 W) => eqS_any names (by have := few.2.2.1.1; dsimp only at this; omega) nA bnA nc bnc W (hx.ext (x0.trans X)).names (hy.ext (x0.trans X)).names
  have c2 := fun W (X : Ext W0 W) => eqS_any perm (by have := few.2.2.2.1.1; dsimp only at this; omega) pA bpA pc bpc W (hx.ext (x0.trans X)).perm (hy.ext (x0.trans X)).perm
  have c3 := fun W (X : Ext W0 W) => eqP_any proms (by have := few.2.2.2.2; dsimp only at this; omega) mA bmA mc bmc W (hx.ext (x0.trans X)).proms (hy.ext (x0.trans X)).proms
  have qe := eqSigC 9998 (e : Int) (s : Int)
  unfold crtV crtC
  dsimp only at *
  obtain ⟨m0, m1, m2, m3, m4, m5, m6, m7, m8, m9, m10, m11, m12⟩ := lst13 b1
  obtain ⟨n0, n1, n2, n3, n4, n5, n6, n7, n8, n9, n10, n11, n12⟩ := lst13 b2
  have HB1 := Lib.hid b1
  have HB2 := Lib.hid b2
  have HX0 := Lib.hid x0
  clear b1 b2 x0 hx hy few
  subst e0
  go_enter Tryz.func31, Tryz.ntmps31
  go_wp2_with (first | (go_at_call 85; first | (refine (c1 _ (Ext.refl _)).mono ?_; clear c1; rintro e w1 ⟨rfl, x1⟩; have X1 := x1; clear x1; clear m0 n0 m1 n1 m2 n2 m3 n3 m4 n4 m5 n5 m6 n6 m7 n7 m8 n8 m9 n9 m10 n10 m11 n11 m12 n12; obtain ⟨m0, m1, m2, m3, m4, m5, m6, m7, m8, m9, m10, m11, m12⟩ := lst13 (ext_blk X1 HB1.out); obtain ⟨n0, n1, n2, n3, n4, n5, n6, n7, n8, n9, n10, n11, n12⟩ := lst13 (ext_blk X1 HB2.out)) | (refine (c2 _ X1).mono ?_; clear c2; rintro e w2 ⟨rfl, x2⟩; have X2 := X1.trans x2; clear x2; clear m0 n0 m1 n1 m2 n2 m3 n3 m4 n4 m5 n5 m6 n6 m7 n7 m8 n8 m9 n9 m10 n10 m11 n11 m12 n12; obtain ⟨m0, m1, m2, m3, m4, m5, m6, m7, m8, m9, m10, m11, m12⟩ := lst13 (ext_blk X2 HB1.out); obtain ⟨n0, n1, n2, n3, n4, n5, n6, n7, n8, n9, n10, n11, n12⟩ := lst13 (ext_blk X2 HB2.out))) | (go_at_call 86; refine (c3 _ X2).mono ?_; clear c3; rintro e w3 ⟨rfl, x3⟩; have X3 := X2.trans x3; clear x3; clear m0 n0 m1 n1 m2 n2 m3 n3 m4 n4 m5 n5 m6 n6 m7 n7 m8 n8 m9 n9 m10 n10 m11 n11 m12 n12; obtain ⟨m0, m1, m2, m3, m4, m5, m6, m7, m8, m9, m10, m11, m12⟩ := lst13 (ext_blk X3 HB1.out); obtain ⟨n0, n1, n2, n3, n4, n5, n6, n7, n8, n9, n10, n11, n12⟩ := lst13 (ext_blk X3 HB2.out)))
  go_ret
  exact ⟨rfl, HX0.out.trans X3⟩
end Go.Proofs.YtfpmfegmehbfbaaGreatDoor

/- Certificates, walked: bare. -/
namespace Go.Proofs.YtfpmfegmehbfbaaGreatDoor
set_option linter.unusedVariables false
set_option linter.unusedSimpArgs false
set_option linter.unusedSimpArgs false
open Go.RowKit Go.Shelf Go.Maps

set_option maxRecDepth 100000 in
set_option maxHeartbeats 8000000 in
theorem bare_true (r : CrtR) (nA : Option Addr) (nc : Nat) (pA : Option Addr) (pc : Nat) (mA : Option Addr) (mc : Nat) (w : World) :
    Calls Tryz.prog 32 #[crtV ⟨r, nA, nc, pA, pc, mA, mc⟩, .bool true] w fun e w' => e = .returned (crtV ⟨bareC r true, nA, nc, pA, pc, mA, mc⟩) ∧ Ext w w' := by
  obtain ⟨ser, iss, sub, key, names, frm, unt, ca, dep, perm, proms, e, s⟩ := r
  obtain ⟨W0, e0, b1, b2, x0⟩ := boxes2 w #[.int .i64 ser, .string iss, .string sub, .int .u64 (key : Int), .slice nA names.length nc, .int .i64 frm, .int .i64 unt, .bool ca, .int .i64 dep, .slice pA perm.length pc, .slice mA proms.length mc, .int .u64 (e : Int), .int .u64 (s : Int)] #[.int .i64 0, .string ⟨#[]⟩, .string ⟨#[]⟩, .int .u64 0, .slice none 0 0, .int .i64 0, .int .i64 0, .bool false, .int .i64 0, .slice none 0 0, .slice none 0 0, .int .u64 0, .int .u64 0] 67 67
  unfold crtV crtC bareC
  dsimp only at *
  simp only [if_true]
  obtain ⟨m0, m1, m2, m3, m4, m5, m6, m7, m8, m9, m10, m11, m12⟩ := lst13 b1
  obtain ⟨f0, f1, f2, f3, f4, f5, f6, f7, f8, f9, f10, f11, f12⟩ := frz13 b1
  have HB1 := Lib.hid b1
  have HB2 := Lib.hid b2
  have HX0 := Lib.hid x0
  clear b1 b2 x0
  go_enter Tryz.func32, Tryz.ntmps32
  go_upto_region 1 with (fail)
  try rw [e0]
  clear e0
  go_upto_region 4 with (fail)
  clear m0 m1 m2 m3 m4 m5 m6 m7 m8 m9 m10 m11 m12 f0 f1 f2 f3 f4 f5 f6 f7 f8 f9 f10 f11 f12
  have b1 := HB1.out
  have b2 := HB2.out
  have x0 := HX0.out
  obtain ⟨W1, e1⟩ : ∃ W, (W0.setCell ⟨w.heap.size, 11, none⟩ (.int .u64 0)).setCell ⟨w.heap.size, 12, none⟩ (.int .u64 0) = W := ⟨_, rfl⟩
  have k1 : Blk W1 w.heap.size 67 #[.int .i64 ser, .string iss, .string sub, .int .u64 (key : Int), .slice nA names.length nc, .int .i64 frm, .int .i64 unt, .bool ca, .int .i64 dep, .slice pA perm.length pc, .slice mA proms.length mc, .int .u64 0, .int .u64 0] := by rw [← e1]; exact ((b1.set_ 11 (.int .u64 0)).set_ 12 (.int .u64 0))
  have bb : Blk W1 (w.heap.size + 1) 67 #[.int .i64 0, .string ⟨#[]⟩, .string ⟨#[]⟩, .int .u64 0, .slice none 0 0, .int .i64 0, .int .i64 0, .bool false, .int .i64 0, .slice none 0 0, .slice none 0 0, .int .u64 0, .int .u64 0] := by rw [← e1]; exact ((b2.far (p := ⟨w.heap.size, 11, none⟩) (by simp) _).far (p := ⟨w.heap.size, 12, none⟩) (by simp) _)
  have xx : Ext w W1 := by rw [← e1]; exact ((x0.setCell (p := ⟨w.heap.size, 11, none⟩) (Nat.le_refl _) _).setCell (p := ⟨w.heap.size, 12, none⟩) (Nat.le_refl _) _)
  rw [e1]
  clear e1
  obtain ⟨m0, m1, m2, m3, m4, m5, m6, m7, m8, m9, m10, m11, m12⟩ := lst13 k1
  obtain ⟨n0, n1, n2, n3, n4, n5, n6, n7, n8, n9, n10, n11, n12⟩ := lst13 bb
  obtain ⟨f0, f1, f2, f3, f4, f5, f6, f7, f8, f9, f10, f11, f12⟩ := frz13 bb
  have BBH := Lib.hid bb
  have XXH := Lib.hid xx
  clear b1 b2 x0 bb xx k1
  go_wp2
  clear m0 m1 m2 m3 m4 m5 m6 m7 m8 m9 m10 m11 m12 f0 f1 f2 f3 f4 f5 f6 f7 f8 f9 f10 f11 f12 n0 n1 n2 n3 n4 n5 n6 n7 n8 n9 n10 n11 n12
  have bb := BBH.out
  have xx := XXH.out
  obtain ⟨V0, eV0⟩ : ∃ W, W1.setCell ⟨w.heap.size + 1, 0, none⟩ (.int .i64 ser) = W := ⟨_, rfl⟩
  have bb0 : Blk V0 (w.heap.size + 1) 67 #[.int .i64 ser, .string ⟨#[]⟩, .string ⟨#[]⟩, .int .u64 0, .slice none 0 0, .int .i64 0, .int .i64 0, .bool false, .int .i64 0, .slice none 0 0, .slice none 0 0, .int .u64 0, .int .u64 0] := by rw [← eV0]; exact bb.set_ 0 _
  have xx0 : Ext w V0 := by rw [← eV0]; exact xx.setCell (p := ⟨w.heap.size + 1, 0, none⟩) (Nat.le_succ _) _
  clear bb xx
  rw [eV0]
  clear eV0
  obtain ⟨V1, eV1⟩ : ∃ W, V0.setCell ⟨w.heap.size + 1, 1, none⟩ (.string iss) = W := ⟨_, rfl⟩
  have bb1 : Blk V1 (w.heap.size + 1) 67 #[.int .i64 ser, .string iss, .string ⟨#[]⟩, .int .u64 0, .slice none 0 0, .int .i64 0, .int .i64 0, .bool false, .int .i64 0, .slice none 0 0, .slice none 0 0, .int .u64 0, .int .u64 0] := by rw [← eV1]; exact bb0.set_ 1 _
  have xx1 : Ext w V1 := by rw [← eV1]; exact xx0.setCell (p := ⟨w.heap.size + 1, 1, none⟩) (Nat.le_succ _) _
  clear bb0 xx0
  rw [eV1]
  clear eV1
  obtain ⟨V2, eV2⟩ : ∃ W, V1.setCell ⟨w.heap.size + 1, 2, none⟩ (.string sub) = W := ⟨_, rfl⟩
  have bb2 : Blk V2 (w.heap.size + 1) 67 #[.int .i64 ser, .string iss, .string sub, .int .u64 0, .slice none 0 0, .int .i64 0, .int .i64 0, .bool false, .int .i64 0, .slice none 0 0, .slice none 0 0, .int .u64 0, .int .u64 0] := by rw [← eV2]; exact bb1.set_ 2 _
  have xx2 : Ext w V2 := by rw [← eV2]; exact xx1.setCell (p := ⟨w.heap.size + 1, 2, none⟩) (Nat.le_succ _) _
  clear bb1 xx1
  rw [eV2]
  clear eV2
  obtain ⟨V3, eV3⟩ : ∃ W, V2.setCell ⟨w.heap.size + 1, 3, none⟩ (.int .u64 (key : Int)) = W := ⟨_, rfl⟩
  have bb3 : Blk V3 (w.heap.size + 1) 67 #[.int .i64 ser, .string iss, .string sub, .int .u64 (key : Int), .slice none 0 0, .int .i64 0, .int .i64 0, .bool false, .int .i64 0, .slice none 0 0, .slice none 0 0, .int .u64 0, .int .u64 0] := by rw [← eV3]; exact bb2.set_ 3 _
  have xx3 : Ext w V3 := by rw [← eV3]; exact xx2.setCell (p := ⟨w.heap.size + 1, 3, none⟩) (Nat.le_succ _) _
  clear bb2 xx2
  rw [eV3]
  clear eV3
  obtain ⟨V4, eV4⟩ : ∃ W, V3.setCell ⟨w.heap.size + 1, 4, none⟩ (.slice nA names.length nc) = W := ⟨_, rfl⟩
  have bb4 : Blk V4 (w.heap.size + 1) 67 #[.int .i64 ser, .string iss, .string sub, .int .u64 (key : Int), .slice nA names.length nc, .int .i64 0, .int .i64 0, .bool false, .int .i64 0, .slice none 0 0, .slice none 0 0, .int .u64 0, .int .u64 0] := by rw [← eV4]; exact bb3.set_ 4 _
  have xx4 : Ext w V4 := by rw [← eV4]; exact xx3.setCell (p := ⟨w.heap.size + 1, 4, none⟩) (Nat.le_succ _) _
  clear bb3 xx3
  rw [eV4]
  clear eV4
  obtain ⟨V5, eV5⟩ : ∃ W, V4.setCell ⟨w.heap.size + 1, 5, none⟩ (.int .i64 frm) = W := ⟨_, rfl⟩
  have bb5 : Blk V5 (w.heap.size + 1) 67 #[.int .i64 ser, .string iss, .string sub, .int .u64 (key : Int), .slice nA names.length nc, .int .i64 frm, .int .i64 0, .bool false, .int .i64 0, .slice none 0 0, .slice none 0 0, .int .u64 0, .int .u64 0] := by rw [← eV5]; exact bb4.set_ 5 _
  have xx5 : Ext w V5 := by rw [← eV5]; exact xx4.setCell (p := ⟨w.heap.size + 1, 5, none⟩) (Nat.le_succ _) _
  clear bb4 xx4
  rw [eV5]
  clear eV5
  obtain ⟨V6, eV6⟩ : ∃ W, V5.setCell ⟨w.heap.size + 1, 6, none⟩ (.int .i64 unt) = W := ⟨_, rfl⟩
  have bb6 : Blk V6 (w.heap.size + 1) 67 #[.int .i64 ser, .string iss, .string sub, .int .u64 (key : Int), .slice nA names.length nc, .int .i64 frm, .int .i64 unt, .bool false, .int .i64 0, .slice none 0 0, .slice none 0 0, .int .u64 0, .int .u64 0] := by rw [← eV6]; exact bb5.set_ 6 _
  have xx6 : Ext w V6 := by rw [← eV6]; exact xx5.setCell (p := ⟨w.heap.size + 1, 6, none⟩) (Nat.le_succ _) _
  clear bb5 xx5
  rw [eV6]
  clear eV6
  obtain ⟨V7, eV7⟩ : ∃ W, V6.setCell ⟨w.heap.size + 1, 7, none⟩ (.bool ca) = W := ⟨_, rfl⟩
  have bb7 : Blk V7 (w.heap.size + 1) 67 #[.int .i64 ser, .string iss, .string sub, .int .u64 (key : Int), .slice nA names.length nc, .int .i64 frm, .int .i64 unt, .bool ca, .int .i64 0, .slice none 0 0, .slice none 0 0, .int .u64 0, .int .u64 0] := by rw [← eV7]; exact bb6.set_ 7 _
  have xx7 : Ext w V7 := by rw [← eV7]; exact xx6.setCell (p := ⟨w.heap.size + 1, 7, none⟩) (Nat.le_succ _) _
  clear bb6 xx6
  rw [eV7]
  clear eV7
  obtain ⟨V8, eV8⟩ : ∃ W, V7.setCell ⟨w.heap.size + 1, 8, none⟩ (.int .i64 dep) = W := ⟨_, rfl⟩
  have bb8 : Blk V8 (w.heap.size + 1) 67 #[.int .i64 ser, .string iss, .string sub, .int .u64 (key : Int), .slice nA names.length nc, .int .i64 frm, .int .i64 unt, .bool ca, .int .i64 dep, .slice none 0 0, .slice none 0 0, .int .u64 0, .int .u64 0] := by rw [← eV8]; exact bb7.set_ 8 _
  have xx8 : Ext w V8 := by rw [← eV8]; exact xx7.setCell (p := ⟨w.heap.size + 1, 8, none⟩) (Nat.le_succ _) _
  clear bb7 xx7
  rw [eV8]
  clear eV8
  obtain ⟨V9, eV9⟩ : ∃ W, V8.setCell ⟨w.heap.size + 1, 9, none⟩ (.slice pA perm.length pc) = W := ⟨_, rfl⟩
  have bb9 : Blk V9 (w.heap.size + 1) 67 #[.int .i64 ser, .string iss, .string sub, .int .u64 (key : Int), .slice nA names.length nc, .int .i64 frm, .int .i64 unt, .bool ca, .int .i64 dep, .slice pA perm.length pc, .slice none 0 0, .int .u64 0, .int .u64 0] := by rw [← eV9]; exact bb8.set_ 9 _
  have xx9 : Ext w V9 := by rw [← eV9]; exact xx8.setCell (p := ⟨w.heap.size + 1, 9, none⟩) (Nat.le_succ _) _
  clear bb8 xx8
  rw [eV9]
  clear eV9
  obtain ⟨V10, eV10⟩ : ∃ W, V9.setCell ⟨w.heap.size + 1, 10, none⟩ (.slice mA proms.length mc) = W := ⟨_, rfl⟩
  have bb10 : Blk V10 (w.heap.size + 1) 67 #[.int .i64 ser, .string iss, .string sub, .int .u64 (key : Int), .slice nA names.length nc, .int .i64 frm, .int .i64 unt, .bool ca, .int .i64 dep, .slice pA perm.length pc, .slice mA proms.length mc, .int .u64 0, .int .u64 0] := by rw [← eV10]; exact bb9.set_ 10 _
  have xx10 : Ext w V10 := by rw [← eV10]; exact xx9.setCell (p := ⟨w.heap.size + 1, 10, none⟩) (Nat.le_succ _) _
  clear bb9 xx9
  rw [eV10]
  clear eV10
  obtain ⟨V11, eV11⟩ : ∃ W, V10.setCell ⟨w.heap.size + 1, 11, none⟩ (.int .u64 0) = W := ⟨_, rfl⟩
  have bb11 : Blk V11 (w.heap.size + 1) 67 #[.int .i64 ser, .string iss, .string sub, .int .u64 (key : Int), .slice nA names.length nc, .int .i64 frm, .int .i64 unt, .bool ca, .int .i64 dep, .slice pA perm.length pc, .slice mA proms.length mc, .int .u64 0, .int .u64 0] := by rw [← eV11]; exact bb10.set_ 11 _
  have xx11 : Ext w V11 := by rw [← eV11]; exact xx10.setCell (p := ⟨w.heap.size + 1, 11, none⟩) (Nat.le_succ _) _
  clear bb10 xx10
  rw [eV11]
  clear eV11
  obtain ⟨V12, eV12⟩ : ∃ W, V11.setCell ⟨w.heap.size + 1, 12, none⟩ (.int .u64 0) = W := ⟨_, rfl⟩
  have bb12 : Blk V12 (w.heap.size + 1) 67 #[.int .i64 ser, .string iss, .string sub, .int .u64 (key : Int), .slice nA names.length nc, .int .i64 frm, .int .i64 unt, .bool ca, .int .i64 dep, .slice pA perm.length pc, .slice mA proms.length mc, .int .u64 0, .int .u64 0] := by rw [← eV12]; exact bb11.set_ 12 _
  have xx12 : Ext w V12 := by rw [← eV12]; exact xx11.setCell (p := ⟨w.heap.size + 1, 12, none⟩) (Nat.le_succ _) _
  clear bb11 xx11
  rw [eV12]
  clear eV12
  obtain ⟨m0, m1, m2, m3, m4, m5, m6, m7, m8, m9, m10, m11, m12⟩ := lst13 bb12
  exact bodyPost_ret (v := .agg #[.int .i64 ser, .string iss, .string sub, .int .u64 (key : Int), .slice nA names.length nc, .int .i64 frm, .int .i64 unt, .bool ca, .int .i64 dep, .slice pA perm.length pc, .slice mA proms.length mc, .int .u64 0, .int .u64 0]) (by simp [results, Tryz.results32, go_sem, m0, m1, m2, m3, m4, m5, m6, m7, m8, m9, m10, m11, m12]) rfl ⟨rfl, xx12⟩
set_option maxRecDepth 100000 in
set_option maxHeartbeats 8000000 in
theorem bare_false (r : CrtR) (nA : Option Addr) (nc : Nat) (pA : Option Addr) (pc : Nat) (mA : Option Addr) (mc : Nat) (w : World) :
    Calls Tryz.prog 32 #[crtV ⟨r, nA, nc, pA, pc, mA, mc⟩, .bool false] w fun e w' => e = .returned (crtV ⟨bareC r false, nA, nc, pA, pc, none, 0⟩) ∧ Ext w w' := by
  obtain ⟨ser, iss, sub, key, names, frm, unt, ca, dep, perm, proms, e, s⟩ := r
  obtain ⟨W0, e0, b1, b2, x0⟩ := boxes2 w #[.int .i64 ser, .string iss, .string sub, .int .u64 (key : Int), .slice nA names.length nc, .int .i64 frm, .int .i64 unt, .bool ca, .int .i64 dep, .slice pA perm.length pc, .slice mA proms.length mc, .int .u64 (e : Int), .int .u64 (s : Int)] #[.int .i64 0, .string ⟨#[]⟩, .string ⟨#[]⟩, .int .u64 0, .slice none 0 0, .int .i64 0, .int .i64 0, .bool false, .int .i64 0, .slice none 0 0, .slice none 0 0, .int .u64 0, .int .u64 0] 67 67
  unfold crtV crtC bareC
  dsimp only at *
  try simp only [Bool.false_eq_true, if_false, List.length_nil]
  obtain ⟨m0, m1, m2, m3, m4, m5, m6, m7, m8, m9, m10, m11, m12⟩ := lst13 b1
  obtain ⟨f0, f1, f2, f3, f4, f5, f6, f7, f8, f9, f10, f11, f12⟩ := frz13 b1
  have HB1 := Lib.hid b1
  have HB2 := Lib.hid b2
  have HX0 := Lib.hid x0
  clear b1 b2 x0
  go_enter Tryz.func32, Tryz.ntmps32
  go_upto_region 1 with (fail)
  try rw [e0]
  clear e0
  go_upto_region 4 with (fail)
  clear m0 m1 m2 m3 m4 m5 m6 m7 m8 m9 m10 m11 m12 f0 f1 f2 f3 f4 f5 f6 f7 f8 f9 f10 f11 f12
  have b1 := HB1.out
  have b2 := HB2.out
  have x0 := HX0.out
  obtain ⟨W1, e1⟩ : ∃ W, ((W0.setCell ⟨w.heap.size, 11, none⟩ (.int .u64 0)).setCell ⟨w.heap.size, 12, none⟩ (.int .u64 0)).setCell ⟨w.heap.size, 10, none⟩ (.slice none 0 0) = W := ⟨_, rfl⟩
  have k1 : Blk W1 w.heap.size 67 #[.int .i64 ser, .string iss, .string sub, .int .u64 (key : Int), .slice nA names.length nc, .int .i64 frm, .int .i64 unt, .bool ca, .int .i64 dep, .slice pA perm.length pc, .slice none 0 0, .int .u64 0, .int .u64 0] := by rw [← e1]; exact (((b1.set_ 11 (.int .u64 0)).set_ 12 (.int .u64 0)).set_ 10 (.slice none 0 0))
  have bb : Blk W1 (w.heap.size + 1) 67 #[.int .i64 0, .string ⟨#[]⟩, .string ⟨#[]⟩, .int .u64 0, .slice none 0 0, .int .i64 0, .int .i64 0, .bool false, .int .i64 0, .slice none 0 0, .slice none 0 0, .int .u64 0, .int .u64 0] := by rw [← e1]; exact (((b2.far (p := ⟨w.heap.size, 11, none⟩) (by simp) _).far (p := ⟨w.heap.size, 12, none⟩) (by simp) _).far (p := ⟨w.heap.size, 10, none⟩) (by simp) _)
  have xx : Ext w W1 := by rw [← e1]; exact (((x0.setCell (p := ⟨w.heap.size, 11, none⟩) (Nat.le_refl _) _).setCell (p := ⟨w.heap.size, 12, none⟩) (Nat.le_refl _) _).setCell (p := ⟨w.heap.size, 10, none⟩) (Nat.le_refl _) _)
  rw [e1]
  clear e1
  obtain ⟨m0, m1, m2, m3, m4, m5, m6, m7, m8, m9, m10, m11, m12⟩ := lst13 k1
  obtain ⟨n0, n1, n2, n3, n4, n5, n6, n7, n8, n9, n10, n11, n12⟩ := lst13 bb
  obtain ⟨f0, f1, f2, f3, f4, f5, f6, f7, f8, f9, f10, f11, f12⟩ := frz13 bb
  have BBH := Lib.hid bb
  have XXH := Lib.hid xx
  clear b1 b2 x0 bb xx k1
  go_wp2
  clear m0 m1 m2 m3 m4 m5 m6 m7 m8 m9 m10 m11 m12 f0 f1 f2 f3 f4 f5 f6 f7 f8 f9 f10 f11 f12 n0 n1 n2 n3 n4 n5 n6 n7 n8 n9 n10 n11 n12
  have bb := BBH.out
  have xx := XXH.out
  obtain ⟨V0, eV0⟩ : ∃ W, W1.setCell ⟨w.heap.size + 1, 0, none⟩ (.int .i64 ser) = W := ⟨_, rfl⟩
  have bb0 : Blk V0 (w.heap.size + 1) 67 #[.int .i64 ser, .string ⟨#[]⟩, .string ⟨#[]⟩, .int .u64 0, .slice none 0 0, .int .i64 0, .int .i64 0, .bool false, .int .i64 0, .slice none 0 0, .slice none 0 0, .int .u64 0, .int .u64 0] := by rw [← eV0]; exact bb.set_ 0 _
  have xx0 : Ext w V0 := by rw [← eV0]; exact xx.setCell (p := ⟨w.heap.size + 1, 0, none⟩) (Nat.le_succ _) _
  clear bb xx
  rw [eV0]
  clear eV0
  obtain ⟨V1, eV1⟩ : ∃ W, V0.setCell ⟨w.heap.size + 1, 1, none⟩ (.string iss) = W := ⟨_, rfl⟩
  have bb1 : Blk V1 (w.heap.size + 1) 67 #[.int .i64 ser, .string iss, .string ⟨#[]⟩, .int .u64 0, .slice none 0 0, .int .i64 0, .int .i64 0, .bool false, .int .i64 0, .slice none 0 0, .slice none 0 0, .int .u64 0, .int .u64 0] := by rw [← eV1]; exact bb0.set_ 1 _
  have xx1 : Ext w V1 := by rw [← eV1]; exact xx0.setCell (p := ⟨w.heap.size + 1, 1, none⟩) (Nat.le_succ _) _
  clear bb0 xx0
  rw [eV1]
  clear eV1
  obtain ⟨V2, eV2⟩ : ∃ W, V1.setCell ⟨w.heap.size + 1, 2, none⟩ (.string sub) = W := ⟨_, rfl⟩
  have bb2 : Blk V2 (w.heap.size + 1) 67 #[.int .i64 ser, .string iss, .string sub, .int .u64 0, .slice none 0 0, .int .i64 0, .int .i64 0, .bool false, .int .i64 0, .slice none 0 0, .slice none 0 0, .int .u64 0, .int .u64 0] := by rw [← eV2]; exact bb1.set_ 2 _
  have xx2 : Ext w V2 := by rw [← eV2]; exact xx1.setCell (p := ⟨w.heap.size + 1, 2, none⟩) (Nat.le_succ _) _
  clear bb1 xx1
  rw [eV2]
  clear eV2
  obtain ⟨V3, eV3⟩ : ∃ W, V2.setCell ⟨w.heap.size + 1, 3, none⟩ (.int .u64 (key : Int)) = W := ⟨_, rfl⟩
  have bb3 : Blk V3 (w.heap.size + 1) 67 #[.int .i64 ser, .string iss, .string sub, .int .u64 (key : Int), .slice none 0 0, .int .i64 0, .int .i64 0, .bool false, .int .i64 0, .slice none 0 0, .slice none 0 0, .int .u64 0, .int .u64 0] := by rw [← eV3]; exact bb2.set_ 3 _
  have xx3 : Ext w V3 := by rw [← eV3]; exact xx2.setCell (p := ⟨w.heap.size + 1, 3, none⟩) (Nat.le_succ _) _
  clear bb2 xx2
  rw [eV3]
  clear eV3
  obtain ⟨V4, eV4⟩ : ∃ W, V3.setCell ⟨w.heap.size + 1, 4, none⟩ (.slice nA names.length nc) = W := ⟨_, rfl⟩
  have bb4 : Blk V4 (w.heap.size + 1) 67 #[.int .i64 ser, .string iss, .string sub, .int .u64 (key : Int), .slice nA names.length nc, .int .i64 0, .int .i64 0, .bool false, .int .i64 0, .slice none 0 0, .slice none 0 0, .int .u64 0, .int .u64 0] := by rw [← eV4]; exact bb3.set_ 4 _
  have xx4 : Ext w V4 := by rw [← eV4]; exact xx3.setCell (p := ⟨w.heap.size + 1, 4, none⟩) (Nat.le_succ _) _
  clear bb3 xx3
  rw [eV4]
  clear eV4
  obtain ⟨V5, eV5⟩ : ∃ W, V4.setCell ⟨w.heap.size + 1, 5, none⟩ (.int .i64 frm) = W := ⟨_, rfl⟩
  have bb5 : Blk V5 (w.heap.size + 1) 67 #[.int .i64 ser, .string iss, .string sub, .int .u64 (key : Int), .slice nA names.length nc, .int .i64 frm, .int .i64 0, .bool false, .int .i64 0, .slice none 0 0, .slice none 0 0, .int .u64 0, .int .u64 0] := by rw [← eV5]; exact bb4.set_ 5 _
  have xx5 : Ext w V5 := by rw [← eV5]; exact xx4.setCell (p := ⟨w.heap.size + 1, 5, none⟩) (Nat.le_succ _) _
  clear bb4 xx4
  rw [eV5]
  clear eV5
  obtain ⟨V6, eV6⟩ : ∃ W, V5.setCell ⟨w.heap.size + 1, 6, none⟩ (.int .i64 unt) = W := ⟨_, rfl⟩
  have bb6 : Blk V6 (w.heap.size + 1) 67 #[.int .i64 ser, .string iss, .string sub, .int .u64 (key : Int), .slice nA names.length nc, .int .i64 frm, .int .i64 unt, .bool false, .int .i64 0, .slice none 0 0, .slice none 0 0, .int .u64 0, .int .u64 0] := by rw [← eV6]; exact bb5.set_ 6 _
  have xx6 : Ext w V6 := by rw [← eV6]; exact xx5.setCell (p := ⟨w.heap.size + 1, 6, none⟩) (Nat.le_succ _) _
  clear bb5 xx5
  rw [eV6]
  clear eV6
  obtain ⟨V7, eV7⟩ : ∃ W, V6.setCell ⟨w.heap.size + 1, 7, none⟩ (.bool ca) = W := ⟨_, rfl⟩
  have bb7 : Blk V7 (w.heap.size + 1) 67 #[.int .i64 ser, .string iss, .string sub, .int .u64 (key : Int), .slice nA names.length nc, .int .i64 frm, .int .i64 unt, .bool ca, .int .i64 0, .slice none 0 0, .slice none 0 0, .int .u64 0, .int .u64 0] := by rw [← eV7]; exact bb6.set_ 7 _
  have xx7 : Ext w V7 := by rw [← eV7]; exact xx6.setCell (p := ⟨w.heap.size + 1, 7, none⟩) (Nat.le_succ _) _
  clear bb6 xx6
  rw [eV7]
  clear eV7
  obtain ⟨V8, eV8⟩ : ∃ W, V7.setCell ⟨w.heap.size + 1, 8, none⟩ (.int .i64 dep) = W := ⟨_, rfl⟩
  have bb8 : Blk V8 (w.heap.size + 1) 67 #[.int .i64 ser, .string iss, .string sub, .int .u64 (key : Int), .slice nA names.length nc, .int .i64 frm, .int .i64 unt, .bool ca, .int .i64 dep, .slice none 0 0, .slice none 0 0, .int .u64 0, .int .u64 0] := by rw [← eV8]; exact bb7.set_ 8 _
  have xx8 : Ext w V8 := by rw [← eV8]; exact xx7.setCell (p := ⟨w.heap.size + 1, 8, none⟩) (Nat.le_succ _) _
  clear bb7 xx7
  rw [eV8]
  clear eV8
  obtain ⟨V9, eV9⟩ : ∃ W, V8.setCell ⟨w.heap.size + 1, 9, none⟩ (.slice pA perm.length pc) = W := ⟨_, rfl⟩
  have bb9 : Blk V9 (w.heap.size + 1) 67 #[.int .i64 ser, .string iss, .string sub, .int .u64 (key : Int), .slice nA names.length nc, .int .i64 frm, .int .i64 unt, .bool ca, .int .i64 dep, .slice pA perm.length pc, .slice none 0 0, .int .u64 0, .int .u64 0] := by rw [← eV9]; exact bb8.set_ 9 _
  have xx9 : Ext w V9 := by rw [← eV9]; exact xx8.setCell (p := ⟨w.heap.size + 1, 9, none⟩) (Nat.le_succ _) _
  clear bb8 xx8
  rw [eV9]
  clear eV9
  obtain ⟨V10, eV10⟩ : ∃ W, V9.setCell ⟨w.heap.size + 1, 10, none⟩ (.slice none 0 0) = W := ⟨_, rfl⟩
  have bb10 : Blk V10 (w.heap.size + 1) 67 #[.int .i64 ser, .string iss, .string sub, .int .u64 (key : Int), .slice nA names.length nc, .int .i64 frm, .int .i64 unt, .bool ca, .int .i64 dep, .slice pA perm.length pc, .slice none 0 0, .int .u64 0, .int .u64 0] := by rw [← eV10]; exact bb9.set_ 10 _
  have xx10 : Ext w V10 := by rw [← eV10]; exact xx9.setCell (p := ⟨w.heap.size + 1, 10, none⟩) (Nat.le_succ _) _
  clear bb9 xx9
  rw [eV10]
  clear eV10
  obtain ⟨V11, eV11⟩ : ∃ W, V10.setCell ⟨w.heap.size + 1, 11, none⟩ (.int .u64 0) = W := ⟨_, rfl⟩
  have bb11 : Blk V11 (w.heap.size + 1) 67 #[.int .i64 ser, .string iss, .string sub, .int .u64 (key : Int), .slice nA names.length nc, .int .i64 frm, .int .i64 unt, .bool ca, .int .i64 dep, .slice pA perm.length pc, .slice none 0 0, .int .u64 0, .int .u64 0] := by rw [← eV11]; exact bb10.set_ 11 _
  have xx11 : Ext w V11 := by rw [← eV11]; exact xx10.setCell (p := ⟨w.heap.size + 1, 11, none⟩) (Nat.le_succ _) _
  clear bb10 xx10
  rw [eV11]
  clear eV11
  obtain ⟨V12, eV12⟩ : ∃ W, V11.setCell ⟨w.heap.size + 1, 12, none⟩ (.int .u64 0) = W := ⟨_, rfl⟩
  have bb12 : Blk V12 (w.heap.size + 1) 67 #[.int .i64 ser, .string iss, .string sub, .int .u64 (key : Int), .slice nA names.length nc, .int .i64 frm, .int .i64 unt, .bool ca, .int .i64 dep, .slice pA perm.length pc, .slice none 0 0, .int .u64 0, .int .u64 0] := by rw [← eV12]; exact bb11.set_ 12 _
  have xx12 : Ext w V12 := by rw [← eV12]; exact xx11.setCell (p := ⟨w.heap.size + 1, 12, none⟩) (Nat.le_succ _) _
  clear bb11 xx11
  rw [eV12]
  clear eV12
  obtain ⟨m0, m1, m2, m3, m4, m5, m6, m7, m8, m9, m10, m11, m12⟩ := lst13 bb12
  exact bodyPost_ret (v := .agg #[.int .i64 ser, .string iss, .string sub, .int .u64 (key : Int), .slice nA names.length nc, .int .i64 frm, .int .i64 unt, .bool ca, .int .i64 dep, .slice pA perm.length pc, .slice none 0 0, .int .u64 0, .int .u64 0]) (by simp [results, Tryz.results32, go_sem, m0, m1, m2, m3, m4, m5, m6, m7, m8, m9, m10, m11, m12]) rfl ⟨rfl, xx12⟩
end Go.Proofs.YtfpmfegmehbfbaaGreatDoor

/- Certificates, walked: Leaf. -/
namespace Go.Proofs.YtfpmfegmehbfbaaGreatDoor
set_option linter.unusedVariables false
set_option linter.unusedSimpArgs false
set_option linter.unusedSimpArgs false
open Go.RowKit Go.Shelf Go.Maps

theorem leafB_len2 (l : List Nat) (h : l.length ≤ 2000) : (leafB l).length ≤ 1099511627776 := by
  have : (strN ⟨#[108, 101, 97, 102]⟩).length = 4 := by decide
  simp [leafB, coded, be_length, this]; omega
theorem preB_byte {c : CrtR} (hg : GoodC c) : ∀ x ∈ itB (preT c), x < 256 := itB_byte (preT_ok hg) (by have := preT_len hg; omega)
/-- The leaf of a certificate. -/
def leafC (c : CrtR) : Nat × Nat := hSum (leafB (itB (preT c)))
theorem leafP_any (c : CrtR) (hg : GoodC c) (A : Option Addr) (k : Nat) (hk : (itB (preT c)).length ≤ k) (w : World) (hr : Reads w w.heap.size 1 A (itB (preT c)).length (bv (itB (preT c)))) :
    Calls Tryz.prog 17 #[.slice A (itB (preT c)).length k] w fun e w' => e = .returned (.agg #[.int .u64 ((leafC c).1 : Int), .int .u64 ((leafC c).2 : Int)]) ∧ Ext w w' :=
  Leaf_any (itB (preT c)) (preB_byte hg) A k hk w hr (leafB_len2 _ (by have := preT_len hg; omega))
set_option maxRecDepth 100000 in
set_option maxHeartbeats 8000000 in
theorem cLeaf_yes (r : CrtR) (hf : formC namP patP r) (nA : Option Addr) (nc : Nat) (pA : Option Addr) (pc : Nat) (mA : Option Addr) (mc : Nat) (w : World) (hw : CrtW w w.heap.size ⟨r, nA, nc, pA, pc, mA, mc⟩) (hk : KindsW w) :
    Calls Tryz.prog 28 #[crtV ⟨r, nA, nc, pA, pc, mA, mc⟩] w fun e w' => e = .returned (.tuple #[.agg #[.int .u64 ((leafC r).1 : Int), .int .u64 ((leafC r).2 : Int)], .int .i64 0]) ∧ Ext w w' := by
  have hg := good_of hf
  obtain ⟨l1, h1⟩ : ∃ n, (leafC r).1 = n := ⟨_, rfl⟩
  obtain ⟨l2, h2⟩ : ∃ n, (leafC r).2 = n := ⟨_, rfl⟩
  obtain ⟨W0, e0, b1, b2, x0⟩ := boxes2 w #[.int .i64 r.ser, .string r.iss, .string r.sub, .int .u64 (r.key : Int), .slice nA r.names.length nc, .int .i64 r.frm, .int .i64 r.unt, .bool r.ca, .int .i64 r.dep, .slice pA r.perm.length pc, .slice mA r.proms.length mc, .int .u64 (r.e : Int), .int .u64 (r.s : Int)] #[.int .u64 0, .int .u64 0] 67 34
  have c1 := cPre_yes ⟨r, nA, nc, pA, pc, mA, mc⟩ hf W0 (hw.ext x0) (hk.ext x0)
  have c2 := fun A k hk W hr => leafP_any r hg A k hk W hr
  rw [h1, h2] at c2 ⊢
  unfold crtV crtC at c1 ⊢
  dsimp only at c1 ⊢
  obtain ⟨N, hN⟩ : ∃ N, (itB (preT r)).length = N := ⟨_, rfl⟩
  obtain ⟨T, hT⟩ : ∃ T, itB (preT r) = T := ⟨_, rfl⟩
  rw [hN, hT] at c1 c2
  obtain ⟨m0, m1, m2, m3, m4, m5, m6, m7, m8, m9, m10, m11, m12⟩ := lst13 b1
  have HB2 := Lib.hid b2
  have HX0 := Lib.hid x0
  clear b1 b2 x0 hw hf hk hN hT hg h1 h2
  go_enter Tryz.func28, Tryz.ntmps28
  go_upto_region 1 with (fail)
  try rw [e0]
  clear e0
  go_wp2_with (first | (go_at_call 26; refine c1.mono ?_; clear c1 m0 m1 m2 m3 m4 m5 m6 m7 m8 m9 m10 m11 m12; rintro e w1 ⟨A1, k1, rfl, hk1, hr1, x1⟩; have c3 := c2 A1 k1 hk1 w1 hr1; clear c2) | (go_at_call 17; refine c3.mono ?_; clear c3; rintro e w2 ⟨rfl, x2⟩; have b2 := ext_blk (x1.trans x2) HB2.out; have n0 := b2.cell 0; have n1 := b2.cell 1; have f0 := b2.frozen 0; have f1 := b2.frozen 1; have B2 := Lib.hid b2; clear b2))
  clear n0 n1 f0 f1
  obtain ⟨W3, e3⟩ : ∃ W, (w2.setCell ⟨w.heap.size + 1, 0, none⟩ (.int .u64 (l1 : Int))).setCell ⟨w.heap.size + 1, 1, none⟩ (.int .u64 (l2 : Int)) = W := ⟨_, rfl⟩
  have b3 : Blk W3 (w.heap.size + 1) 34 #[.int .u64 (l1 : Int), .int .u64 (l2 : Int)] := by rw [← e3]; exact (B2.out.set_ 0 _).set_ 1 _
  have x3 : Ext w W3 := by rw [← e3]; exact ((HX0.out.trans (x1.trans x2)).setCell (p := ⟨w.heap.size + 1, 0, none⟩) (Nat.le_succ _) _).setCell (p := ⟨w.heap.size + 1, 1, none⟩) (Nat.le_succ _) _
  rw [e3]
  clear e3
  have n0 := b3.cell 0
  have n1 := b3.cell 1
  exact bodyPost_ret (v := .tuple #[.agg #[.int .u64 (l1 : Int), .int .u64 (l2 : Int)], .int .i64 0]) (by simp [results, Tryz.results28, go_sem, n0, n1]) rfl ⟨rfl, x3⟩
end Go.Proofs.YtfpmfegmehbfbaaGreatDoor

/- TopCert, walked: a certificate that is too much, one that has no form. -/
namespace Go.Proofs.YtfpmfegmehbfbaaGreatDoor
set_option linter.unusedVariables false
set_option linter.unusedSimpArgs false
set_option linter.unusedSimpArgs false
open Go.RowKit Go.Shelf Go.Maps

set_option maxRecDepth 100000 in
set_option maxHeartbeats 4000000 in
theorem tc_many (x : CrtX) (hn : x.r.names.length ≤ 140737488351232 ∧ x.r.perm.length ≤ 140737488351232) (hf : ¬ fewC x.r) (w : World) (h1 : Reads w w.heap.size 1 x.nA x.r.names.length (tv x.r.names)) (h2 : Reads w w.heap.size 1 x.pA x.r.perm.length (tv x.r.perm)) (hk : KindsW w) :
    Calls Tryz.prog 5 #[crtV x] w fun e w' => e = .returned (.bool true) ∧ Ext w w' := by
  obtain ⟨⟨ser, iss, sub, key, names, frm, unt, ca, dep, perm, proms, e, s⟩, nA, nc, pA, pc, mA, mc⟩ := x
  obtain ⟨W0, e0⟩ : ∃ W, w.alloc (.cells #[.int .i64 ser, .string iss, .string sub, .int .u64 (key : Int), .slice nA names.length nc, .int .i64 frm, .int .i64 unt, .bool ca, .int .i64 dep, .slice pA perm.length pc, .slice mA proms.length mc, .int .u64 (e : Int), .int .u64 (s : Int)] 67) = W := ⟨_, rfl⟩
  have b0 : Blk W0 w.heap.size 67 #[.int .i64 ser, .string iss, .string sub, .int .u64 (key : Int), .slice nA names.length nc, .int .i64 frm, .int .i64 unt, .bool ca, .int .i64 dep, .slice pA perm.length pc, .slice mA proms.length mc, .int .u64 (e : Int), .int .u64 (s : Int)] := by rw [← e0]; exact Blk.new _ _ _
  have x0 : Ext w W0 := by rw [← e0]; exact (Ext.refl w).alloc _
  have c1 := up_any W0 (hk.ext x0)
  have c2 := fun W (X : Ext W0 W) => Few_any ⟨⟨ser, iss, sub, key, names, frm, unt, ca, dep, perm, proms, e, s⟩, nA, nc, pA, pc, mA, mc⟩ hn W ((h1.below (x0.trans X).out).more (x0.trans X).size) ((h2.below (x0.trans X).out).more (x0.trans X).size)
  unfold crtV crtC at c2 ⊢
  dsimp only at c2 hf ⊢
  have FEW := Lib.hid hf
  have HB1 := Lib.hid b0
  have HX0 := Lib.hid x0
  clear b0 x0 hk hf h1 h2 hn
  go_enter Tryz.func5, Tryz.ntmps5
  go_upto_region 1 with (fail)
  try rw [e0]
  clear e0
  go_upto_region 3 with (go_at_call 7; refine c1.mono ?_; clear c1; rintro e w1 ⟨rfl, x1⟩; have X1 := x1; clear x1; obtain ⟨m0, m1, m2, m3, m4, m5, m6, m7, m8, m9, m10, m11, m12⟩ := lst13 (ext_blk X1 HB1.out))
  go_wp2_with (go_at_call 21; refine (c2 _ X1).mono ?_; clear c2; rintro e w2 ⟨b, rfl, hb, x2⟩; obtain rfl : b = false := (Bool.eq_false_iff.2 fun h => FEW.out (hb.1 h)); have X2 := X1.trans x2; clear x2 hb X1 m0 m1 m2 m3 m4 m5 m6 m7 m8 m9 m10 m11 m12)
  go_ret
  exact ⟨rfl, HX0.out.trans X2⟩
set_option maxRecDepth 100000 in
set_option maxHeartbeats 4000000 in
theorem tc_no (x : CrtX) (hf : ¬ formC namP patP x.r) (w : World) (hw : CrtW w w.heap.size x) (hk : KindsW w) :
    Calls Tryz.prog 5 #[crtV x] w fun e w' => e = .returned (.bool true) ∧ Ext w w' := by
  have few := hw.few
  obtain ⟨⟨ser, iss, sub, key, names, frm, unt, ca, dep, perm, proms, e, s⟩, nA, nc, pA, pc, mA, mc⟩ := x
  obtain ⟨W0, e0⟩ : ∃ W, w.alloc (.cells #[.int .i64 ser, .string iss, .string sub, .int .u64 (key : Int), .slice nA names.length nc, .int .i64 frm, .int .i64 unt, .bool ca, .int .i64 dep, .slice pA perm.length pc, .slice mA proms.length mc, .int .u64 (e : Int), .int .u64 (s : Int)] 67) = W := ⟨_, rfl⟩
  have b0 : Blk W0 w.heap.size 67 #[.int .i64 ser, .string iss, .string sub, .int .u64 (key : Int), .slice nA names.length nc, .int .i64 frm, .int .i64 unt, .bool ca, .int .i64 dep, .slice pA perm.length pc, .slice mA proms.length mc, .int .u64 (e : Int), .int .u64 (s : Int)] := by rw [← e0]; exact Blk.new _ _ _
  have x0 : Ext w W0 := by rw [← e0]; exact (Ext.refl w).alloc _
  have c1 := up_any W0 (hk.ext x0)
  have HW := Lib.hid fun W (X : Ext W0 W) => hw.ext (x0.trans X)
  have c2 := fun W (X : Ext W0 W) => Few_any ⟨⟨ser, iss, sub, key, names, frm, unt, ca, dep, perm, proms, e, s⟩, nA, nc, pA, pc, mA, mc⟩ ⟨by have := few.2.2.1.1; dsimp only at this ⊢; omega, by have := few.2.2.2.1.1; dsimp only at this ⊢; omega⟩ W (HW.out W X).names (HW.out W X).perm
  have c3 := fun W (X : Ext W0 W) => cPut_no ⟨⟨ser, iss, sub, key, names, frm, unt, ca, dep, perm, proms, e, s⟩, nA, nc, pA, pc, mA, mc⟩ hf W (HW.out W X)
  unfold crtV crtC at c2 c3 ⊢
  dsimp only at c2 c3 few ⊢
  have FEW := Lib.hid few
  have HB1 := Lib.hid b0
  have HX0 := Lib.hid x0
  clear b0 x0 hk hf hw few
  go_enter Tryz.func5, Tryz.ntmps5
  go_upto_region 1 with (fail)
  try rw [e0]
  clear e0
  go_upto_region 3 with (go_at_call 7; refine c1.mono ?_; clear c1; rintro e w1 ⟨rfl, x1⟩; have X1 := x1; clear x1; obtain ⟨m0, m1, m2, m3, m4, m5, m6, m7, m8, m9, m10, m11, m12⟩ := lst13 (ext_blk X1 HB1.out))
  go_upto_region 5 with (go_at_call 21; refine (c2 _ X1).mono ?_; clear c2; rintro e w2 ⟨b, rfl, hb, x2⟩; obtain rfl : b = true := hb.2 FEW.out; have X2 := X1.trans x2; clear x2 hb X1; clear m0 m1 m2 m3 m4 m5 m6 m7 m8 m9 m10 m11 m12; obtain ⟨m0, m1, m2, m3, m4, m5, m6, m7, m8, m9, m10, m11, m12⟩ := lst13 (ext_blk X2 HB1.out))
  go_wp2_with (go_at_call 22; refine (c3 _ X2).mono ?_; clear c3; rintro e w3 ⟨rfl, x3⟩; have X3 := X2.trans x3; clear x3 X2 m0 m1 m2 m3 m4 m5 m6 m7 m8 m9 m10 m11 m12)
  go_ret
  exact ⟨rfl, HX0.out.trans X3⟩
end Go.Proofs.YtfpmfegmehbfbaaGreatDoor
