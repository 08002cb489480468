/- Parts of the proofs, put together: CtG4, CtG5. -/
import Derived.Test.YtfpmfegmehbfbaaGreatDoorZ23
import Derived.Test.YtfpmfegmehbfbaaGreatDoorZ39
/- A certificate's readers, walked: pre. -/
namespace Go.Proofs.YtfpmfegmehbfbaaGreatDoor
set_option linter.unusedVariables false
set_option linter.unusedSimpArgs false
set_option linter.unusedSimpArgs false
open Go.RowKit Go.Shelf Go.Maps

theorem setCell_id {W : World} {c i : Nat} {T : TypeId} {cs : Array Value} (v : Value) (h : Blk W c T cs) (hi : cs[i]? = some v) : W.setCell ⟨c, i, none⟩ v = W := by
  have hs : cs.setIfInBounds i v = cs := by
    apply Array.ext_getElem?
    intro j
    rw [Array.getElem?_setIfInBounds]
    split
    · next e =>
      subst e
      split
      · exact hi.symm
      · next h2 => rw [Array.getElem?_eq_none (by omega)]
    · rfl
  have hh : (W.setCell ⟨c, i, none⟩ v).heap = W.heap := by
    apply Array.ext_getElem?
    intro k
    by_cases hk : k = c
    · subst hk
      rw [heap_setCell_same W k i cs T v h, hs]
      exact h.symm
    · exact heap_setCell_other W _ k v hk
  have e : W.setCell ⟨c, i, none⟩ v = { W with heap := (W.setCell ⟨c, i, none⟩ v).heap } := rfl
  rw [e, hh]
/-- A row, where it lies and what it holds. -/
structure RowX where
  sz : Nat
  A : Option Addr
  n : Nat
  xs : List Value
/-- A reader is read from, into a certificate's box. -/
structure PrS (w W : World) (P : List Nat) (p c : Nat) (todo : List It) (cs : Array Value) (rs : List RowX) : Prop where
  rd : RdrW W (c :: P) p todo
  b : Blk W c 67 cs
  g : w.grownBy W (some p)
  ge : w.heap.size ≤ c
  ne : c ≠ p
  rows : ∀ r ∈ rs, RdS W (fun b => w.heap.size ≤ b ∧ Mut (c :: P) W b) r.sz r.A r.n r.xs
theorem RdS.grown {w W W' : World} {P : List Nat} {sz n : Nat} {A : Option Addr} {xs : List Value} {row : Option Nat} (h : RdS W (fun b => w.heap.size ≤ b ∧ Mut P W b) sz A n xs) (g : W.grownBy W' row) (hr : ∀ q, row = some q → q ∈ P) : RdS W' (fun b => w.heap.size ≤ b ∧ Mut P W' b) sz A n xs :=
  h.keep (fun a ha => mut_cell g hr a ha.2) (fun b hb => ⟨hb.1, Nat.lt_of_lt_of_le hb.2.1 g.size, hb.2.2⟩)
theorem PrS.call {w W W' : World} {P : List Nat} {p c : Nat} {todo todo' : List It} {cs : Array Value} {rs : List RowX} (h : PrS w W P p c todo cs rs) (h3 : RdrW W' (c :: P) p todo') (g3 : W.grownBy W' (some p)) : PrS w W' P p c todo' cs rs :=
  ⟨h3, Blk.grown h.b g3 (fun e => h.ne (by injection e)), h.g.trans g3, h.ge, h.ne, fun r hr => (h.rows r hr).grown g3 (fun q e => by cases e; exact h.rd.pm)⟩
theorem PrS.put {w W : World} {P : List Nat} {p c : Nat} {todo : List It} {cs : Array Value} {rs : List RowX} (h : PrS w W P p c todo cs rs) (i : Nat) (u : Value) : PrS w (W.setCell ⟨c, i, none⟩ u) P p c todo (cs.setIfInBounds i u) rs := by
  have g := grown_cell W c i u
  exact ⟨h.rd.to g (fun q e => by cases e; exact ⟨List.mem_cons_self .., h.ne⟩) (fun b hb => .inl hb) h.rd.pm, h.b.set_ i u, h.g.andThen g (fun j e => by cases e; exact .inl h.ge), h.ge, h.ne, fun r hr => (h.rows r hr).grown g (fun q e => by cases e; exact List.mem_cons_self ..)⟩
theorem PrS.row {w W : World} {P : List Nat} {p c : Nat} {todo : List It} {cs : Array Value} {rs : List RowX} (h : PrS w W P p c todo cs rs) {w0 : World} {r : RowX} (hw : w.heap.size ≤ w0.heap.size) (hr : RdS W (fun b => w0.heap.size ≤ b ∧ Mut (c :: P) W b) r.sz r.A r.n r.xs) : PrS w W P p c todo cs (r :: rs) :=
  ⟨h.rd, h.b, h.g, h.ge, h.ne, fun r' h' => by
    rcases List.mem_cons.1 h' with rfl | h'
    · exact hr.keep (fun _ _ => rfl) (fun b hb => ⟨Nat.le_trans hw hb.1, hb.2⟩)
    · exact h.rows _ h'⟩
theorem PrS.new {w : World} {P : List Nat} {p : Nat} {todo : List It} (cs : Array Value) (h : RdrW w P p todo) : PrS w (w.alloc (.cells cs 67)) P p w.heap.size todo cs [] := by
  have hs : (w.alloc (.cells cs 67)).heap.size = w.heap.size + 1 := World.size_alloc _ _
  have gn : w.grownBy (w.alloc (.cells cs 67)) none := World.grownBy_alloc _ _ _
  exact ⟨h.to gn (fun q e => by cases e) (fun b hb => by
    rcases List.mem_cons.1 hb with e | e
    · exact .inr ⟨by omega, by omega⟩
    · exact .inl e) (List.mem_cons_of_mem _ h.pm), Blk.new _ _ _, World.grownBy_alloc _ _ _, Nat.le_refl _, fun e => by have := h.pl p h.pm; omega, fun r hr => by cases hr⟩
/-- What is signed by logs, as a row of items. -/
def preL (c : CrtR) : List It := [natT c.ser.toNat, txtT c.iss, txtT c.sub, natT c.key, .s (c.names.map txtT), natT c.frm.toNat, natT c.unt.toNat, boolT c.ca, natT c.dep.toNat, .s (c.perm.map txtT)]
set_option maxRecDepth 100000 in
set_option maxHeartbeats 8000000 in
theorem rpre_any (c : CrtR) (hg : GoodC c) (P : List Nat) (p : Nat) (w : World) (h : RdrW w P p (preL c)) :
    Calls Tryz.prog 81 #[.pointer (some ⟨p, 0, none⟩)] w fun e w' => ∃ nA nc pA pc, e = .returned (crtV ⟨bareC c false, nA, nc, pA, pc, none, 0⟩) ∧ RdS w' (fun b => w.heap.size ≤ b ∧ Mut P w' b) 1 nA c.names.length (c.names.map .string) ∧ RdS w' (fun b => w.heap.size ≤ b ∧ Mut P w' b) 1 pA c.perm.length (c.perm.map .string) ∧ RdrW w' P p [] ∧ w.grownBy w' (some p) := by
  obtain ⟨ser, iss, sub, key, names, frm, unt, ca, dep, perm, proms, e, s⟩ := c
  unfold crtV crtC bareC
  obtain ⟨⟨g1, g1'⟩, g2, g3, g4, ⟨g5, g5'⟩, ⟨g6, g6'⟩, ⟨g7, g7'⟩, ⟨g8, g8'⟩, ⟨g9, g9'⟩, -, -⟩ := hg
  dsimp only at *
  obtain ⟨n1, rfl⟩ : ∃ n : Nat, ser = n := ⟨ser.toNat, by omega⟩
  obtain ⟨n6, rfl⟩ : ∃ n : Nat, frm = n := ⟨frm.toNat, by omega⟩
  obtain ⟨n7, rfl⟩ : ∃ n : Nat, unt = n := ⟨unt.toNat, by omega⟩
  obtain ⟨n8, rfl⟩ : ∃ n : Nat, dep = n := ⟨dep.toNat, by omega⟩
  have hh : RdrW w P p [natT n1, txtT iss, txtT sub, natT key, .s (names.map txtT), natT n6, natT n7, boolT ca, natT n8, .s (perm.map txtT)] := h
  have h0 := PrS.new #[.int .i64 0, .string ⟨#[]⟩, .string ⟨#[]⟩, .int .u64 0, .slice none 0 0, .int .i64 0, .int .i64 0, .bool false, .int .i64 0, .slice none 0 0, .slice none 0 0, .int .u64 0, .int .u64 0] hh
  obtain ⟨W0, e0⟩ : ∃ W, w.alloc (.cells #[.int .i64 0, .string ⟨#[]⟩, .string ⟨#[]⟩, .int .u64 0, .slice none 0 0, .int .i64 0, .int .i64 0, .bool false, .int .i64 0, .slice none 0 0, .slice none 0 0, .int .u64 0, .int .u64 0] 67) = W := ⟨_, rfl⟩
  rw [e0] at h0
  have k1 : n1 < 9223372036854775808 := by omega
  have k6 : n6 < 9223372036854775808 := by omega
  have k7 : n7 < 9223372036854775808 := by omega
  have k8 : n8 < 9223372036854775808 := by omega
  have g5h : names.length ≤ 1000 := by omega
  have g9h : perm.length ≤ 1000 := by omega
  have c1 := count_any n1 k1 _ _ p W0 h0.rd
  have H0 := Lib.hid h0
  have G5 := Lib.hid g5
  have G9 := Lib.hid g9
  have PM := Lib.hid hh.pm
  clear h hh h0 g1 g1' g6 g6' g7 g7' g8 g8' g5 g5' g9 g9' k1
  go_enter Tryz.func81, Tryz.ntmps81
  go_upto_region 1 with (fail)
  try rw [e0]
  clear e0
  go_upto_region 2 with (first | (go_at_call 156; refine c1.mono ?_; clear c1; rintro e w1 ⟨rfl, h1, x1⟩; have s1 := H0.out.call h1 x1; have c2 := nextT_any iss g2 _ _ p w1 h1; clear h1 x1) | (go_at_call 160; first | (refine c2.mono ?_; clear c2; rintro e w2 ⟨rfl, h2, x2⟩; have s2 := s1.call h2 x2; have c3 := nextT_any sub g3 _ _ p w2 h2; clear h2 x2 s1) | (refine c3.mono ?_; clear c3; rintro e w3 ⟨rfl, h3, x3⟩; have s3 := s2.call h3 x3; have c4 := rbig_any key g4 _ _ p w3 h3; clear h3 x3 s2)) | (go_at_call 152; refine c4.mono ?_; clear c4; rintro e w4 ⟨rfl, h4, x4⟩; have s4 := s3.call h4 x4; have S4 := Lib.hid s4; have y0 := s4.b.cell 0; have y1 := s4.b.cell 1; have y2 := s4.b.cell 2; have y3 := s4.b.cell 3; have f0 := s4.b.frozen 0; have f1 := s4.b.frozen 1; have f2 := s4.b.frozen 2; have f3 := s4.b.frozen 3; clear h4 x4 s3 s4))
  clear y0 f0 y1 f1 y2 f2 y3 f3
  obtain ⟨W5, e5⟩ : ∃ W, ((((w4.setCell ⟨w.heap.size, 0, none⟩ (.int .i64 (n1 : Int))).setCell ⟨w.heap.size, 1, none⟩ (.string iss)).setCell ⟨w.heap.size, 2, none⟩ (.string sub)).setCell ⟨w.heap.size, 3, none⟩ (.int .u64 (key : Int))) = W := ⟨_, rfl⟩
  have s5 : PrS w W5 P p w.heap.size [.s (names.map txtT), natT n6, natT n7, boolT ca, natT n8, .s (perm.map txtT)] #[.int .i64 (n1 : Int), .string iss, .string sub, .int .u64 (key : Int), .slice none 0 0, .int .i64 0, .int .i64 0, .bool false, .int .i64 0, .slice none 0 0, .slice none 0 0, .int .u64 0, .int .u64 0] [] := by
    rw [← e5]
    exact ((((S4.out.put 0 (.int .i64 (n1 : Int))).put 1 (.string iss)).put 2 (.string sub)).put 3 (.int .u64 (key : Int)))
  rw [e5]
  clear e5
  have c5 := texts_any names G5.out g5h _ _ p W5 s5.rd
  have S5 := Lib.hid s5
  clear s5 S4
  go_upto_region 3 with (go_at_call 162; refine c5.mono ?_; clear c5; rintro e w6 ⟨nA, nc, rfl, -, r6, h6, x6⟩; have s6 := (S5.out.call h6 x6).row (r := ⟨1, nA, names.length, names.map .string⟩) S5.out.g.size r6; have S6 := Lib.hid s6; have y4 := s6.b.cell 4; have f4 := s6.b.frozen 4; clear h6 x6 r6 s6)
  clear y4 f4 S5
  obtain ⟨W7, e7⟩ : ∃ W, (w6.setCell ⟨w.heap.size, 4, none⟩ (.slice nA names.length nc)) = W := ⟨_, rfl⟩
  have s7 : PrS w W7 P p w.heap.size [natT n6, natT n7, boolT ca, natT n8, .s (perm.map txtT)] #[.int .i64 (n1 : Int), .string iss, .string sub, .int .u64 (key : Int), .slice nA names.length nc, .int .i64 0, .int .i64 0, .bool false, .int .i64 0, .slice none 0 0, .slice none 0 0, .int .u64 0, .int .u64 0] [⟨1, nA, names.length, names.map .string⟩] := by
    rw [← e7]
    exact (S6.out.put 4 (.slice nA names.length nc))
  rw [e7]
  clear e7
  have c7 := count_any n6 k6 _ _ p W7 s7.rd
  have S7 := Lib.hid s7
  clear s7 S6
  go_upto_region 4 with (first | (go_at_call 156; first | (refine c7.mono ?_; clear c7; rintro e w8 ⟨rfl, h8, x8⟩; have s8 := S7.out.call h8 x8; have c8 := count_any n7 k7 _ _ p w8 h8; clear h8 x8) | (refine c8.mono ?_; clear c8; rintro e w9 ⟨rfl, h9, x9⟩; have s9 := s8.call h9 x9; have c9 := nextB_any ca _ _ p w9 h9; clear h9 x9 s8) | (refine c10.mono ?_; clear c10; rintro e w11 ⟨rfl, h11, x11⟩; have s11 := s10.call h11 x11; have S11 := Lib.hid s11; have y5 := s11.b.cell 5; have f5 := s11.b.frozen 5; have y6 := s11.b.cell 6; have f6 := s11.b.frozen 6; have y7 := s11.b.cell 7; have f7 := s11.b.frozen 7; have y8 := s11.b.cell 8; have f8 := s11.b.frozen 8; clear h11 x11 s10 s11)) | (go_at_call 163; refine c9.mono ?_; clear c9; rintro e w10 ⟨rfl, h10, x10⟩; have s10 := s9.call h10 x10; have c10 := count_any n8 k8 _ _ p w10 h10; clear h10 x10 s9))
  clear y5 f5 y6 f6 y7 f7 y8 f8 S7
  obtain ⟨W12, e12⟩ : ∃ W, ((((w11.setCell ⟨w.heap.size, 5, none⟩ (.int .i64 (n6 : Int))).setCell ⟨w.heap.size, 6, none⟩ (.int .i64 (n7 : Int))).setCell ⟨w.heap.size, 7, none⟩ (.bool ca)).setCell ⟨w.heap.size, 8, none⟩ (.int .i64 (n8 : Int))) = W := ⟨_, rfl⟩
  have s12 : PrS w W12 P p w.heap.size [.s (perm.map txtT)] #[.int .i64 (n1 : Int), .string iss, .string sub, .int .u64 (key : Int), .slice nA names.length nc, .int .i64 (n6 : Int), .int .i64 (n7 : Int), .bool ca, .int .i64 (n8 : Int), .slice none 0 0, .slice none 0 0, .int .u64 0, .int .u64 0] [⟨1, nA, names.length, names.map .string⟩] := by
    rw [← e12]
    exact ((((S11.out.put 5 (.int .i64 (n6 : Int))).put 6 (.int .i64 (n7 : Int))).put 7 (.bool ca)).put 8 (.int .i64 (n8 : Int)))
  rw [e12]
  clear e12
  have c12 := texts_any perm G9.out g9h _ _ p W12 s12.rd
  have S12 := Lib.hid s12
  clear s12 S11
  go_upto_region 5 with (go_at_call 162; refine c12.mono ?_; clear c12; rintro e w13 ⟨pA, pc, rfl, -, r13, h13, x13⟩; have s13 := (S12.out.call h13 x13).row (r := ⟨1, pA, perm.length, perm.map .string⟩) S12.out.g.size r13; have S13 := Lib.hid s13; have y9 := s13.b.cell 9; have f9 := s13.b.frozen 9; clear h13 x13 r13 s13)
  clear y9 f9 S12
  obtain ⟨W14, e14⟩ : ∃ W, (w13.setCell ⟨w.heap.size, 9, none⟩ (.slice pA perm.length pc)) = W := ⟨_, rfl⟩
  have s14 : PrS w W14 P p w.heap.size [] #[.int .i64 (n1 : Int), .string iss, .string sub, .int .u64 (key : Int), .slice nA names.length nc, .int .i64 (n6 : Int), .int .i64 (n7 : Int), .bool ca, .int .i64 (n8 : Int), .slice pA perm.length pc, .slice none 0 0, .int .u64 0, .int .u64 0] [⟨1, pA, perm.length, perm.map .string⟩, ⟨1, nA, names.length, names.map .string⟩] := by
    rw [← e14]
    exact (S13.out.put 9 (.slice pA perm.length pc))
  rw [e14]
  clear e14
  have c14 := end_any _ p W14 s14.rd
  have S14 := Lib.hid s14
  have y0 := s14.b.cell 0
  have f0 := s14.b.frozen 0
  have y1 := s14.b.cell 1
  have f1 := s14.b.frozen 1
  have y2 := s14.b.cell 2
  have f2 := s14.b.frozen 2
  have y3 := s14.b.cell 3
  have f3 := s14.b.frozen 3
  have y4 := s14.b.cell 4
  have f4 := s14.b.frozen 4
  have y5 := s14.b.cell 5
  have f5 := s14.b.frozen 5
  have y6 := s14.b.cell 6
  have f6 := s14.b.frozen 6
  have y7 := s14.b.cell 7
  have f7 := s14.b.frozen 7
  have y8 := s14.b.cell 8
  have f8 := s14.b.frozen 8
  have y9 := s14.b.cell 9
  have f9 := s14.b.frozen 9
  have y10 := s14.b.cell 10
  have f10 := s14.b.frozen 10
  have y11 := s14.b.cell 11
  have f11 := s14.b.frozen 11
  have y12 := s14.b.cell 12
  have f12 := s14.b.frozen 12
  clear s14 S13
  go_wp2_with (go_at_call 153; refine c14.mono ?_; clear c14; rintro e w15 ⟨rfl, rfl⟩)
  rw [setCell_id (i := 0) (.int .i64 (n1 : Int)) S14.out.b rfl, setCell_id (i := 1) (.string iss) S14.out.b rfl, setCell_id (i := 2) (.string sub) S14.out.b rfl, setCell_id (i := 3) (.int .u64 (key : Int)) S14.out.b rfl, setCell_id (i := 4) (.slice nA names.length nc) S14.out.b rfl, setCell_id (i := 5) (.int .i64 (n6 : Int)) S14.out.b rfl, setCell_id (i := 6) (.int .i64 (n7 : Int)) S14.out.b rfl, setCell_id (i := 7) (.bool ca) S14.out.b rfl, setCell_id (i := 8) (.int .i64 (n8 : Int)) S14.out.b rfl, setCell_id (i := 9) (.slice pA perm.length pc) S14.out.b rfl, setCell_id (i := 10) (.slice none 0 0) S14.out.b rfl, setCell_id (i := 11) (.int .u64 0) S14.out.b rfl, setCell_id (i := 12) (.int .u64 0) S14.out.b rfl]
  refine bodyPost_ret (v := .agg #[.int .i64 (n1 : Int), .string iss, .string sub, .int .u64 (key : Int), .slice nA names.length nc, .int .i64 (n6 : Int), .int .i64 (n7 : Int), .bool ca, .int .i64 (n8 : Int), .slice pA perm.length pc, .slice none 0 0, .int .u64 0, .int .u64 0]) (by simp [results, Tryz.results81, go_sem, y0, y1, y2, y3, y4, y5, y6, y7, y8, y9, y10, y11, y12]) rfl ?_
  have hs := S14.out
  exact ⟨nA, nc, pA, ⟨pc, rfl⟩, (hs.rows ⟨1, nA, names.length, names.map .string⟩ (by simp)).keep (fun _ _ => rfl) (fun b hb => ⟨hb.1, hb.2.1, fun e => hb.2.2 (List.mem_cons_of_mem _ e)⟩), (hs.rows ⟨1, pA, perm.length, perm.map .string⟩ (by simp)).keep (fun _ _ => rfl) (fun b hb => ⟨hb.1, hb.2.1, fun e => hb.2.2 (List.mem_cons_of_mem _ e)⟩), hs.rd.to (row := none) ⟨rfl, rfl, rfl, Nat.le_refl _, fun _ _ _ => rfl⟩ (fun q e => by cases e) (fun b hb => .inl (List.mem_cons_of_mem _ hb)) PM.out, hs.g⟩
end Go.Proofs.YtfpmfegmehbfbaaGreatDoor

/- A certificate's readers, walked: the world while promises are read. -/
namespace Go.Proofs.YtfpmfegmehbfbaaGreatDoor
set_option linter.unusedVariables false
set_option linter.unusedSimpArgs false
set_option linter.unusedSimpArgs false
open Go.RowKit Go.Shelf Go.Maps

theorem RdS.fresh {w W W' : World} {P P' : List Nat} {sz n : Nat} {A : Option Addr} {xs : List Value} {row : Option Nat} (h : RdS W (fun b => w.heap.size ≤ b ∧ Mut P W b) sz A n xs) (g : W.grownBy W' row) (hr : ∀ q, row = some q → q ∈ P) (hP : ∀ b ∈ P', b ∈ P ∨ W.heap.size ≤ b) : RdS W' (fun b => w.heap.size ≤ b ∧ Mut P' W' b) sz A n xs :=
  h.keep (fun a ha => mut_cell g hr a ha.2) (fun b hb => ⟨hb.1, Nat.lt_of_lt_of_le hb.2.1 g.size, fun e => by
    rcases hP b e with h1 | h1
    · exact hb.2.2 h1
    · have := hb.2.1; omega⟩)
/-- Promises are read, into a row. -/
structure BoS (w wr : World) (P PP : List Nat) (p c0 c1 q : Nat) (rest todo : List It) (cs0 cs1 : Array Value) (rs : List RowX) (base n : Nat) (AL : Option Addr) (cL : Nat) (xs : List Value) : Prop where
  rp : RdrW wr PP p rest
  rq : RdrW wr PP q todo
  b0 : Blk wr c0 67 cs0
  b1 : Blk wr c1 67 cs1
  g : w.grownBy wr (some p)
  m0 : c0 ∈ PP
  m1 : c1 ∈ PP
  mo : ∀ k, (Value.slice AL n cL).ownBlock = some k → k ∈ PP
  mP : ∀ b ∈ P, b ∈ PP
  row : wr.ownsRow base 55 6 (.slice AL n cL) n xs
  rows : ∀ r ∈ rs, RdS wr (fun b => w.heap.size ≤ b ∧ Mut PP wr b) r.sz r.A r.n r.xs
  d1 : w.heap.size ≤ c0 ∧ w.heap.size ≤ c1 ∧ w.heap.size ≤ q ∧ w.heap.size ≤ base
  d2 : c0 ≠ p ∧ c1 ≠ p ∧ q ≠ p ∧ c0 ≠ c1 ∧ q ≠ c0 ∧ q ≠ c1
  d3 : c0 < base ∧ c1 < base ∧ q < base ∧ p < base ∧ ∀ b ∈ P, b < base
variable {w wr wr' wa wb wd : World} {P PP : List Nat} {p c0 c1 q q3 base n n' : Nat} {rest todo todo' : List It} {cs0 cs1 : Array Value} {rs : List RowX} {AL A6 : Option Addr} {cL c6 : Nat} {xs ys : List Value} {o : Obj} {row : Option Nat}
theorem BoS.chg (h : BoS w wr P PP p c0 c1 q rest todo cs0 cs1 rs base n AL cL xs) (g : wr.grownBy wr' row) (hr : ∀ k, row = some k → k ∈ PP ∧ k ≠ p ∧ k ≠ c0 ∧ k ≠ c1 ∧ (Value.slice AL n cL).ownBlock ≠ some k ∧ w.heap.size ≤ k) (X : List Nat)
    (hX : ∀ b ∈ X, wr.heap.size ≤ b ∧ b < wr'.heap.size) (hq : RdrW wr' (X ++ PP) q todo') : BoS w wr' P (X ++ PP) p c0 c1 q rest todo' cs0 cs1 rs base n AL cL xs := by
  have hP : ∀ b ∈ X ++ PP, b ∈ PP ∨ (wr.heap.size ≤ b ∧ b < wr'.heap.size) := fun b hb => (List.mem_append.1 hb).elim (fun e => .inr (hX b e)) .inl
  exact ⟨h.rp.to g (fun k e => ⟨(hr k e).1, (hr k e).2.1⟩) hP (List.mem_append_right _ h.rp.pm), hq, Blk.grown h.b0 g (fun e => (hr c0 e.symm).2.2.1 rfl), Blk.grown h.b1 g (fun e => (hr c1 e.symm).2.2.2.1 rfl),
    h.g.andThen g (fun k e => .inl (hr k e).2.2.2.2.2), List.mem_append_right _ h.m0, List.mem_append_right _ h.m1, fun k e => List.mem_append_right _ (h.mo k e), fun b hb => List.mem_append_right _ (h.mP b hb),
    h.row.kept g (by
      cases row with
      | none => cases hv : (Value.slice AL n cL).ownBlock with
        | none => exact .inl rfl
        | some k => exact .inr (by simp)
      | some k => exact .inr (hr k rfl).2.2.2.2.1),
    fun r hr2 => (h.rows r hr2).fresh g (fun k e => (hr k e).1) (fun b hb => (hP b hb).imp id And.left), h.d1, h.d2, h.d3⟩
theorem BoS.app (h : BoS w wr P PP p c0 c1 q rest todo cs0 cs1 rs base n AL cL xs) (h3 : RdrW wr PP q3 []) (hne : (Value.slice AL n cL).ownBlock ≠ some q3) (ho : wd.ownsRow base 55 6 (.slice A6 n' c6) n' ys) (hg : wr.grownBy wd (Value.slice AL n cL).ownBlock)
    (hb : (Value.slice A6 n' c6).ownBlock = (Value.slice AL n cL).ownBlock ∨ (Value.slice A6 n' c6).ownBlock = some wr.heap.size) : ∃ PP', BoS w wd P PP' p c0 c1 q rest todo cs0 cs1 rs base n' A6 c6 ys ∧ RdrW wd PP' q3 [] ∧ ∀ b ∈ PP, b ∈ PP' := by
  have hge := own_ge h.row
  obtain ⟨-, -, -, hwb⟩ := h.d1
  obtain ⟨k0, k1, kq, kp, kP⟩ := h.d3
  have key : ∀ X : List Nat, (∀ b ∈ X, wr.heap.size ≤ b ∧ b < wd.heap.size) → (∀ k, (Value.slice A6 n' c6).ownBlock = some k → k ∈ X ++ PP) → ∃ PP', BoS w wd P PP' p c0 c1 q rest todo cs0 cs1 rs base n' A6 c6 ys ∧ RdrW wd PP' q3 [] ∧ ∀ b ∈ PP, b ∈ PP' := fun X hX hm => by
    have hP : ∀ b ∈ X ++ PP, b ∈ PP ∨ (wr.heap.size ≤ b ∧ b < wd.heap.size) := fun b hb => (List.mem_append.1 hb).elim (fun e => .inr (hX b e)) .inl
    have hne2 : ∀ (m k : Nat), m < base → (Value.slice AL n cL).ownBlock = some k → k ≠ m := fun m k h1 h2 e => by have := hge k h2; omega
    refine ⟨X ++ PP, ⟨h.rp.to hg (fun k e => ⟨h.mo k e, hne2 p k kp e⟩) hP (List.mem_append_right _ h.rp.pm), h.rq.to hg (fun k e => ⟨h.mo k e, hne2 q k kq e⟩) hP (List.mem_append_right _ h.rq.pm), Blk.grown h.b0 hg (fun e => hne2 c0 c0 k0 e.symm rfl), Blk.grown h.b1 hg (fun e => hne2 c1 c1 k1 e.symm rfl),
      h.g.andThen hg (fun k e => .inl (by have := hge k e; omega)), List.mem_append_right _ h.m0, List.mem_append_right _ h.m1, hm, fun b hb => List.mem_append_right _ (h.mP b hb), ho, fun r hr2 => (h.rows r hr2).fresh hg (fun k e => h.mo k e) (fun b hb => (hP b hb).imp id And.left), h.d1, h.d2, h.d3⟩,
      h3.to hg (fun k e => ⟨h.mo k e, fun e2 => hne (e2 ▸ e)⟩) hP (List.mem_append_right _ h3.pm), fun b hb => List.mem_append_right _ hb⟩
  rcases hb with e | e
  · exact key [] (fun b hb => by cases hb) (fun k hk => h.mo k (e ▸ hk))
  · refine key [wr.heap.size] (fun b hb => ?_) (fun k hk => ?_)
    · rw [List.mem_singleton] at hb
      rw [hb]
      exact ⟨Nat.le_refl _, (ho.lt _ e).2⟩
    · rw [e] at hk
      injection hk with hk
      rw [← hk]
      exact List.mem_append_left _ (List.mem_singleton.2 rfl)
theorem BoS.put (h : BoS w wr P PP p c0 c1 q rest todo cs0 cs1 rs base n AL cL xs) (i : Nat) (u : Value) : BoS w (wr.setCell ⟨c1, i, none⟩ u) P PP p c0 c1 q rest todo cs0 (cs1.setIfInBounds i u) rs base n AL cL xs := by
  have g := grown_cell wr c1 i u
  have hge := own_ge h.row
  obtain ⟨e1, e2, e3, e4, e5, e6⟩ := h.d2
  have kk := h.d3.2.1
  have ne : (Value.slice AL n cL).ownBlock ≠ some c1 := fun e => by have := hge _ e; omega
  exact ⟨h.rp.to g (fun k e => by cases e; exact ⟨h.m1, e2⟩) (fun b hb => .inl hb) h.rp.pm, h.rq.to g (fun k e => by cases e; exact ⟨h.m1, fun e => e6 e.symm⟩) (fun b hb => .inl hb) h.rq.pm, Blk.grown h.b0 g (fun e => e4 (by injection e)), h.b1.set_ i u,
    h.g.andThen g (fun k e => by cases e; exact .inl h.d1.2.1), h.m0, h.m1, h.mo, h.mP, h.row.kept g (.inr ne), fun r hr2 => (h.rows r hr2).grown g (fun k e => by cases e; exact h.m1), h.d1, h.d2, h.d3⟩
/-- A round: what a promise's six numbers make is behind the row, and the row is in the box. -/
theorem BoS.round (h : BoS w wa P PP p c0 c1 q rest todo cs0 cs1 rs base n AL cL xs) (hq3 : w.heap.size ≤ q3 ∧ q3 ≠ p ∧ q3 ≠ c0 ∧ q3 ≠ c1 ∧ q3 ≠ q ∧ (Value.slice AL n cL).ownBlock ≠ some q3) (h3 : RdrW wb PP q3 []) (g3 : wa.grownBy wb (some q3))
    (ho : wd.ownsRow base 55 6 (.slice A6 n' c6) n' ys) (hg : (wb.alloc o).grownBy wd (Value.slice AL n cL).ownBlock) (hb : (Value.slice A6 n' c6).ownBlock = (Value.slice AL n cL).ownBlock ∨ (Value.slice A6 n' c6).ownBlock = some (wb.alloc o).heap.size) (u : Value) :
    ∃ PP', BoS w (wd.setCell ⟨c1, 10, none⟩ u) P PP' p c0 c1 q rest todo cs0 (cs1.setIfInBounds 10 u) rs base n' A6 c6 ys ∧ RdrW (wd.setCell ⟨c1, 10, none⟩ u) PP' q3 [] := by
  obtain ⟨e1, e2, e3, e4, e5, e6⟩ := hq3
  have hb1 := BoS.chg h g3 (fun k e => by cases e; exact ⟨h3.pm, e2, e3, e4, e6, e1⟩) [] (fun b hb => by cases hb) (h.rq.to g3 (fun k e => by cases e; exact ⟨h3.pm, e5⟩) (fun b hb => .inl hb) h.rq.pm)
  have ga : wb.grownBy (wb.alloc o) none := World.grownBy_alloc _ _ _
  have hb2 := BoS.chg hb1 ga (fun k e => by cases e) [] (fun b hb => by cases hb) (hb1.rq.to ga (fun k e => by cases e) (fun b hb => .inl hb) hb1.rq.pm)
  have h4 := h3.to ga (fun k e => by cases e) (fun b hb => .inl hb) h3.pm
  obtain ⟨PP', hb3, h5, hsub⟩ := BoS.app hb2 h4 e6 ho hg hb
  have g5 := grown_cell wd c1 10 u
  exact ⟨PP', hb3.put 10 u, h5.to g5 (fun k e => by cases e; exact ⟨hb3.m1, fun e => e4 e.symm⟩) (fun b hb => .inl hb) h5.pm⟩
end Go.Proofs.YtfpmfegmehbfbaaGreatDoor
