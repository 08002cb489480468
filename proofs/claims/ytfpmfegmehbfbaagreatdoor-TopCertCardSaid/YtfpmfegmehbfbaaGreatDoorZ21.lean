/- Parts of the proofs, put together: Rd. -/
import Derived.Test.YtfpmfegmehbfbaaGreatDoorShelf
import Derived.RangeFuncBox
import Derived.Deep.Cut
import Derived.Lib.SlBytesRow
import Derived.Shelf.Bytes.SlTrim
import Derived.Shelf.Strings.SlTrimAscii
import Derived.Test.YtfpmfegmehbfbaaGreatDoorZ11
import Derived.Test.YtfpmfegmehbfbaaGreatDoorZ18
import Derived.Test.YtfpmfegmehbfbaaGreatDoorZ20
/- Rules, read: the reader's next token. -/
namespace Go.Proofs.YtfpmfegmehbfbaaGreatDoor
set_option linter.unusedVariables false
set_option linter.unusedSimpArgs false
open Go.RowKit Go.Shelf

/-- The letters of words. -/
def rdWords : ByteArray := ⟨#[97, 98, 99, 100, 101, 102, 103, 104, 105, 106, 107, 108, 109, 110, 111, 112, 113, 114, 115, 116, 117, 118, 119, 120, 121, 122, 48, 49, 50, 51, 52, 53, 54, 55, 56, 57, 45, 42, 46, 95]⟩
/-- How many bytes a token has that begins at a place. -/
def rdLen (T : ByteArray) (a : Nat) : Nat :=
  if (T.data.toList.drop a).length - (Lib.trimLeftS (T.data.toList.drop a) rdWords.data.toList).length = 0 then min 1 (T.size - a)
  else (T.data.toList.drop a).length - (Lib.trimLeftS (T.data.toList.drop a) rdWords.data.toList).length
/-- A reader in memory. -/
def Rd (w : World) (p b : Nat) (T : ByteArray) (c a : Nat) (tok : ByteArray) : Prop :=
  Blk w p 205 #[.slice (some ⟨b, 0, none⟩) T.size c, .int .i64 (a : Int), .string tok]
/-- The text in memory. -/
theorem bytes_at {w : World} {b : Nat} {T : ByteArray} (h : Lib.Bytes w b 0 T) (a : Nat) (ha : a ≤ T.size) : Lib.BytesAt w (some ⟨b, a, none⟩) (T.size - a) (T.data.toList.drop a) := fun h0 => by
  refine ⟨b, a, rfl, fun i hi => ?_⟩
  have := h (a + i) (by omega)
  rw [Nat.zero_add] at this
  rw [this]
  congr 2
  rw [List.getD, List.getElem?_drop]
  have e : T.data.toList[a + i]? = some (T[a + i]'(by omega)) := by
    rw [List.getElem?_eq_getElem (by simp; omega)]; simp; rfl
  rw [e]; rfl
theorem rdLen_le (T : ByteArray) (a : Nat) (h : a ≤ T.size) : a + rdLen T a ≤ T.size := by
  have e : (T.data.toList.drop a).length = T.size - a := by simp
  unfold rdLen
  rw [e]
  split <;> omega
theorem trim_le (l cs : List UInt8) : (Lib.trimLeftS l cs).length ≤ l.length := (List.dropWhile_suffix _).length_le
theorem Rd.cells {w : World} {p b c a : Nat} {T tok : ByteArray} (h : Rd w p b T c a tok) : w.cell? ⟨p, 0, none⟩ = some (.slice (some ⟨b, 0, none⟩) T.size c) ∧ w.cell? ⟨p, 1, none⟩ = some (.int .i64 (a : Int)) ∧ w.cell? ⟨p, 2, none⟩ = some (.string tok) ∧
    w.frozen? ⟨p, 0, none⟩ = false ∧ w.frozen? ⟨p, 1, none⟩ = false ∧ w.frozen? ⟨p, 2, none⟩ = false := ⟨Blk.cell h 0, Blk.cell h 1, Blk.cell h 2, Blk.frozen h 0, Blk.frozen h 1, Blk.frozen h 2⟩
theorem Rd.at_ {w : World} {p b c a : Nat} {T tok : ByteArray} (h : Rd w p b T c a tok) {a' : Nat} : Rd (w.setCell ⟨p, 1, none⟩ (.int .i64 (a' : Int))) p b T c a' tok := Blk.set_ h 1 _
theorem Rd.tok_ {w : World} {p b c a : Nat} {T tok : ByteArray} (h : Rd w p b T c a tok) {tok' : ByteArray} : Rd (w.setCell ⟨p, 2, none⟩ (.string tok')) p b T c a tok' := Blk.set_ h 2 _
theorem grown_cell (W : World) (g i : Nat) (u : Value) : W.grownBy (W.setCell ⟨g, i, none⟩ u) (some g) :=
  ⟨rfl, rfl, rfl, by simp, fun k _ hk => Below.heap_setCell W _ u k (fun e => hk (by simpa using e))⟩
theorem grown_drew (W : World) (row : Option Nat) : W.grownBy W.drew row := ⟨rfl, rfl, rfl, Nat.le_refl _, fun _ _ _ => rfl⟩
theorem grown_extR {W W' : World} (h : Ext W W') (row : Option Nat) : W.grownBy W' row := by
  obtain ⟨a, b, c, d, e⟩ := h.out
  exact ⟨a, b, c, d, fun k hk _ => e k hk⟩
theorem bytes_grown {w w' : World} {b : Nat} {T : ByteArray} (h : Lib.Bytes w b 0 T) {row : Option Nat} (hg : w.grownBy w' row) (hr : some b ≠ row) : Lib.Bytes w' b 0 T := fun i hi => by
  have h1 := h i hi
  have hb : b < w.heap.size := World.block_lt_of_cell? _ _ h1
  rw [← h1]
  exact World.cell?_of_block (hg.block b hb hr)
set_option maxRecDepth 100000 in
theorem TrimLeft_any (T : ByteArray) (hT : T.size ≤ 32768) (b c a : Nat) (hc : T.size ≤ c) (hcb : c ≤ 9223372036854775807) (ha : a ≤ T.size) (w : World) (hb : Lib.Bytes w b 0 T) (A : Option Addr) (hA : a < T.size → A = some ⟨b, a, none⟩) :
    Calls Tryz.prog 198 #[.slice A (T.size - a : Nat) (c - a : Nat), .string rdWords] w fun e w' => ∃ A' c', e = .returned (.slice A' (Lib.trimLeftS (T.data.toList.drop a) rdWords.data.toList).length c') ∧ Ext w w' := by
  have h27 : (Tryz.prog.info? 337).map (fun i => (i.zero, i.size)) = some (some (.agg (Array.replicate 256 (.bool false))), 256) := by kernel_rfl
  have hl : (T.data.toList.drop a).length = T.size - a := by simp
  have hle := trim_le (T.data.toList.drop a) rdWords.data.toList
  refine (Any.bytes_TrimLeft_ascii Tryz.laysV8 (zero_of_info h27).1 (zero_of_info h27).2 A (T.size - a) (c - a) (T.data.toList.drop a) rdWords w hl (by omega) (by omega) ?_ (by decide) (ascii_of_all (by decide))).mono ?_
  · intro h0
    rw [hA (by omega)]
    exact bytes_at hb a ha h0
  · rintro e w' ⟨rfl, x⟩
    unfold Lib.leftV
    split
    · next h => exact ⟨none, 0, by rw [show (Lib.trimLeftS (T.data.toList.drop a) rdWords.data.toList).length = 0 by omega], Ext.of x⟩
    · unfold Lib.fromV
      rw [show T.size - a - (T.size - a - (Lib.trimLeftS (T.data.toList.drop a) rdWords.data.toList).length) = (Lib.trimLeftS (T.data.toList.drop a) rdWords.data.toList).length by omega]
      exact ⟨_, _, rfl, Ext.of x⟩
set_option maxRecDepth 100000 in
set_option maxHeartbeats 4000000 in
theorem next_any (T : ByteArray) (hT : T.size ≤ 32768) (b c p a a1 : Nat) (tok : ByteArray) (w : World) (hp : b ≠ p) (hc : T.size ≤ c) (hcb : c ≤ 9223372036854775807) (hb : Lib.Bytes w b 0 T) (hr : Rd w p b T c a tok)
    (h1 : a + tok.size ≤ a1) (h2 : a1 ≤ T.size) (hsk : ∀ i (h : i < T.size), a + tok.size ≤ i → i < a1 → T[i].toNat = 32) (hst : ∀ h : a1 < T.size, T[a1].toNat ≠ 32 ∧ T[a1].toNat ≠ 10 ∧ T[a1].toNat ≠ 35) :
    Calls Tryz.prog 113 #[.pointer (some ⟨p, 0, none⟩)] w fun e w' => e = .returned (.tuple #[]) ∧ Rd w' p b T c a1 (T.extract a1 (a1 + rdLen T a1)) ∧ w.grownBy w' (some p) := by
  have HB := Lib.hid hb
  have HR := Lib.hid hr
  obtain ⟨m0, m1, m2, f0, f1, f2⟩ := hr.cells
  have HSK := Lib.hid hsk
  have HST := Lib.hid hst
  obtain ⟨k0, hk0⟩ : ∃ k0, (Lib.trimLeftS (T.data.toList.drop a1) rdWords.data.toList).length = k0 := ⟨_, rfl⟩
  have cT := fun A W hb hA => TrimLeft_any T hT b c a1 hc hcb h2 W hb A hA
  rw [hk0] at cT
  unfold rdWords at cT
  have HK0 := Lib.hid hk0
  have hk1 : k0 ≤ T.size - a1 := by
    have h1 := trim_le (T.data.toList.drop a1) rdWords.data.toList
    have : (T.data.toList.drop a1).length = T.size - a1 := by simp
    omega
  clear hb hr hsk hst hk0
  go_enter Tryz.func113, Tryz.ntmps113
  go_wp2
  go_region
  go_wp2
  go_loopg [2] (a1 - (a + tok.size)) (fun m s2 wr => ∃ i, i + m = a1 ∧ a + tok.size ≤ i ∧ Rd wr p b T c i tok ∧ w.grownBy wr (some p))
  case atStart =>
    refine ⟨a + tok.size, by omega, Nat.le_refl _, ?_, ?_⟩
    · have := (HR.out.at_ (a' := a + tok.size)).drew
      exact this
    · exact ((grown_cell w p 1 _).trans (grown_drew _ _))
  case round =>
    obtain ⟨i, hi, hai, hri, hg⟩ := hrel
    obtain ⟨m0, m1, m2, f0, f1, f2⟩ := hri.cells
    by_cases h : i < a1
    · have hlt : (i : Int) < T.size := by omega
      have hb := bytes_grown HB.out hg (by simp; omega) i (by omega)
      rw [Nat.zero_add, HSK.out i (by omega) hai h] at hb
      have HRI := Lib.hid hri
      clear hri
      go_wp2
      go_region
      go_wp2
      go_region
      go_wp2
      go_roundg (gk - 1)
      case measure => omega
      case rel =>
        refine ⟨i + 1, by omega, by omega, ?_, ?_⟩
        · exact Rd.at_ (show Rd wr.drew.drew p b T c i tok from HRI.out) (a' := i + 1)
        · exact ((hg.trans (grown_drew _ _)).trans (grown_drew _ _)).trans (grown_cell _ p 1 _)
    · obtain rfl : i = a1 := by omega
      have HRI := Lib.hid hri
      have HG := Lib.hid hg
      have hle := rdLen_le T i h2
      clear hri h hi
      by_cases hT1 : i < T.size
      · have hlt : (i : Int) < T.size := by omega
        have hb := bytes_grown HB.out hg (by simp; omega) i hT1
        obtain ⟨n1, n2, n3⟩ := HST.out hT1
        obtain ⟨x, hx⟩ : ∃ x : Int, x = (T[i].toNat : Nat) := ⟨_, rfl⟩
        rw [Nat.zero_add, ← hx] at hb
        have n1 : ¬ x = 32 := by omega
        have n2 : ¬ x = 10 := by omega
        have n3 : ¬ x = 35 := by omega
        clear hg hx
        go_wp2
        go_region
        go_wp2
        go_region
        go_upto_region 11 with (fail)
        go_region
        have HG3 : Hid (w.grownBy wr.drew.drew.drew (some p)) := Lib.hid (((HG.out.trans (grown_drew _ _)).trans (grown_drew _ _)).trans (grown_drew _ _))
        have HR3 : Hid (Blk wr.drew.drew.drew p 205 #[.slice (some ⟨b, 0, none⟩) T.size c, .int .i64 (i : Int), .string tok]) := Lib.hid HRI.out
        have cT1 := cT (some ⟨b, i, none⟩) wr.drew.drew.drew (bytes_grown HB.out HG3.out (by simp; omega)) (fun _ => rfl)
        clear cT
        go_upto_region 13 with (go_at_call 198; refine cT1.mono ?_; clear cT1; rintro e w1 ⟨A', c', rfl, x1⟩)
        obtain ⟨m, hm⟩ : ∃ m : Nat, m = T.size - i - k0 := ⟨_, rfl⟩
        rw [show ((T.size - i : Nat) : Int) - (k0 : Nat) = (m : Nat) by omega]
        have HG1 : Hid (w.grownBy w1 (some p)) := Lib.hid (HG3.out.trans (grown_extR x1 _))
        have HR1 : Hid (Rd w1 p b T c i tok) := Lib.hid (Blk.below HR3.out x1.out HR3.out.lt)
        obtain ⟨m0, m1, m2, f0, f1, f2⟩ := HR1.out.cells
        have cv := fun n cap (hn : i + n ≤ T.size) => Lib.run_convert_window (P := Tryz.prog) w1 22 5 9 Tryz.underlying22 Tryz.underlying5 Tryz.underlying9 b 0 T (bytes_grown HB.out HG1.out (by simp; omega)) i n cap hn
        have hL : rdLen T i = if m = 0 then min 1 (T.size - i) else m := by
          unfold rdLen
          rw [HK0.out, show (T.data.toList.drop i).length = T.size - i by simp, ← hm]
        by_cases hm0 : m = 0
        · rw [if_pos hm0] at hL
          have hz : ((m : Int) == 0) = true := by subst hm0; rfl
          have cv1 := cv 1 (c - i) (by omega)
          have hL1 : rdLen T i = 1 := by omega
          have HL := Lib.hid hL1
          have e1 : (min 1 ((T.size : Int) - (i : Nat))).toNat = 1 := by omega
          rw [Nat.zero_add, ← e1] at cv1
          have e2 : Hid (i + (min 1 ((T.size : Int) - (i : Nat))).toNat = i + rdLen T i) := Lib.hid (by rw [e1, hL1])
          have h1c : ((T.size - i : Nat) : Int) = (T.size : Int) - i := by omega
          clear cv x1 hb hL hL1 e1
          go_wp2
          go_end0
          rw [e2.out]
          exact ⟨rfl, Rd.tok_ HR1.out, HG1.out.trans (grown_cell _ p 2 _)⟩
        · rw [if_neg hm0] at hL
          have hz : ((m : Int) == 0) = false := by rw [beq_eq_false_iff_ne]; omega
          have cv1 := cv (T.size - i - k0) (c - i) (by omega)
          have hmc : (m : Int) ≤ (c - i : Nat) := by omega
          have e2 : Hid (i + (T.size - i - k0) = i + rdLen T i) := Lib.hid (by rw [hL, hm])
          rw [Nat.zero_add] at cv1
          clear cv x1 hb hL
          go_wp2
          go_end0
          rw [e2.out]
          exact ⟨rfl, Rd.tok_ HR1.out, HG1.out.trans (grown_cell _ p 2 _)⟩
      · have hTi : i = T.size := by omega
        have hk00 : k0 = 0 := by omega
        subst hTi hk00
        clear hg
        go_wp2
        go_region
        go_upto_region 11 with (fail)
        go_region
        obtain ⟨o, ho, ho1⟩ : ∃ o : Nat, (if c = T.size then some ⟨b, 0, none⟩ else some ⟨b, T.size, none⟩ : Option Addr) = some ⟨b, o, none⟩ ∧ o ≤ T.size := by
          split
          · exact ⟨0, rfl, Nat.zero_le _⟩
          · exact ⟨T.size, rfl, Nat.le_refl _⟩
        rw [ho]
        have HG3 : Hid (w.grownBy wr.drew.drew (some p)) := Lib.hid ((HG.out.trans (grown_drew _ _)).trans (grown_drew _ _))
        have HR3 : Hid (Blk wr.drew.drew p 205 #[.slice (some ⟨b, 0, none⟩) T.size c, .int .i64 (T.size : Int), .string tok]) := Lib.hid HRI.out
        have cT1 := cT (some ⟨b, o, none⟩) wr.drew.drew (bytes_grown HB.out HG3.out (by simp; omega)) (fun h => absurd h (Nat.lt_irrefl _))
        rw [Nat.sub_self] at cT1
        have hL : rdLen T T.size = 0 := by omega
        have HL := Lib.hid hL
        clear cT ho hL
        go_upto_region 13 with (go_at_call 198; refine cT1.mono ?_; clear cT1; rintro e w1 ⟨A', c', rfl, x1⟩)
        have HG1 : Hid (w.grownBy w1 (some p)) := Lib.hid (HG3.out.trans (grown_extR x1 _))
        have HR1 : Hid (Rd w1 p b T c T.size tok) := Lib.hid (Blk.below HR3.out x1.out HR3.out.lt)
        obtain ⟨m0, m1, m2, f0, f1, f2⟩ := HR1.out.cells
        have cv1 := Lib.run_convert_window (P := Tryz.prog) w1 22 5 9 Tryz.underlying22 Tryz.underlying5 Tryz.underlying9 b 0 T (bytes_grown HB.out HG1.out (by simp; omega)) o 0 (c - T.size) (by omega)
        rw [Nat.zero_add] at cv1
        have cv2 : (convert 22 9 (.slice (some ⟨b, o, none⟩) (min 1 (0 : Int)).toNat (c - T.size))).run Tryz.prog w1 = .ok (.string (T.extract o (o + 0))) w1 := cv1
        clear x1 cv1
        go_wp2
        go_end0
        rw [HL.out]
        have e3 : T.extract T.size (T.size + 0) = ByteArray.empty := by rw [Nat.add_zero, ByteArray.extract_same]
        rw [e3]
        exact ⟨rfl, Rd.tok_ HR1.out, HG1.out.trans (grown_cell _ p 2 _)⟩
/-- A token that is wanted. -/
theorem want_any (T : ByteArray) (hT : T.size ≤ 32768) (b c p a a1 : Nat) (tok : ByteArray) (w : World) (hp : b ≠ p) (hc : T.size ≤ c) (hcb : c ≤ 9223372036854775807) (hb : Lib.Bytes w b 0 T) (hr : Rd w p b T c a tok)
    (h1 : a + tok.size ≤ a1) (h2 : a1 ≤ T.size) (hsk : ∀ i (h : i < T.size), a + tok.size ≤ i → i < a1 → T[i].toNat = 32) (hst : ∀ h : a1 < T.size, T[a1].toNat ≠ 32 ∧ T[a1].toNat ≠ 10 ∧ T[a1].toNat ≠ 35) :
    Calls Tryz.prog 205 #[.pointer (some ⟨p, 0, none⟩), .string tok] w fun e w' => e = .returned (.tuple #[]) ∧ Rd w' p b T c a1 (T.extract a1 (a1 + rdLen T a1)) ∧ w.grownBy w' (some p) := by
  have cN := next_any T hT b c p a a1 tok w hp hc hcb hb hr h1 h2 hsk hst
  obtain ⟨m0, m1, m2, f0, f1, f2⟩ := hr.cells
  clear hb hr hsk hst h1 h2
  go_enter Tryz.func205, Tryz.ntmps205
  go_wp2_with (go_at_call 113; refine cN.mono ?_; clear cN; rintro e w1 ⟨rfl, r1, g1⟩)
  go_end0
  exact ⟨rfl, r1, g1⟩
/-- A token that is taken: M: what its judge leaves. -/
theorem take_any (F : FuncId) (hE : Enters Tryz.prog F) (cap : Array Value) (T : ByteArray) (hT : T.size ≤ 32768) (b c p a a1 : Nat) (tok : ByteArray) (w : World) (hp : b ≠ p) (hc : T.size ≤ c) (hcb : c ≤ 9223372036854775807) (hb : Lib.Bytes w b 0 T) (hr : Rd w p b T c a tok)
    (h1 : a + tok.size ≤ a1) (h2 : a1 ≤ T.size) (hsk : ∀ i (h : i < T.size), a + tok.size ≤ i → i < a1 → T[i].toNat = 32) (hst : ∀ h : a1 < T.size, T[a1].toNat ≠ 32 ∧ T[a1].toNat ≠ 10 ∧ T[a1].toNat ≠ 35)
    (M : World → Prop) (hF : Calls Tryz.prog F (#[.string tok] ++ cap) w fun e w' => e = .returned (.bool true) ∧ M w') (hM : ∀ w', M w' → ∃ row, w.grownBy w' row ∧ some p ≠ row ∧ some b ≠ row) :
    Calls Tryz.prog 200 #[.pointer (some ⟨p, 0, none⟩), .func (.func F) #[] cap] w fun e w' => e = .returned (.string tok) ∧ ∃ w1, M w1 ∧ Rd w' p b T c a1 (T.extract a1 (a1 + rdLen T a1)) ∧ w1.grownBy w' (some p) := by
  have cN := fun w1 (h : M w1) => (by
    obtain ⟨row, hg, n1, n2⟩ := hM w1 h
    exact next_any T hT b c p a a1 tok w1 hp hc hcb (bytes_grown hb hg n2) (Blk.grown hr hg n1) h1 h2 hsk hst : Calls Tryz.prog 113 #[.pointer (some ⟨p, 0, none⟩)] w1 fun e w' => e = .returned (.tuple #[]) ∧ Rd w' p b T c a1 (T.extract a1 (a1 + rdLen T a1)) ∧ w1.grownBy w' (some p))
  obtain ⟨m0, m1, m2, f0, f1, f2⟩ := hr.cells
  unfold Enters at hE
  clear hb hr hsk hst h1 h2 hM
  go_enter Tryz.func200, Tryz.ntmps200
  go_wp2_with (first | (go_at_fn F; refine hF.mono ?_; clear hF; rintro e w1 ⟨rfl, hM1⟩) | (go_at_call 113; refine (cN _ hM1).mono ?_; clear cN; rintro e w2 ⟨rfl, r1, g1⟩))
  go_ret
  exact ⟨rfl, _, hM1, r1, g1⟩
end Go.Proofs.YtfpmfegmehbfbaaGreatDoor
