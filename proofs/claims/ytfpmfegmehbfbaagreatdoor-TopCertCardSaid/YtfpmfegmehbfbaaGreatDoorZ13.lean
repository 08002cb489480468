/- Parts of the proofs, put together: Open, Open2, Or, Or2, Or3, Or5, Or6, Or4, OrM, CtW. -/
import Derived.ProofKit
import Derived.OpenShut
import Derived.ShutString
import Derived.ChangeOld
import Derived.SizedLaws
import Derived.Lib.SmallJoins
import Derived.Deep.Matrix
import Derived.ChangeSame
import Derived.Laws.RangeAny
import Derived.Test.YtfpmfegmehbfbaaGreatDoorShelf
import Derived.Lib.IndexLaws
import Derived.RangeFuncNested
import Derived.RangeFuncBound
import Derived.RangeFuncCalls
import Derived.RangeFuncLeaves
import Derived.Shelf.Abstract
import Derived.Shelf.RegionOpen
import Derived.OwnWalkIn
import Derived.TacticsInMore
import Derived.LoopNIn
import Derived.LoopIn
import Derived.Test.YtfpmfegmehbfbaaGreatDoorZ1
import Derived.Test.YtfpmfegmehbfbaaGreatDoorZ2
import Derived.Test.YtfpmfegmehbfbaaGreatDoorZ5
import Derived.Test.YtfpmfegmehbfbaaGreatDoorZ12
import Derived.Test.YtfpmfegmehbfbaaGreatDoorZ14
/- What comes in, opened: bytes, lists of bytes, arrays and structs of numbers; and how great it is at most. -/
namespace Go.Proofs.YtfpmfegmehbfbaaGreatDoor
set_option linter.unusedVariables false
set_option linter.unusedSimpArgs false
open Go.ChangeShapes Go.WideShapes Go.ChangeAt Go.RowKit

section
variable {H : Type} {enc : TypeId × Value → H} {P : Program} {W : World}

theorem cell_lt {w : World} {p : Addr} {v : Value} (hc : w.cell? p = some v) : p.block < w.heap.size := by
  refine Nat.lt_of_not_le fun hle => ?_
  have : w.heap[p.block]? = none := Array.getElem?_eq_none hle
  unfold World.cell? at hc
  simp [this] at hc

theorem word_of_wf {n : Int} (h : (Lit.int .u64 n).wf = true) : n = ((n.toNat : Nat) : Int) ∧ n.toNat < 18446744073709551616 := by
  simp [Lit.wf, IntKind.min, IntKind.max, IntKind.signed, IntKind.bits] at h
  omega

theorem mem_weightsAll {e : TypeId} {d : DataW H} : ∀ {l : List (DataW H)}, d ∈ l → ∀ n ∈ d.weights P e, n ∈ DataW.weightsAll P e l
  | x :: l, hd, n, hn => by
    rw [DataW.weightsAll, List.mem_append]
    rcases List.mem_cons.1 hd with rfl | hd
    · exact .inl hn
    · exact .inr (mem_weightsAll hd n hn)

end
end Go.Proofs.YtfpmfegmehbfbaaGreatDoor

/- Opening an argument that is a struct of two words. -/
namespace Go.Proofs.YtfpmfegmehbfbaaGreatDoor
set_option linter.unusedVariables false
set_option linter.unusedSimpArgs false
open Go.RowKit Go.WideShapes Go.ChangeShapes

section
variable {P : Program} {H : Type} {enc : TypeId × Value → H} {W : World}
end
end Go.Proofs.YtfpmfegmehbfbaaGreatDoor

/- Names, walked: edge, inner, label, told. -/
namespace Go.Proofs.YtfpmfegmehbfbaaGreatDoor
set_option linter.unusedVariables false
set_option linter.unusedSimpArgs false
open Go.RowKit Go.Shelf

def edgeB (c : Int) : Bool := decide (97 ≤ c ∧ c ≤ 122 ∨ 48 ≤ c ∧ c ≤ 57)
theorem edge_any (c : Int) (w : World) : Calls Tryz.prog 300 #[.int .i32 c] w fun e w' => e = .returned (.bool (edgeB c)) ∧ w' = w := by
  go_enter Tryz.func300, Tryz.ntmps300
  by_cases h1 : 97 ≤ c <;> by_cases h2 : c ≤ 122 <;> by_cases h3 : 48 ≤ c <;> by_cases h4 : c ≤ 57
  all_goals
    first
    | (exfalso; omega)
    | (go_wp2
       go_ret
       exact ⟨by simp [edgeB, *], rfl⟩)
theorem inner_any (c : Int) (w : World) : Calls Tryz.prog 301 #[.int .i32 c] w fun e w' => e = .returned (.bool (decide (c = 45) || edgeB c)) ∧ w' = w := by
  have c1 := edge_any c
  go_enter Tryz.func301, Tryz.ntmps301
  by_cases h1 : c = 45
  · go_wp2
    go_ret
    exact ⟨by simp [h1], rfl⟩
  · go_wp2_with (go_at_call 300; refine (c1 _).mono ?_; clear c1; rintro e w1 ⟨rfl, rfl⟩)
    go_ret
    exact ⟨by simp [h1], rfl⟩
theorem told_any (b : Bool) (w : World) : Calls Tryz.prog 252 #[.bool b] w fun e w' => e = .returned (.int .i64 (if b = true then 0 else 110)) ∧ w' = w := by
  go_enter Tryz.func252, Tryz.ntmps252
  cases b
  · go_wp2
    go_ret
    exact ⟨rfl, rfl⟩
  · go_wp2
    go_ret
    exact ⟨rfl, rfl⟩
end Go.Proofs.YtfpmfegmehbfbaaGreatDoor

/- Names, walked: label. -/
namespace Go.Proofs.YtfpmfegmehbfbaaGreatDoor
set_option linter.unusedVariables false
set_option linter.unusedSimpArgs false
open Go.RowKit Go.Shelf

theorem txN_get (s : ByteArray) (i : Nat) (h : i < s.size) (h' : i < (txN s).length) : (txN s)[i] = (s[i]'h).toNat := by
  simp only [txN, List.getElem_map]
  rfl
theorem txN_len (s : ByteArray) : (txN s).length = s.size := by unfold txN; rw [List.length_map, Array.length_toList]; rfl
/-- So many bytes are right. -/
def labTo (s : ByteArray) (pos : Nat) : Prop := ∀ i (h : i < s.size), i < pos → okAt s.size i (s[i]'h).toNat
theorem labTo_succ {s : ByteArray} {pos : Nat} (h : pos < s.size) (k : labTo s pos) (o : okAt s.size pos (s[pos]'h).toNat) : labTo s (pos + 1) := fun i hi hp => by
  by_cases e : i = pos
  · subst e; exact o
  · exact k i hi (by omega)
theorem lab_yes {s : ByteArray} (h1 : 0 < s.size) (h2 : s.size ≤ 16) (k : labTo s s.size) : labP (txN s) := by
  refine ⟨by rw [txN_len]; exact h1, by rw [txN_len]; exact h2, fun i hi => ?_⟩
  rw [txN_len] at hi
  rw [txN_get s i hi, txN_len]
  exact k i hi hi
theorem lab_no {s : ByteArray} {pos : Nat} (h : pos < s.size) (o : ¬ okAt s.size pos (s[pos]'h).toNat) : ¬ labP (txN s) := fun hl => by
  have := hl.2.2 pos (by rw [txN_len]; exact h)
  rw [txN_get s pos h, txN_len] at this
  exact o this
theorem edge_word (c : Nat) : edgeB (c : Int) = decide (wordP c) := by unfold edgeB wordP; congr 1; apply propext; omega
theorem ok_ascii {n i c : Nat} (h : okAt n i c) : c < 128 := by
  unfold okAt wordP at h
  repeat' split at h
  all_goals omega

theorem edge_iff {c : Nat} : edgeB (c : Int) = true ↔ wordP c := by rw [edge_word]; simp
theorem edge_no {c : Nat} (h : edgeB (c : Int) = false) : ¬ wordP c := by rw [edge_word] at h; simpa using h
theorem edge_high {c : Nat} (h : 128 ≤ c) : edgeB (c : Int) = false := by unfold edgeB; rw [decide_eq_false]; omega
set_option maxRecDepth 100000 in
set_option maxHeartbeats 4000000 in
theorem label_any (s : ByteArray) (w : World) : Calls Tryz.prog 260 #[.string s] w fun e w' => e = .returned (.bool (decide (labP (txN s)))) ∧ Ext w w' := by
  have c1 := edge_any
  have c2 := inner_any
  go_enter Tryz.func260, Tryz.ntmps260
  by_cases hn : s = ByteArray.empty
  · subst hn
    go_wp2
    go_ret
    exact ⟨rfl, Ext.refl w⟩
  have hpos : 0 < s.size := Nat.pos_of_ne_zero fun h => hn (ByteArray.size_eq_zero_iff.1 h)
  have hE : s.toList.isEmpty = false := by
    rw [ByteArray.toList_eq]
    cases hl : s.data.toList with
    | nil => exact absurd (by rw [← Array.length_toList, hl]; rfl : s.data.size = 0) (Nat.pos_iff_ne_zero.1 hpos)
    | cons _ _ => rfl
  have hE2 : ¬ s.toList = [] := fun h => by rw [h] at hE; cases hE
  clear hn
  by_cases hl : ¬ s.size ≤ 16
  · have h16 : (16 : Int) < s.size := by omega
    go_wp2
    go_ret
    exact ⟨ret_bool (by rw [decide_eq_false]; intro h; have := h.2.1; rw [txN_len] at this; omega), Ext.refl w⟩
  replace hl := Decidable.not_not.1 hl
  have h16 : ¬ (16 : Int) < s.size := by omega
  go_wp2
  go_loopg [3, 4] s.size (fun g s3 s4 wr => ∃ pos : Nat, pos + g = s.size ∧ wr = w.iter s pos ∧ labTo s pos)
  case atStart => exact ⟨0, by omega, rfl, fun i h h' => by omega⟩
  case round =>
    obtain ⟨pos, hp, rfl, hk⟩ := hrel
    by_cases h : pos < s.size
    · have hlab := fun o => labTo_succ h hk o
      have hno := fun o => lab_no h o
      by_cases ha : (s[pos]'h).toNat < 128
      · have hnx := fun ty => run_next_ascii (P := Tryz.prog) w s pos ty h ha
        generalize (s[pos]'h).toNat = c at *
        have HLAB := Lib.hid hlab
        have HNO := Lib.hid hno
        clear hlab hno ha hk
        by_cases hL : (pos : Int) = (s.size : Int) - 1
        · have HOK : Hid (okAt s.size pos c ↔ wordP c) := Lib.hid (by unfold okAt; rw [if_pos (by omega)])
          by_cases he : edgeB (c : Int) = true
          · go_wp2_with (first | (go_at_call 300; refine (c1 _ _).mono ?_; rintro e w1 ⟨rfl, rfl⟩) | (go_at_call 301; refine (c2 _ _).mono ?_; rintro e w1 ⟨rfl, rfl⟩))
            go_roundg (gk - 1)
            case measure => omega
            case rel => exact ⟨pos + 1, by omega, rfl, HLAB.out (HOK.out.2 (edge_iff.1 he))⟩
          · replace he : edgeB (c : Int) = false := by simpa using he
            go_wp2_with (first | (go_at_call 300; refine (c1 _ _).mono ?_; rintro e w1 ⟨rfl, rfl⟩) | (go_at_call 301; refine (c2 _ _).mono ?_; rintro e w1 ⟨rfl, rfl⟩))
            go_ret
            exact ⟨ret_bool (by rw [decide_eq_false]; exact HNO.out (fun o => edge_no he (HOK.out.1 o))), (Ext.refl w).alloc _⟩
        · by_cases h0 : (pos : Int) = 0
          · have HOK : Hid (okAt s.size pos c ↔ wordP c ∨ c = 95) := Lib.hid (by unfold okAt; rw [if_neg (by omega), if_pos (by omega)])
            by_cases he : edgeB (c : Int) = true
            · go_wp2_with (first | (go_at_call 300; refine (c1 _ _).mono ?_; rintro e w1 ⟨rfl, rfl⟩) | (go_at_call 301; refine (c2 _ _).mono ?_; rintro e w1 ⟨rfl, rfl⟩))
              go_roundg (gk - 1)
              case measure => omega
              case rel => exact ⟨pos + 1, by omega, rfl, HLAB.out (HOK.out.2 (.inl (edge_iff.1 he)))⟩
            · replace he : edgeB (c : Int) = false := by simpa using he
              by_cases h95 : (c : Int) = 95
              · go_wp2_with (first | (go_at_call 300; refine (c1 _ _).mono ?_; rintro e w1 ⟨rfl, rfl⟩) | (go_at_call 301; refine (c2 _ _).mono ?_; rintro e w1 ⟨rfl, rfl⟩))
                go_roundg (gk - 1)
                case measure => omega
                case rel => exact ⟨pos + 1, by omega, rfl, HLAB.out (HOK.out.2 (.inr (by omega)))⟩
              · go_wp2_with (first | (go_at_call 300; refine (c1 _ _).mono ?_; rintro e w1 ⟨rfl, rfl⟩) | (go_at_call 301; refine (c2 _ _).mono ?_; rintro e w1 ⟨rfl, rfl⟩))
                go_ret
                exact ⟨ret_bool (by rw [decide_eq_false]; exact HNO.out (fun o => (HOK.out.1 o).elim (edge_no he) (fun h => h95 (by omega)))), (Ext.refl w).alloc _⟩
          · have HOK : Hid (okAt s.size pos c ↔ wordP c ∨ c = 45) := Lib.hid (by unfold okAt; rw [if_neg (by omega), if_neg (by omega)])
            by_cases he : edgeB (c : Int) = true
            · go_wp2_with (first | (go_at_call 300; refine (c1 _ _).mono ?_; rintro e w1 ⟨rfl, rfl⟩) | (go_at_call 301; refine (c2 _ _).mono ?_; rintro e w1 ⟨rfl, rfl⟩))
              go_roundg (gk - 1)
              case measure => omega
              case rel => exact ⟨pos + 1, by omega, rfl, HLAB.out (HOK.out.2 (.inl (edge_iff.1 he)))⟩
            · replace he : edgeB (c : Int) = false := by simpa using he
              by_cases h45 : (c : Int) = 45
              · go_wp2_with (first | (go_at_call 300; refine (c1 _ _).mono ?_; rintro e w1 ⟨rfl, rfl⟩) | (go_at_call 301; refine (c2 _ _).mono ?_; rintro e w1 ⟨rfl, rfl⟩))
                go_roundg (gk - 1)
                case measure => omega
                case rel => exact ⟨pos + 1, by omega, rfl, HLAB.out (HOK.out.2 (.inr (by omega)))⟩
              · go_wp2_with (first | (go_at_call 300; refine (c1 _ _).mono ?_; rintro e w1 ⟨rfl, rfl⟩) | (go_at_call 301; refine (c2 _ _).mono ?_; rintro e w1 ⟨rfl, rfl⟩))
                go_ret
                exact ⟨ret_bool (by rw [decide_eq_false]; exact HNO.out (fun o => (HOK.out.1 o).elim (edge_no he) (fun h => h45 (by omega)))), (Ext.refl w).alloc _⟩
      · have hnx := fun ty => run_next_any (P := Tryz.prog) w s pos ty h
        have hd := (decode_high s pos h (by omega)).1
        have hbad : ¬ labP (txN s) := hno (fun o => ha (ok_ascii o))
        generalize (Utf8.decode s pos).1 = c at *
        generalize pos + (Utf8.decode s pos).2 = pos' at *
        have he := edge_high hd
        have h45 : ¬ (c : Int) = 45 := by omega
        have h95 : ¬ (c : Int) = 95 := by omega
        have HB := Lib.hid hbad
        clear hlab hno ha hk hbad hd
        by_cases hL : (pos : Int) = (s.size : Int) - 1
        · go_wp2_with (first | (go_at_call 300; refine (c1 _ _).mono ?_; rintro e w1 ⟨rfl, rfl⟩) | (go_at_call 301; refine (c2 _ _).mono ?_; rintro e w1 ⟨rfl, rfl⟩))
          go_ret
          exact ⟨ret_bool (by rw [decide_eq_false]; exact HB.out), (Ext.refl w).alloc _⟩
        · by_cases h0 : (pos : Int) = 0
          · go_wp2_with (first | (go_at_call 300; refine (c1 _ _).mono ?_; rintro e w1 ⟨rfl, rfl⟩) | (go_at_call 301; refine (c2 _ _).mono ?_; rintro e w1 ⟨rfl, rfl⟩))
            go_ret
            exact ⟨ret_bool (by rw [decide_eq_false]; exact HB.out), (Ext.refl w).alloc _⟩
          · go_wp2_with (first | (go_at_call 300; refine (c1 _ _).mono ?_; rintro e w1 ⟨rfl, rfl⟩) | (go_at_call 301; refine (c2 _ _).mono ?_; rintro e w1 ⟨rfl, rfl⟩))
            go_ret
            exact ⟨ret_bool (by rw [decide_eq_false]; exact HB.out), (Ext.refl w).alloc _⟩
    · have hnx := fun ty => run_next_end (P := Tryz.prog) w s pos ty h
      have hy : labP (txN s) := lab_yes hpos hl (fun i hi _ => hk i hi (by omega))
      go_wp2
      go_ret
      exact ⟨ret_bool (by simp [hy]), (Ext.refl w).alloc _⟩
end Go.Proofs.YtfpmfegmehbfbaaGreatDoor

/- Names, walked: the document's word and label. -/
namespace Go.Proofs.YtfpmfegmehbfbaaGreatDoor
set_option linter.unusedVariables false
set_option linter.unusedSimpArgs false
open Go.RowKit Go.Shelf

end Go.Proofs.YtfpmfegmehbfbaaGreatDoor

/- Names, walked: strings.SplitSeq, the iterator. -/
namespace Go.Proofs.YtfpmfegmehbfbaaGreatDoor
set_option linter.unusedVariables false
set_option linter.unusedSimpArgs false
open Go.RowKit Go.Shelf
attribute [local go_sem] Oper.semAt_some

theorem txN_extract (s : ByteArray) (a b : Nat) : txN (s.extract a b) = ((txN s).take b).drop a := by
  unfold txN
  rw [ByteArray.data_extract, Array.toList_extract, ← List.map_take, ← List.map_drop]
  congr 1
  rw [List.extract_eq_take_drop, List.drop_take]
theorem count_dot (s : ByteArray) : Lib.countByte s.data.toList 46 = (txN s).count 46 := by
  unfold Lib.countByte txN
  rw [List.count_eq_countP, List.count_eq_countP, List.countP_map]
  congr 1
  funext x
  show (x == 46) = (x.toNat == 46)
  rw [Bool.eq_iff_iff, beq_iff_eq, beq_iff_eq]
  exact ⟨fun h => by rw [h]; rfl, fun h => UInt8.toNat_inj.1 h⟩
theorem idx_no {s : ByteArray} (h : Lib.indexByte s.data.toList 46 = -1) (k : Nat) : (txN s)[k]? ≠ some 46 := by
  have := Lib.indexByte_none h k
  unfold txN
  rw [List.getElem?_map]
  intro e
  rw [Option.map_eq_some_iff] at e
  obtain ⟨x, h1, h2⟩ := e
  exact this (by rw [h1]; congr 1; exact UInt8.toNat_inj.1 h2)
theorem idx_at {s : ByteArray} {o : Nat} (h : Lib.indexByte s.data.toList 46 = o) : (txN s)[o]? = some 46 ∧ ∀ k < o, (txN s)[k]? ≠ some 46 := by
  obtain ⟨h1, h2⟩ := Lib.indexByte_some h
  unfold txN
  refine ⟨by rw [List.getElem?_map, h1]; rfl, fun k hk e => ?_⟩
  rw [List.getElem?_map, Option.map_eq_some_iff] at e
  obtain ⟨x, h3, h4⟩ := e
  exact h2 k hk (by rw [h3]; congr 1; exact UInt8.toNat_inj.1 h4)
theorem cuts_idx_no {s : ByteArray} (h : Lib.indexByte s.data.toList 46 = -1) : cuts (txN s) = [txN s] := by
  have := cuts_last (l := txN s) (f := 0) (fun k _ _ => idx_no h k)
  simpa using this
theorem cuts_idx_at {s : ByteArray} {o : Nat} (h : Lib.indexByte s.data.toList 46 = o) : o < s.size ∧ cuts (txN s) = txN (s.extract 0 o) :: cuts (txN (s.extract (o + 1) s.size)) := by
  obtain ⟨h1, h2⟩ := idx_at h
  have hl : o < (txN s).length := (List.getElem?_eq_some_iff.1 h1).1
  have := cuts_step (l := txN s) (f := 0) (i := o) (Nat.zero_le _) hl (fun k _ hk => h2 k hk) h1
  refine ⟨by rw [txN_len] at hl; exact hl, ?_⟩
  rw [txN_extract, txN_extract]
  simp only [List.drop_zero, Nat.sub_zero] at this
  rw [this]
  congr 2
  rw [List.take_of_length_le (by rw [txN_len]; exact Nat.le_refl _)]
/-- The size of the text in a box. -/
def boxLen (w : World) (b : Nat) : Nat := match w.cell? ⟨b, 0, none⟩ with | some (.string s) => s.size | _ => 0
theorem boxLen_eq {w : World} {b : Nat} {s : ByteArray} (h : w.cell? ⟨b, 0, none⟩ = some (.string s)) : boxLen w b = s.size := by unfold boxLen; rw [h]

set_option maxRecDepth 100000 in
set_option maxHeartbeats 4000000 in
theorem splitSeq1_in (n : Nat) (hn : 1 ≤ n) (l bs bp bv B : Nat) (hs : bs < B) (hp : bp < B) (hv : bv < B) (n1 : bs ≠ bp) (n2 : bs ≠ bv) (T : ByteArray) (hT : T.size ≤ 140737488355328) (J Jx : List ByteArray → World → Prop) (hJ : AbB bs J)
    (hY : ∀ pre x X, J pre X → YieldAt Fence.wide (n - 1) Tryz.prog l #[.string x] X fun e Y => (e = .returned (.bool true) ∧ J (pre ++ [x]) Y ∧ Below B X Y) ∨ (e = .returned (.bool false) ∧ Jx (pre ++ [x]) Y))
    (W : World) (fs : W.frozen? ⟨bs, 0, none⟩ = false) (cs : W.cell? ⟨bs, 0, none⟩ = some (.string T)) (cp : W.cell? ⟨bp, 0, none⟩ = some (.string ⟨#[46]⟩)) (cv : W.cell? ⟨bv, 0, none⟩ = some (.int .i64 0)) (h0 : J [] W) :
    CallsIn Fence.wide n Tryz.prog 323 #[.func (.yield l) #[] #[], .pointer (some ⟨bp, 0, none⟩), .pointer (some ⟨bs, 0, none⟩), .pointer (some ⟨bv, 0, none⟩)] W fun e Y => (∃ v, e = .returned v) ∧
      ((∃ xs : List ByteArray, xs.map txN = cuts (txN T) ∧ J xs Y) ∨ (∃ pre : List ByteArray, pre.map txN <+: cuts (txN T) ∧ Jx pre Y)) := by
  have c0 : ∀ m s w, CallsIn Fence.wide m Tryz.prog 298 #[.string s, .string ⟨#[46]⟩] w fun e w' => e = .returned (.int .i64 (Lib.indexByte s.data.toList 46)) ∧ w = w' := fun m s w =>
    callsIn_wide.2 ((Tryz.strings_Index_one s 46 w).mono fun e w' ⟨he, hw⟩ => ⟨he, hw.symm⟩)
  refine callsIn_of_wp Tryz.func323 rfl trivial ?_ rfl
  simp only [Tryz.ntmps323, List.size_toArray, List.length_cons, List.length_nil, Nat.reduceAdd, Nat.reduceSub, Array.replicate_succ, Array.replicate_zero, List.push_toArray, List.append_toArray, List.nil_append, List.cons_append]
  gi_wp2
  gi_loopw [7] (fun i wr => ∃ (pre : List ByteArray) (cur : ByteArray), J pre wr ∧ wr.cell? ⟨bs, 0, none⟩ = some (.string cur) ∧ wr.cell? ⟨bp, 0, none⟩ = some (.string ⟨#[46]⟩) ∧ wr.cell? ⟨bv, 0, none⟩ = some (.int .i64 0) ∧ wr.frozen? ⟨bs, 0, none⟩ = false ∧
      cuts (txN T) = pre.map txN ++ cuts (txN cur) ∧ cur.size ≤ T.size)
    (fun i wr => boxLen wr bs)
  case atStart => exact ⟨[], T, h0, cs, cp, cv, fs, by simp, Nat.le_refl _⟩
  case round =>
    obtain ⟨pre, cur, hJs, ds, dp, dv, df, hc, hl⟩ := hrel
    have hge := Lib.indexByte_ge cur.data.toList 46
    have c1 := fun m w => c0 m cur w
    by_cases hno : Lib.indexByte cur.data.toList 46 = -1
    · have hc2 := cuts_idx_no hno
      obtain ⟨fn, tmps, assign, body, hy, hR⟩ := hY pre cur wr hJs
      rw [hno] at c1
      rw [hc2] at hc
      clear hno hge c0
      gi_wp2_with (refine ⟨trivial, ?_⟩; gi_at_call 298; refine (c1 _ _).mono ?_; clear c1; rintro e w' ⟨rfl, rfl⟩)
      refine hR.mono ?_
      clear hR
      rintro e Y (⟨rfl, hJ1, hb1⟩ | ⟨rfl, hJ1⟩)
      · gi_wp2
        go_end0
        exact ⟨⟨_, rfl⟩, .inl ⟨_, by rw [hc]; simp, hJ1⟩⟩
      · gi_wp2
        go_end0
        exact ⟨⟨_, rfl⟩, .inr ⟨_, by rw [hc]; simp, hJ1⟩⟩
    · obtain ⟨o, ho⟩ : ∃ o : Nat, Lib.indexByte cur.data.toList 46 = o := ⟨(Lib.indexByte cur.data.toList 46).toNat, by omega⟩
      obtain ⟨ho1, hc2⟩ := cuts_idx_at ho
      rw [ho] at c1
      rw [hc2] at hc
      clear hno hge c0 ho
      obtain ⟨fn, tmps, assign, body, hy, hR⟩ := hY pre (cur.extract 0 o) wr hJs
      have ho2 : (o : Int) + 1 ≤ cur.size := by omega
      gi_wp2_with (refine ⟨trivial, ?_⟩; gi_at_call 298; refine (c1 _ _).mono ?_; clear c1; rintro e w' ⟨rfl, rfl⟩)
      refine hR.mono ?_
      clear hR
      rintro e Y (⟨rfl, hJ1, hb1⟩ | ⟨rfl, hJ1⟩)
      · have es : Y.cell? ⟨bs, 0, none⟩ = some (.string cur) := (Below.cell hb1 (p := ⟨bs, 0, none⟩) hs).trans ds
        have ep : Y.cell? ⟨bp, 0, none⟩ = some (.string ⟨#[46]⟩) := (Below.cell hb1 (p := ⟨bp, 0, none⟩) hp).trans dp
        have ev : Y.cell? ⟨bv, 0, none⟩ = some (.int .i64 0) := (Below.cell hb1 (p := ⟨bv, 0, none⟩) hv).trans dv
        have ef : Y.frozen? ⟨bs, 0, none⟩ = false := (World.frozen?_of_block (hb1.block bs hs)).trans df
        have hm := boxLen_eq ds
        clear ds dp dv df
        gi_wp2
        go_roundw
        case rel =>
          refine ⟨pre ++ [cur.extract 0 o], cur.extract (o + 1) cur.size, hJ _ _ _ _ hJ1 (grownBy_setCell' Y bs _) (fun r e => by cases e; rfl), ?_, ?_, ?_, ?_, ?_, ?_⟩
          · exact World.cell?_setCell_same' _ _ _ (by rw [es]; rfl)
          · exact (World.cell?_setCell_other Y ⟨bs, 0, none⟩ ⟨bp, 0, none⟩ _ (fun h => n1 (by cases h; rfl))).trans ep
          · exact (World.cell?_setCell_other Y ⟨bs, 0, none⟩ ⟨bv, 0, none⟩ _ (fun h => n2 (by cases h; rfl))).trans ev
          · rw [World.frozen?_setCell]; exact ef
          · rw [hc]; simp
          · rw [ByteArray.size_extract]; omega
        case measure =>
          rw [hm, boxLen_eq (World.cell?_setCell_same' _ _ _ (by rw [es]; rfl)), ByteArray.size_extract]
          omega
      · gi_wp2
        refine bodyPost_ret (results_none rfl _ _ _) rfl ?_
        exact ⟨⟨_, rfl⟩, .inr ⟨_, by rw [hc]; simp, hJ1⟩⟩
end Go.Proofs.YtfpmfegmehbfbaaGreatDoor

/- Names, walked: strings.SplitSeq, name, is, Check. -/
namespace Go.Proofs.YtfpmfegmehbfbaaGreatDoor
set_option linter.unusedVariables false
set_option linter.unusedSimpArgs false
open Go.RowKit Go.Shelf
attribute [local go_sem] Oper.semAt_some

theorem splitSeq_any (s p : ByteArray) (v : Int) (w : World) : Calls Tryz.prog 299 #[.string s, .string p, .int .i64 v] w fun e w' =>
    e = .returned (.func (.func 323) #[] #[.pointer (some ⟨w.heap.size + 1, 0, none⟩), .pointer (some ⟨w.heap.size, 0, none⟩), .pointer (some ⟨w.heap.size + 1 + 1, 0, none⟩)]) ∧
    ((w.alloc (.cells #[.string s] 9)).alloc (.cells #[.string p] 9)).alloc (.cells #[.int .i64 v] 3) = w' := by
  go_enter Tryz.func299, Tryz.ntmps299
  go_wp2
  go_ret
  exact ⟨rfl, rfl⟩
theorem SplitSeq_any (s p : ByteArray) (w : World) : Calls Tryz.prog 259 #[.string s, .string p] w fun e w' =>
    e = .returned (.func (.func 323) #[] #[.pointer (some ⟨w.heap.size + 1, 0, none⟩), .pointer (some ⟨w.heap.size, 0, none⟩), .pointer (some ⟨w.heap.size + 1 + 1, 0, none⟩)]) ∧
    ((w.alloc (.cells #[.string s] 9)).alloc (.cells #[.string p] 9)).alloc (.cells #[.int .i64 0] 3) = w' := by
  have c1 := splitSeq_any s p 0
  go_enter Tryz.func259, Tryz.ntmps259
  go_wp2_with (go_at_call 299; refine (c1 _).mono ?_; clear c1; rintro e w' ⟨rfl, rfl⟩)
  go_ret
  exact ⟨rfl, rfl⟩
/-- A name of so many labels and bytes at most. -/
def nameQ (L B : Int) (s : ByteArray) : Prop := (s.size : Int) ≤ B ∧ ((txN s).count 46 : Int) < L ∧ ∀ x ∈ cuts (txN s), labP x
instance (L B : Int) (s : ByteArray) : Decidable (nameQ L B s) := by unfold nameQ; infer_instance
theorem nameQ_is (s : ByteArray) : nameQ 8 64 s ↔ namP s := by
  unfold nameQ namP nameP
  rw [cuts_count, txN_len]
  constructor
  · rintro ⟨h1, h2, h3⟩; exact ⟨by omega, by omega, h3⟩
  · rintro ⟨h1, h2, h3⟩; exact ⟨by omega, by omega, h3⟩

set_option maxRecDepth 100000 in
set_option maxHeartbeats 4000000 in
theorem name_any (s : ByteArray) (hs : s.size ≤ 140737488355328) (L B : Int) (w : World) :
    Calls Tryz.prog 213 #[.string s, .int .i64 L, .int .i64 B] w fun e w' => e = .returned (.bool (decide (nameQ L B s))) ∧ Ext w w' := by
  refine (callsIn_wide (n := 5)).1 ?_
  have c1 : ∀ m w, CallsIn Fence.wide m Tryz.prog 258 #[.string s, .string ⟨#[46]⟩] w fun e w' => e = .returned (.int .i64 ((txN s).count 46 : Nat)) ∧ w = w' := fun m w =>
    callsIn_wide.2 ((Tryz.strings_Count_one s 46 w).mono fun e w' ⟨he, hw⟩ => ⟨by rw [he, count_dot], hw.symm⟩)
  have c2 : ∀ m w, CallsIn Fence.wide m Tryz.prog 259 #[.string s, .string ⟨#[46]⟩] w _ := fun m w => callsIn_wide.2 (SplitSeq_any s ⟨#[46]⟩ w)
  have c3 : ∀ m x w, CallsIn Fence.wide m Tryz.prog 260 #[.string x] w _ := fun m x w => callsIn_wide.2 (label_any x w)
  refine callsIn_of_wp_marks Tryz.func213 rfl trivial ?_ rfl
  simp only [Tryz.ntmps213, List.size_toArray, List.length_cons, List.length_nil, Nat.reduceAdd, Nat.reduceSub, Array.replicate_succ, Array.replicate_zero, List.push_toArray, List.append_toArray, List.nil_append, List.cons_append]
  by_cases h1 : B < (s.size : Int)
  · have hno : ¬ nameQ L B s := fun h => by have := h.1; omega
    gi_wp2
    refine ⟨trivial, ?_⟩
    gi_wp2
    exact ⟨.bool false, by simp [results, Tryz.results213, go_sem], ret_bool (by rw [decide_eq_false hno]), (Ext.refl w).alloc _⟩
  by_cases h2 : L ≤ ((txN s).count 46 : Int)
  · have hno : ¬ nameQ L B s := fun h => by have := h.2.1; omega
    gi_wp2_with (refine ⟨trivial, ?_⟩; gi_at_call 258; refine (c1 _ _).mono ?_; clear c1; rintro e w' ⟨rfl, rfl⟩)
    exact ⟨.bool false, by simp [results, Tryz.results213, go_sem], ret_bool (by rw [decide_eq_false hno]), (Ext.refl w).alloc _⟩
  gi_wp2_with (first | (refine ⟨trivial, ?_⟩; gi_at_call 258; refine (c1 _ _).mono ?_; clear c1; rintro e w' ⟨rfl, rfl⟩) | (refine ⟨trivial, ?_⟩; gi_at_call 259; refine (c2 _ _).mono ?_; clear c2; rintro e w' ⟨rfl, rfl⟩))
  obtain ⟨s0, hs0⟩ : ∃ s0, s0 = w.heap.size := ⟨_, rfl⟩
  have f0 : ((((w.alloc (.cells #[.bool false] 4)).alloc (.cells #[.string s] 9)).alloc (.cells #[.string ⟨#[46]⟩] 9)).alloc (.cells #[.int .i64 0] 3)).cell? ⟨s0, 0, none⟩ = some (.bool false) ∧
    ((((w.alloc (.cells #[.bool false] 4)).alloc (.cells #[.string s] 9)).alloc (.cells #[.string ⟨#[46]⟩] 9)).alloc (.cells #[.int .i64 0] 3)).frozen? ⟨s0, 0, none⟩ = false ∧
    ((((w.alloc (.cells #[.bool false] 4)).alloc (.cells #[.string s] 9)).alloc (.cells #[.string ⟨#[46]⟩] 9)).alloc (.cells #[.int .i64 0] 3)).cell? ⟨s0 + 1, 0, none⟩ = some (.string s) ∧
    ((((w.alloc (.cells #[.bool false] 4)).alloc (.cells #[.string s] 9)).alloc (.cells #[.string ⟨#[46]⟩] 9)).alloc (.cells #[.int .i64 0] 3)).frozen? ⟨s0 + 1, 0, none⟩ = false ∧
    ((((w.alloc (.cells #[.bool false] 4)).alloc (.cells #[.string s] 9)).alloc (.cells #[.string ⟨#[46]⟩] 9)).alloc (.cells #[.int .i64 0] 3)).cell? ⟨s0 + 1 + 1, 0, none⟩ = some (.string ⟨#[46]⟩) ∧
    ((((w.alloc (.cells #[.bool false] 4)).alloc (.cells #[.string s] 9)).alloc (.cells #[.string ⟨#[46]⟩] 9)).alloc (.cells #[.int .i64 0] 3)).cell? ⟨s0 + 1 + 1 + 1, 0, none⟩ = some (.int .i64 0) := by
    subst hs0
    refine ⟨?_, ?_, ?_, ?_, ?_, ?_⟩ <;> simp [go_sem]
  obtain ⟨W0, hW0⟩ : ∃ W0, (((w.alloc (.cells #[.bool false] 4)).alloc (.cells #[.string s] 9)).alloc (.cells #[.string ⟨#[46]⟩] 9)).alloc (.cells #[.int .i64 0] 3) = W0 := ⟨_, rfl⟩
  have hE : Ext w W0 := by rw [← hW0]; exact ((((Ext.refl w).alloc _).alloc _).alloc _).alloc _
  have hsz : W0.heap.size = s0 + 4 := by rw [← hW0, hs0]; simp
  rw [hW0] at f0 ⊢
  rw [← hs0]
  obtain ⟨d0, z0, d1, z1, d2, d3⟩ := f0
  have hE' : Below s0 w W0 := hs0 ▸ hE
  have Hs0 := Lib.hid hs0
  have H12 : Hid ((s.size : Int) ≤ B ∧ ((txN s).count 46 : Int) < L) := Lib.hid ⟨by omega, by omega⟩
  clear hs0 hW0 hE
  refine wpIn_range_box rfl (by omega) (gf := 323) (lb := #[.pointer (some ⟨s0 + 1 + 1, 0, none⟩), .pointer (some ⟨s0 + 1, 0, none⟩), .pointer (some ⟨s0 + 1 + 1 + 1, 0, none⟩)]) rfl trivial (enters_of Tryz.func323 (by kernel_rfl) rfl)
    (en := fun x : ByteArray => #[Value.string x]) (b := s0 + 1) (by omega) (S := fun xs => xs.map txN = cuts (txN s)) (Sp := fun pre => pre.map txN <+: cuts (txN s))
    (fun l J Jx W hW hJ hJx hY h0 => splitSeq1_in 4 (by omega) l (s0 + 1) (s0 + 1 + 1) (s0 + 1 + 1 + 1) W0.heap.size (by omega) (by omega) (by omega) (by omega) (by omega) s hs J Jx hJ hY W ((World.frozen?_of_block (hW.block _ (by simp; omega))).trans z1) ((hW.cell (p := ⟨s0 + 1, 0, none⟩) (by simp; omega)).trans d1) ((hW.cell (p := ⟨s0 + 1 + 1, 0, none⟩) (by simp; omega)).trans d2) ((hW.cell (p := ⟨s0 + 1 + 1 + 1, 0, none⟩) (by simp; omega)).trans d3) h0)
    (fun _ => rfl)
    (fun pre W => W.cell? ⟨s0, 0, none⟩ = some (.bool false) ∧ W.frozen? ⟨s0, 0, none⟩ = false ∧ W0.heap.size ≤ W.heap.size ∧ Below s0 w W ∧ ∀ x ∈ pre, labP (txN x))
    (fun pre W => W.cell? ⟨s0, 0, none⟩ = some (.bool false) ∧ W.frozen? ⟨s0, 0, none⟩ = false ∧ W0.heap.size ≤ W.heap.size ∧ Below s0 w W ∧ ∃ x ∈ pre, ¬ labP (txN x))
    ?hI ?hIx ⟨d0, z0, Nat.le_refl _, hE', by simp⟩
    (fun x => { tmps := #[Value.string s, Value.int IntKind.i64 L, Value.int IntKind.i64 B, undef, undef, undef, Value.pointer (some { block := s0, off := 0 }), Value.string x, Value.string s, Value.int IntKind.i64 ↑s.size, Value.int IntKind.i64 B, Value.bool false, Value.bool false, Value.string s, Value.int IntKind.i64 ↑(List.count 46 (txN s)), Value.int IntKind.i64 L, Value.bool (decide (L ≤ ↑(List.count 46 (txN s)))), Value.bool (decide (L ≤ ↑(List.count 46 (txN s)))), Value.string s, Value.func (Fn.func 323) #[] #[Value.pointer (some { block := s0 + 1 + 1, off := 0 }), Value.pointer (some { block := s0 + 1, off := 0 }), Value.pointer (some { block := s0 + 1 + 1 + 1, off := 0 })], Value.string x, undef, undef, undef], defers := [] }) ?assign ?body ?done ?stop
  case hI =>
    rintro pre X Y row ⟨i1, i2, i3, i4, i5⟩ hg hr
    have hb : Y.heap[s0]? = X.heap[s0]? := hg.block s0 (by omega) (fun e => by rcases hr _ e.symm with h | ⟨h, _⟩ <;> omega)
    exact ⟨(World.cell?_of_block (a := ⟨s0, 0, none⟩) hb).trans i1, (World.frozen?_of_block (a := ⟨s0, 0, none⟩) hb).trans i2, Nat.le_trans i3 hg.size, i4.grown hg (by omega) (fun r e => by rcases hr r e with h | ⟨h, _⟩ <;> omega), i5⟩
  case hIx =>
    rintro pre X Y row ⟨i1, i2, i3, i4, i5⟩ hg hr
    have hb : Y.heap[s0]? = X.heap[s0]? := hg.block s0 (by omega) (fun e => by rcases hr _ e.symm with h | ⟨h, _⟩ <;> omega)
    exact ⟨(World.cell?_of_block (a := ⟨s0, 0, none⟩) hb).trans i1, (World.frozen?_of_block (a := ⟨s0, 0, none⟩) hb).trans i2, Nat.le_trans i3 hg.size, i4.grown hg (by omega) (fun r e => by rcases hr r e with h | ⟨h, _⟩ <;> omega), i5⟩
  case assign =>
    intro l x W K hK
    gi_wp2
    exact hK
  case body =>
    rintro l pre x W ⟨i1, i2, i3, i4, i5⟩
    have c4 := fun m w => c3 m x w
    clear c3
    by_cases hx : labP (txN x)
    · rw [decide_eq_true hx] at c4
      gi_wp2_with (refine ⟨trivial, ?_⟩; gi_at_call 260; refine (CallsIn.inRound l (c4 _ _)).mono ?_; clear c4; rintro e w' ⟨rfl, x1⟩)
      refine ⟨⟨x1.size, fun k o hk _ => (Below.block x1.out k (Array.getElem?_eq_some_iff.1 hk).1).trans hk⟩, Below.mono x1.out i3, x1.cell i1, (x1.frozen i1).trans i2, Nat.le_trans i3 x1.size, i4.trans (Below.mono x1.out (by omega)), fun y hy => ?_⟩
      rcases List.mem_append.1 hy with hy | hy
      · exact i5 y hy
      · rw [List.mem_singleton] at hy; subst hy; exact hx
    · rw [decide_eq_false hx] at c4
      gi_wp2_with (refine ⟨trivial, ?_⟩; gi_at_call 260; refine (CallsIn.inRound l (c4 _ _)).mono ?_; clear c4; rintro e w' ⟨rfl, x1⟩; have y1 := x1.cell i1; have y2 := (x1.frozen i1).trans i2)
      refine ⟨KeepsOthers.trans (B := w') ⟨x1.size, fun k o hk _ => (Below.block x1.out k (Array.getElem?_eq_some_iff.1 hk).1).trans hk⟩ (KeepsOthers.setCell _ _ _), World.cell?_setCell_same' _ _ _ (by rw [y1]; rfl), by rw [World.frozen?_setCell]; exact y2, Nat.le_trans i3 (Nat.le_trans x1.size (KeepsOthers.setCell _ _ _).size), (i4.trans (Below.mono x1.out (by omega))).setCell (p := ⟨s0, 0, none⟩) (Nat.le_refl _) _, x, by simp, hx⟩
  case done =>
    rintro D ys W hD hS ⟨i1, i2, i3, i4, i5⟩ hK
    have hyes : nameQ L B s := ⟨H12.out.1, H12.out.2, fun x hx => by rw [← hS] at hx; obtain ⟨y, hy, rfl⟩ := List.mem_map.1 hx; exact i5 y hy⟩
    have j1 : (W.setCell ⟨s0, 0, none⟩ (.bool true)).cell? ⟨s0, 0, none⟩ = some (.bool true) := World.cell?_setCell_same' _ _ _ (by rw [i1]; rfl)
    have hK' : (W.setCell ⟨s0, 0, none⟩ (.bool true)).heap[D]? = some (.deferred (some [])) := (KeepsOthers.setCell _ _ _).same D _ hK rfl
    gi_wp2
    refine ⟨by simp, .inl ⟨_, _, rfl, run_takeDeferred hK', ?_⟩⟩
    have j2 : ((W.setCell ⟨s0, 0, none⟩ (.bool true)).putObj D (.deferred none)).cell? ⟨s0, 0, none⟩ = some (.bool true) := (World.cell?_of_block (World.putObj_heap_other (by simp; omega))).trans j1
    refine ⟨.bool true, by simp [results, Tryz.results213, go_sem, j2], ret_bool (by rw [decide_eq_true hyes]), ?_⟩
    exact Ext.of (Hs0.out ▸ (i4.setCell (p := ⟨s0, 0, none⟩) (Nat.le_refl _) _).trans (belowK_b (n₀ := s0) (w := w) (by rw [Hs0.out]; exact Nat.le_refl _) _ D _ _ (by rw [hsz, Hs0.out] at hD; omega) hK' rfl rfl))
  case stop =>
    rintro D pre W hD hS ⟨i1, i2, i3, i4, i5⟩ hK
    have hno : ¬ nameQ L B s := fun h => by
      obtain ⟨x, hx, hn⟩ := i5
      exact hn (h.2.2 _ (hS.subset (List.mem_map.2 ⟨x, hx, rfl⟩)))
    gi_wp2
    refine ⟨by simp, .inl ⟨_, _, rfl, run_takeDeferred hK, ?_⟩⟩
    have j2 : (W.putObj D (.deferred none)).cell? ⟨s0, 0, none⟩ = some (.bool false) := (World.cell?_of_block (World.putObj_heap_other (by simp; omega))).trans i1
    refine ⟨.bool false, by simp [results, Tryz.results213, go_sem, j2], ret_bool (by rw [decide_eq_false hno]), ?_⟩
    exact Ext.of (Hs0.out ▸ i4.trans (belowK_b (n₀ := s0) (w := w) (by rw [Hs0.out]; exact Nat.le_refl _) _ D _ _ (by rw [hsz, Hs0.out] at hD; omega) hK rfl rfl))
theorem is_any (s : ByteArray) (hs : s.size ≤ 140737488355328) (w : World) :
    Calls Tryz.prog 120 #[.string s] w fun e w' => e = .returned (.bool (decide (namP s))) ∧ Ext w w' := by
  have c1 := name_any s hs 8 64
  rw [show decide (nameQ 8 64 s) = decide (namP s) by rw [decide_eq_decide]; exact nameQ_is s] at c1
  go_enter Tryz.func120, Tryz.ntmps120
  go_wp2_with (go_at_call 213; refine (c1 _).mono ?_; clear c1; rintro e w1 ⟨rfl, x1⟩)
  go_ret
  exact ⟨rfl, x1⟩
/-- What is wrong with a text as a name. -/
def namE (s : ByteArray) : Nat := if namP s then 0 else 110
theorem nCheck_any (s : ByteArray) (hs : s.size ≤ 140737488355328) (w : World) :
    Calls Tryz.prog 240 #[.string s] w fun e w' => e = .returned (.int .i64 (namE s : Nat)) ∧ Ext w w' := by
  have c1 := is_any s hs
  have c2 := told_any (decide (namP s))
  have e : ((if (decide (namP s)) = true then 0 else 110 : Int)) = (namE s : Nat) := by unfold namE; split <;> rename_i h <;> simp at h <;> simp [h]
  rw [e] at c2
  generalize decide (namP s) = b at c1 c2
  go_enter Tryz.func240, Tryz.ntmps240
  go_wp2_with (first | (go_at_call 120; refine (c1 _).mono ?_; clear c1; rintro e w1 ⟨rfl, x1⟩) | (go_at_call 252; refine (c2 _).mono ?_; clear c2; rintro e w1 ⟨rfl, rfl⟩))
  go_ret
  exact ⟨rfl, x1⟩
end Go.Proofs.YtfpmfegmehbfbaaGreatDoor

/- Names, walked: the document's cut. -/
namespace Go.Proofs.YtfpmfegmehbfbaaGreatDoor
set_option linter.unusedVariables false
set_option linter.unusedSimpArgs false
open Go.RowKit Go.Shelf

/-- Texts as cells. -/
def tv (l : List ByteArray) : List Value := l.map Value.string
theorem tv_length (l : List ByteArray) : (tv l).length = l.length := by simp [tv]
theorem tv_at {l : List ByteArray} {k : Nat} {x : ByteArray} (h : l[k]? = some x) : (tv l)[k]? = some (.string x) := by simp [tv, h]
theorem reads_text {w : World} {B n : Nat} {A : Option Addr} {l : List ByteArray} (h : Reads w B 1 A n (tv l)) {k : Nat} {x : ByteArray} (hk : l[k]? = some x) : ∃ ad, A = some ad ∧ w.cell? (ad.add k) = some (.string x) := by
  have hl := (List.getElem?_eq_some_iff.1 hk).1
  have h1 := h.1
  rw [tv_length] at h1
  obtain ⟨ad, e, _, hc⟩ := h.2 (by omega)
  exact ⟨ad, e, hc _ _ (tv_at hk)⟩
theorem Tryz.infoStr : (Tryz.prog.info? 9).map (fun i => (i.zero, i.size, i.bytes)) = some (some (.string ⟨#[]⟩), 1, 16) := by kernel_rfl
end Go.Proofs.YtfpmfegmehbfbaaGreatDoor

/- The door in memory: nonces, accounts, authorizations, orders as cells. -/
namespace Go.Proofs.YtfpmfegmehbfbaaGreatDoor
set_option linter.unusedVariables false
set_option linter.unusedSimpArgs false
open Go.RowKit Go.Shelf

/-! ### lists of structs as cells -/
section
variable {α : Type} (enc : α → List Value) {k : Nat}
theorem fm_length (hk : ∀ x, (enc x).length = k) : ∀ l : List α, (l.flatMap enc).length = l.length * k
  | [] => by simp
  | a :: l => by rw [List.flatMap_cons, List.length_append, hk, fm_length hk l, List.length_cons, Nat.add_mul, Nat.one_mul, Nat.add_comm]
theorem fm_at (hk : ∀ x, (enc x).length = k) : ∀ {l : List α} {j : Nat} {x : α}, l[j]? = some x → ∀ {i : Nat}, i < k → (l.flatMap enc)[j * k + i]? = (enc x)[i]?
  | [], j, x, h, i, hi => by simp at h
  | a :: l, 0, x, h, i, hi => by
    simp at h; subst h
    rw [List.flatMap_cons, Nat.zero_mul, Nat.zero_add, List.getElem?_append_left (by rw [hk]; exact hi)]
  | a :: l, j + 1, x, h, i, hi => by
    simp at h
    rw [List.flatMap_cons, List.getElem?_append_right (by rw [hk, Nat.add_mul]; omega), hk, show (j + 1) * k + i - k = j * k + i by rw [Nat.add_mul]; omega]
    exact fm_at hk h hi
variable {w : World} {B n : Nat} {A : Option Addr}
theorem reads_fm (hk : ∀ x, (enc x).length = k) {l : List α} (h : Reads w B k A n (l.flatMap enc)) {j : Nat} {x : α} (hj : l[j]? = some x) (h0 : 0 < k) :
    ∃ ad, A = some ad ∧ ad.block < B ∧ ∀ i u, (enc x)[i]? = some u → w.cell? ((ad.add (j * k)).add i) = some u := by
  have hl := (List.getElem?_eq_some_iff.1 hj).1
  have h1 := h.1
  rw [fm_length enc hk] at h1
  have : l.length = n := Nat.eq_of_mul_eq_mul_right h0 h1
  obtain ⟨ad, e, hb, hc⟩ := h.2 (by omega)
  refine ⟨ad, e, hb, fun i u hu => ?_⟩
  have hi : i < k := by rw [← hk x]; exact (List.getElem?_eq_some_iff.1 hu).1
  rw [add_of_add]
  exact hc _ u (by rw [fm_at enc hk hj hi]; exact hu)
end
theorem add_succ_eq (a : Addr) (i : Nat) : a.add (i + 1) = ⟨a.block, a.off + (i + 1), none⟩ := by unfold Addr.add; simp

theorem fm_one {α : Type} (enc : α → List Value) (h : ∀ x, ∀ u ∈ enc x, u.oneCell' = true) (l : List α) : ∀ u ∈ l.flatMap enc, u.oneCell' = true := by
  intro u hu; obtain ⟨a, _, ha⟩ := List.mem_flatMap.1 hu; exact h a u ha
section
variable {w : World} {B n : Nat} {A : Option Addr}
end

section
variable {w w' : World} {B B' : Nat}
end
end Go.Proofs.YtfpmfegmehbfbaaGreatDoor

/- Items in memory. -/
namespace Go.Proofs.YtfpmfegmehbfbaaGreatDoor
set_option linter.unusedVariables false
set_option linter.unusedSimpArgs false
set_option linter.unusedSimpArgs false
open Go.RowKit Go.Shelf

/-- An item's cells: its tag, its bytes, its items. -/
structure ItV where
  tag : Nat
  A : Option Addr
  n : Nat
  c : Nat
  A2 : Option Addr
  n2 : Nat
  c2 : Nat
def itC (v : ItV) : List Value := [.int .i64 (v.tag : Int), .slice v.A v.n v.c, .slice v.A2 v.n2 v.c2]
def itV (v : ItV) : Value := .agg #[.int .i64 (v.tag : Int), .slice v.A v.n v.c, .slice v.A2 v.n2 v.c2]
def itsV (l : List ItV) : List Value := l.flatMap itC
theorem itsV_len (l : List ItV) : (itsV l).length = l.length * 3 := fm_length itC (fun _ => rfl) l
theorem itsV_append (l m : List ItV) : itsV (l ++ m) = itsV l ++ itsV m := List.flatMap_append
theorem itsV_one (l : List ItV) : ∀ u ∈ itsV l, u.oneCell' = true := fm_one itC (fun x u hu => by simp [itC] at hu; rcases hu with rfl | rfl | rfl <;> rfl) l
mutual
/-- A tree as an item in memory, whose blocks lie below B. -/
def ItW (w : World) (B : Nat) : It → ItV → Prop
  | .p tag b, v => v.tag = tag ∧ v.n = b.length ∧ b.length ≤ v.c ∧ Reads w B 1 v.A b.length (bv b) ∧ v.A2 = none ∧ v.n2 = 0 ∧ v.c2 = 0
  | .s l, v => v.tag = 48 ∧ v.A = none ∧ v.n = 0 ∧ v.c = 0 ∧ v.n2 = l.length ∧ l.length ≤ v.c2 ∧ ∃ vs, Reads w B 3 v.A2 l.length (itsV vs) ∧ ItsW w B l vs
def ItsW (w : World) (B : Nat) : List It → List ItV → Prop
  | [], vs => vs = []
  | t :: l, vs => ∃ v vs', vs = v :: vs' ∧ ItW w B t v ∧ ItsW w B l vs'
end
theorem ItW_p {w : World} {B : Nat} {tag : Nat} {b : List Nat} {v : ItV} : ItW w B (.p tag b) v ↔ v.tag = tag ∧ v.n = b.length ∧ b.length ≤ v.c ∧ Reads w B 1 v.A b.length (bv b) ∧ v.A2 = none ∧ v.n2 = 0 ∧ v.c2 = 0 := by rw [ItW]
theorem ItW_s {w : World} {B : Nat} {l : List It} {v : ItV} : ItW w B (.s l) v ↔ v.tag = 48 ∧ v.A = none ∧ v.n = 0 ∧ v.c = 0 ∧ v.n2 = l.length ∧ l.length ≤ v.c2 ∧ ∃ vs, Reads w B 3 v.A2 l.length (itsV vs) ∧ ItsW w B l vs := by rw [ItW]
theorem ItsW_nil {w : World} {B : Nat} {vs : List ItV} : ItsW w B [] vs ↔ vs = [] := by rw [ItsW]
theorem ItsW_cons {w : World} {B : Nat} {t : It} {l : List It} {vs : List ItV} : ItsW w B (t :: l) vs ↔ ∃ v vs', vs = v :: vs' ∧ ItW w B t v ∧ ItsW w B l vs' := by rw [ItsW]
mutual
theorem ItW.keep {w w' : World} {B B' : Nat} (hk : ∀ p : Addr, p.block < B → w'.cell? p = w.cell? p) (hB : B ≤ B') : ∀ {t : It} {v : ItV}, ItW w B t v → ItW w' B' t v
  | .p _ _, _, h => by
    rw [ItW_p] at h ⊢
    exact ⟨h.1, h.2.1, h.2.2.1, (h.2.2.2.1.keep hk).more hB, h.2.2.2.2⟩
  | .s _, _, h => by
    rw [ItW_s] at h ⊢
    obtain ⟨h1, h2, h3, h4, h5, h6, vs, h7, h8⟩ := h
    exact ⟨h1, h2, h3, h4, h5, h6, vs, (h7.keep hk).more hB, ItsW.keep hk hB h8⟩
theorem ItsW.keep {w w' : World} {B B' : Nat} (hk : ∀ p : Addr, p.block < B → w'.cell? p = w.cell? p) (hB : B ≤ B') : ∀ {l : List It} {vs : List ItV}, ItsW w B l vs → ItsW w' B' l vs
  | [], _, h => by
    rw [ItsW_nil] at h ⊢
    exact h
  | _ :: _, _, h => by
    rw [ItsW_cons] at h ⊢
    obtain ⟨v, vs', h1, h2, h3⟩ := h
    exact ⟨v, vs', h1, ItW.keep hk hB h2, ItsW.keep hk hB h3⟩
end
section
variable {w w' : World} {B B' : Nat} {t : It} {v : ItV} {l m : List It} {vs us : List ItV}
theorem ItW.below (h : ItW w B t v) (hb : Below B w w') : ItW w' B t v := h.keep (fun _ hp => hb.cell hp) (Nat.le_refl _)
theorem ItW.more (h : ItW w B t v) (hB : B ≤ B') : ItW w B' t v := h.keep (fun _ _ => rfl) hB
theorem ItW.ext (h : ItW w w.heap.size t v) (x : Ext w w') : ItW w' w'.heap.size t v := h.keep (fun _ hp => x.out.cell hp) x.size
theorem ItsW.len : ∀ {l : List It} {vs : List ItV}, ItsW w B l vs → vs.length = l.length
  | [], _, h => by rw [ItsW_nil] at h; rw [h]; rfl
  | _ :: _, _, h => by
    rw [ItsW_cons] at h
    obtain ⟨v, vs', rfl, -, h3⟩ := h
    simp [h3.len]
theorem ItsW.at_ : ∀ {l : List It} {vs : List ItV}, ItsW w B l vs → ∀ {i : Nat} {t : It}, l[i]? = some t → ∃ v, vs[i]? = some v ∧ ItW w B t v
  | [], _, _, _, _, hi => by simp at hi
  | u :: l, _, h, i, t, hi => by
    rw [ItsW_cons] at h
    obtain ⟨v, vs', rfl, h2, h3⟩ := h
    cases i with
    | zero => simp at hi; subst hi; exact ⟨v, rfl, h2⟩
    | succ i => simp at hi; obtain ⟨v', e, k⟩ := h3.at_ hi; exact ⟨v', by simpa using e, k⟩
theorem reads_it {n : Nat} {A : Option Addr} (h : Reads w B 3 A n (itsV vs)) {j : Nat} {x : ItV} (hj : vs[j]? = some x) :
    ∃ ad, A = some ad ∧ ad.block < B ∧ w.cell? (ad.add (j * 3)) = some (.int .i64 (x.tag : Int)) ∧ w.cell? ⟨(ad.add (j * 3)).block, (ad.add (j * 3)).off + 1, none⟩ = some (.slice x.A x.n x.c) ∧ w.cell? ⟨(ad.add (j * 3)).block, (ad.add (j * 3)).off + 2, none⟩ = some (.slice x.A2 x.n2 x.c2) := by
  obtain ⟨ad, e, hb, hc⟩ := reads_fm itC (fun _ => rfl) h hj (by decide)
  refine ⟨ad, e, hb, ?_, ?_, ?_⟩
  · have := hc 0 _ rfl; rwa [add_of_add, Nat.add_zero] at this
  · rw [← add_succ_eq _ 0]; exact hc 1 _ rfl
  · rw [← add_succ_eq _ 1]; exact hc 2 _ rfl
end
theorem reads_form {w : World} {B n : Nat} {A : Option Addr} {xs : List Value} (h : Reads w B 1 A n xs) (hn : 0 < n) : ∃ g k, A = some ⟨g, k, none⟩ ∧ g < B ∧ ∀ j u, xs[j]? = some u → w.cell? ⟨g, k + j, none⟩ = some u := by
  obtain ⟨⟨g, k, s⟩, rfl, hb, hc⟩ := h.2 hn
  have hl : 0 < xs.length := by have := h.1; omega
  have h0 := hc 0 _ (List.getElem?_eq_getElem hl)
  have e0 : (⟨g, k, s⟩ : Addr).add 0 = ⟨g, k, s⟩ := by simp [Addr.add]
  rw [e0] at h0
  have hs : s = none := World.cell?_spot h0
  subst hs
  refine ⟨g, k, rfl, hb, fun j u hj => ?_⟩
  have := hc j u hj
  unfold Addr.add at this
  split at this
  · next hj0 => rw [hj0, Nat.add_zero]; exact this
  · exact this
theorem bv_at {l : List Nat} {j x : Nat} (h : l[j]? = some x) : (bv l)[j]? = some (.int .u8 (x : Int)) := by simp [bv, h]
end Go.Proofs.YtfpmfegmehbfbaaGreatDoor
