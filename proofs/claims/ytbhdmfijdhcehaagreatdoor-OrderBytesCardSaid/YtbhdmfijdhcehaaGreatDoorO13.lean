/- Parts of the proofs, put together: Open, Open2, Or, Or2, Or3, Or4, OrM, Or5, Or6, Or7, Or8, Or10, Or11, Or12, Or13, Or14, Or15, Or16, Or17, Or18, Or19, Or20, EqS, Open5. -/
import Derived.ProofKit
import Derived.OpenShut
import Derived.ShutString
import Derived.ChangeOld
import Derived.SizedLaws
import Derived.Lib.SmallJoins
import Derived.Deep.Matrix
import Derived.ChangeSame
import Derived.Laws.RangeAny
import Derived.Test.YtbhdmfijdhcehaaGreatDoorShelf
import Derived.Lib.IndexLaws
import Derived.RangeFuncNested
import Derived.RangeFuncBound
import Derived.RangeFuncCalls
import Derived.RangeFuncLeaves
import Derived.Shelf.Abstract
import Derived.Shelf.RegionOpen
import Derived.OwnWalkIn
import Derived.TacticsInMore
import Derived.LoopNIn
import Derived.LoopIn
import Derived.Lib.SliceRun
import Derived.Deep.DeepCutAuto
import Derived.Deep.Strs
import Derived.Test.YtbhdmfijdhcehaaGreatDoorO2
import Derived.Test.YtbhdmfijdhcehaaGreatDoorO3
import Derived.Test.YtbhdmfijdhcehaaGreatDoorO10
import Derived.Test.YtbhdmfijdhcehaaGreatDoorO12
import Derived.Test.YtbhdmfijdhcehaaGreatDoorO14
import Derived.Test.YtbhdmfijdhcehaaGreatDoorO16
import Derived.Test.YtbhdmfijdhcehaaGreatDoorO17
/- What comes in, opened: bytes, lists of bytes, arrays and structs of numbers; and how great it is at most. -/
namespace Go.Proofs.YtbhdmfijdhcehaaGreatDoor
set_option linter.unusedVariables false
set_option linter.unusedSimpArgs false
open Go.ChangeShapes Go.WideShapes Go.ChangeAt Go.RowKit

section
variable {H : Type} {enc : TypeId × Value → H} {P : Program} {W : World}

theorem cell_lt {w : World} {p : Addr} {v : Value} (hc : w.cell? p = some v) : p.block < w.heap.size := by
  refine Nat.lt_of_not_le fun hle => ?_
  have : w.heap[p.block]? = none := Array.getElem?_eq_none hle
  unfold World.cell? at hc
  simp [this] at hc

theorem byte_of_wf {n : Int} (h : (Lit.int .u8 n).wf = true) : n = ((n.toNat : Nat) : Int) ∧ n.toNat < 256 := by
  simp [Lit.wf, IntKind.min, IntKind.max, IntKind.signed, IntKind.bits] at h
  omega
theorem word_of_wf {n : Int} (h : (Lit.int .u64 n).wf = true) : n = ((n.toNat : Nat) : Int) ∧ n.toNat < 18446744073709551616 := by
  simp [Lit.wf, IntKind.min, IntKind.max, IntKind.signed, IntKind.bits] at h
  omega

theorem mem_weightsAll {e : TypeId} {d : DataW H} : ∀ {l : List (DataW H)}, d ∈ l → ∀ n ∈ d.weights P e, n ∈ DataW.weightsAll P e l
  | x :: l, hd, n, hn => by
    rw [DataW.weightsAll, List.mem_append]
    rcases List.mem_cons.1 hd with rfl | hd
    · exact .inl hn
    · exact .inr (mem_weightsAll hd n hn)

end
end Go.Proofs.YtbhdmfijdhcehaaGreatDoor

/- Opening an argument that is a struct of two words. -/
namespace Go.Proofs.YtbhdmfijdhcehaaGreatDoor
set_option linter.unusedVariables false
set_option linter.unusedSimpArgs false
open Go.RowKit Go.WideShapes Go.ChangeShapes

section
variable {P : Program} {H : Type} {enc : TypeId × Value → H} {W : World}
end
end Go.Proofs.YtbhdmfijdhcehaaGreatDoor

/- Names, walked: edge, inner, label, told. -/
namespace Go.Proofs.YtbhdmfijdhcehaaGreatDoor
set_option linter.unusedVariables false
set_option linter.unusedSimpArgs false
open Go.RowKit Go.Shelf

def edgeB (c : Int) : Bool := decide (97 ≤ c ∧ c ≤ 122 ∨ 48 ≤ c ∧ c ≤ 57)
theorem edge_any (c : Int) (w : World) : Calls Tryz.prog 194 #[.int .i32 c] w fun e w' => e = .returned (.bool (edgeB c)) ∧ w' = w := by
  go_enter Tryz.func194, Tryz.ntmps194
  by_cases h1 : 97 ≤ c <;> by_cases h2 : c ≤ 122 <;> by_cases h3 : 48 ≤ c <;> by_cases h4 : c ≤ 57
  all_goals
    first
    | (exfalso; omega)
    | (go_wp2
       go_ret
       exact ⟨by simp [edgeB, *], rfl⟩)
theorem inner_any (c : Int) (w : World) : Calls Tryz.prog 195 #[.int .i32 c] w fun e w' => e = .returned (.bool (decide (c = 45) || edgeB c)) ∧ w' = w := by
  have c1 := edge_any c
  go_enter Tryz.func195, Tryz.ntmps195
  by_cases h1 : c = 45
  · go_wp2
    go_ret
    exact ⟨by simp [h1], rfl⟩
  · go_wp2_with (go_at_call 194; refine (c1 _).mono ?_; clear c1; rintro e w1 ⟨rfl, rfl⟩)
    go_ret
    exact ⟨by simp [h1], rfl⟩
theorem told_any (b : Bool) (w : World) : Calls Tryz.prog 139 #[.bool b] w fun e w' => e = .returned (.int .i64 (if b = true then 0 else 110)) ∧ w' = w := by
  go_enter Tryz.func139, Tryz.ntmps139
  cases b
  · go_wp2
    go_ret
    exact ⟨rfl, rfl⟩
  · go_wp2
    go_ret
    exact ⟨rfl, rfl⟩
end Go.Proofs.YtbhdmfijdhcehaaGreatDoor

/- Names, walked: label. -/
namespace Go.Proofs.YtbhdmfijdhcehaaGreatDoor
set_option linter.unusedVariables false
set_option linter.unusedSimpArgs false
open Go.RowKit Go.Shelf

theorem txN_get (s : ByteArray) (i : Nat) (h : i < s.size) (h' : i < (txN s).length) : (txN s)[i] = (s[i]'h).toNat := by
  simp only [txN, List.getElem_map]
  rfl
theorem txN_len (s : ByteArray) : (txN s).length = s.size := by unfold txN; rw [List.length_map, Array.length_toList]; rfl
/-- So many bytes are right. -/
def labTo (s : ByteArray) (pos : Nat) : Prop := ∀ i (h : i < s.size), i < pos → okAt s.size i (s[i]'h).toNat
theorem labTo_succ {s : ByteArray} {pos : Nat} (h : pos < s.size) (k : labTo s pos) (o : okAt s.size pos (s[pos]'h).toNat) : labTo s (pos + 1) := fun i hi hp => by
  by_cases e : i = pos
  · subst e; exact o
  · exact k i hi (by omega)
theorem lab_yes {s : ByteArray} (h1 : 0 < s.size) (h2 : s.size ≤ 16) (k : labTo s s.size) : labP (txN s) := by
  refine ⟨by rw [txN_len]; exact h1, by rw [txN_len]; exact h2, fun i hi => ?_⟩
  rw [txN_len] at hi
  rw [txN_get s i hi, txN_len]
  exact k i hi hi
theorem lab_no {s : ByteArray} {pos : Nat} (h : pos < s.size) (o : ¬ okAt s.size pos (s[pos]'h).toNat) : ¬ labP (txN s) := fun hl => by
  have := hl.2.2 pos (by rw [txN_len]; exact h)
  rw [txN_get s pos h, txN_len] at this
  exact o this
theorem edge_word (c : Nat) : edgeB (c : Int) = decide (wordP c) := by unfold edgeB wordP; congr 1; apply propext; omega
theorem ok_ascii {n i c : Nat} (h : okAt n i c) : c < 128 := by
  unfold okAt wordP at h
  repeat' split at h
  all_goals omega

theorem edge_iff {c : Nat} : edgeB (c : Int) = true ↔ wordP c := by rw [edge_word]; simp
theorem edge_no {c : Nat} (h : edgeB (c : Int) = false) : ¬ wordP c := by rw [edge_word] at h; simpa using h
theorem edge_high {c : Nat} (h : 128 ≤ c) : edgeB (c : Int) = false := by unfold edgeB; rw [decide_eq_false]; omega
set_option maxRecDepth 100000 in
set_option maxHeartbeats 4000000 in
theorem label_any (s : ByteArray) (w : World) : Calls Tryz.prog 177 #[.string s] w fun e w' => e = .returned (.bool (decide (labP (txN s)))) ∧ Ext w w' := by
  have c1 := edge_any
  have c2 := inner_any
  go_enter Tryz.func177, Tryz.ntmps177
  by_cases hn : s = ByteArray.empty
  · subst hn
    go_wp2
    go_ret
    exact ⟨rfl, Ext.refl w⟩
  have hpos : 0 < s.size := Nat.pos_of_ne_zero fun h => hn (ByteArray.size_eq_zero_iff.1 h)
  have hE : s.toList.isEmpty = false := by
    rw [ByteArray.toList_eq]
    cases hl : s.data.toList with
    | nil => exact absurd (by rw [← Array.length_toList, hl]; rfl : s.data.size = 0) (Nat.pos_iff_ne_zero.1 hpos)
    | cons _ _ => rfl
  have hE2 : ¬ s.toList = [] := fun h => by rw [h] at hE; cases hE
  clear hn
  by_cases hl : ¬ s.size ≤ 16
  · have h16 : (16 : Int) < s.size := by omega
    go_wp2
    go_ret
    exact ⟨ret_bool (by rw [decide_eq_false]; intro h; have := h.2.1; rw [txN_len] at this; omega), Ext.refl w⟩
  replace hl := Decidable.not_not.1 hl
  have h16 : ¬ (16 : Int) < s.size := by omega
  go_wp2
  go_loopg [3, 4] s.size (fun g s3 s4 wr => ∃ pos : Nat, pos + g = s.size ∧ wr = w.iter s pos ∧ labTo s pos)
  case atStart => exact ⟨0, by omega, rfl, fun i h h' => by omega⟩
  case round =>
    obtain ⟨pos, hp, rfl, hk⟩ := hrel
    by_cases h : pos < s.size
    · have hlab := fun o => labTo_succ h hk o
      have hno := fun o => lab_no h o
      by_cases ha : (s[pos]'h).toNat < 128
      · have hnx := fun ty => run_next_ascii (P := Tryz.prog) w s pos ty h ha
        generalize (s[pos]'h).toNat = c at *
        have HLAB := Lib.hid hlab
        have HNO := Lib.hid hno
        clear hlab hno ha hk
        by_cases hL : (pos : Int) = (s.size : Int) - 1
        · have HOK : Hid (okAt s.size pos c ↔ wordP c) := Lib.hid (by unfold okAt; rw [if_pos (by omega)])
          by_cases he : edgeB (c : Int) = true
          · go_wp2_with (first | (go_at_call 194; refine (c1 _ _).mono ?_; rintro e w1 ⟨rfl, rfl⟩) | (go_at_call 195; refine (c2 _ _).mono ?_; rintro e w1 ⟨rfl, rfl⟩))
            go_roundg (gk - 1)
            case measure => omega
            case rel => exact ⟨pos + 1, by omega, rfl, HLAB.out (HOK.out.2 (edge_iff.1 he))⟩
          · replace he : edgeB (c : Int) = false := by simpa using he
            go_wp2_with (first | (go_at_call 194; refine (c1 _ _).mono ?_; rintro e w1 ⟨rfl, rfl⟩) | (go_at_call 195; refine (c2 _ _).mono ?_; rintro e w1 ⟨rfl, rfl⟩))
            go_ret
            exact ⟨ret_bool (by rw [decide_eq_false]; exact HNO.out (fun o => edge_no he (HOK.out.1 o))), (Ext.refl w).alloc _⟩
        · by_cases h0 : (pos : Int) = 0
          · have HOK : Hid (okAt s.size pos c ↔ wordP c ∨ c = 95) := Lib.hid (by unfold okAt; rw [if_neg (by omega), if_pos (by omega)])
            by_cases he : edgeB (c : Int) = true
            · go_wp2_with (first | (go_at_call 194; refine (c1 _ _).mono ?_; rintro e w1 ⟨rfl, rfl⟩) | (go_at_call 195; refine (c2 _ _).mono ?_; rintro e w1 ⟨rfl, rfl⟩))
              go_roundg (gk - 1)
              case measure => omega
              case rel => exact ⟨pos + 1, by omega, rfl, HLAB.out (HOK.out.2 (.inl (edge_iff.1 he)))⟩
            · replace he : edgeB (c : Int) = false := by simpa using he
              by_cases h95 : (c : Int) = 95
              · go_wp2_with (first | (go_at_call 194; refine (c1 _ _).mono ?_; rintro e w1 ⟨rfl, rfl⟩) | (go_at_call 195; refine (c2 _ _).mono ?_; rintro e w1 ⟨rfl, rfl⟩))
                go_roundg (gk - 1)
                case measure => omega
                case rel => exact ⟨pos + 1, by omega, rfl, HLAB.out (HOK.out.2 (.inr (by omega)))⟩
              · go_wp2_with (first | (go_at_call 194; refine (c1 _ _).mono ?_; rintro e w1 ⟨rfl, rfl⟩) | (go_at_call 195; refine (c2 _ _).mono ?_; rintro e w1 ⟨rfl, rfl⟩))
                go_ret
                exact ⟨ret_bool (by rw [decide_eq_false]; exact HNO.out (fun o => (HOK.out.1 o).elim (edge_no he) (fun h => h95 (by omega)))), (Ext.refl w).alloc _⟩
          · have HOK : Hid (okAt s.size pos c ↔ wordP c ∨ c = 45) := Lib.hid (by unfold okAt; rw [if_neg (by omega), if_neg (by omega)])
            by_cases he : edgeB (c : Int) = true
            · go_wp2_with (first | (go_at_call 194; refine (c1 _ _).mono ?_; rintro e w1 ⟨rfl, rfl⟩) | (go_at_call 195; refine (c2 _ _).mono ?_; rintro e w1 ⟨rfl, rfl⟩))
              go_roundg (gk - 1)
              case measure => omega
              case rel => exact ⟨pos + 1, by omega, rfl, HLAB.out (HOK.out.2 (.inl (edge_iff.1 he)))⟩
            · replace he : edgeB (c : Int) = false := by simpa using he
              by_cases h45 : (c : Int) = 45
              · go_wp2_with (first | (go_at_call 194; refine (c1 _ _).mono ?_; rintro e w1 ⟨rfl, rfl⟩) | (go_at_call 195; refine (c2 _ _).mono ?_; rintro e w1 ⟨rfl, rfl⟩))
                go_roundg (gk - 1)
                case measure => omega
                case rel => exact ⟨pos + 1, by omega, rfl, HLAB.out (HOK.out.2 (.inr (by omega)))⟩
              · go_wp2_with (first | (go_at_call 194; refine (c1 _ _).mono ?_; rintro e w1 ⟨rfl, rfl⟩) | (go_at_call 195; refine (c2 _ _).mono ?_; rintro e w1 ⟨rfl, rfl⟩))
                go_ret
                exact ⟨ret_bool (by rw [decide_eq_false]; exact HNO.out (fun o => (HOK.out.1 o).elim (edge_no he) (fun h => h45 (by omega)))), (Ext.refl w).alloc _⟩
      · have hnx := fun ty => run_next_any (P := Tryz.prog) w s pos ty h
        have hd := (decode_high s pos h (by omega)).1
        have hbad : ¬ labP (txN s) := hno (fun o => ha (ok_ascii o))
        generalize (Utf8.decode s pos).1 = c at *
        generalize pos + (Utf8.decode s pos).2 = pos' at *
        have he := edge_high hd
        have h45 : ¬ (c : Int) = 45 := by omega
        have h95 : ¬ (c : Int) = 95 := by omega
        have HB := Lib.hid hbad
        clear hlab hno ha hk hbad hd
        by_cases hL : (pos : Int) = (s.size : Int) - 1
        · go_wp2_with (first | (go_at_call 194; refine (c1 _ _).mono ?_; rintro e w1 ⟨rfl, rfl⟩) | (go_at_call 195; refine (c2 _ _).mono ?_; rintro e w1 ⟨rfl, rfl⟩))
          go_ret
          exact ⟨ret_bool (by rw [decide_eq_false]; exact HB.out), (Ext.refl w).alloc _⟩
        · by_cases h0 : (pos : Int) = 0
          · go_wp2_with (first | (go_at_call 194; refine (c1 _ _).mono ?_; rintro e w1 ⟨rfl, rfl⟩) | (go_at_call 195; refine (c2 _ _).mono ?_; rintro e w1 ⟨rfl, rfl⟩))
            go_ret
            exact ⟨ret_bool (by rw [decide_eq_false]; exact HB.out), (Ext.refl w).alloc _⟩
          · go_wp2_with (first | (go_at_call 194; refine (c1 _ _).mono ?_; rintro e w1 ⟨rfl, rfl⟩) | (go_at_call 195; refine (c2 _ _).mono ?_; rintro e w1 ⟨rfl, rfl⟩))
            go_ret
            exact ⟨ret_bool (by rw [decide_eq_false]; exact HB.out), (Ext.refl w).alloc _⟩
    · have hnx := fun ty => run_next_end (P := Tryz.prog) w s pos ty h
      have hy : labP (txN s) := lab_yes hpos hl (fun i hi _ => hk i hi (by omega))
      go_wp2
      go_ret
      exact ⟨ret_bool (by simp [hy]), (Ext.refl w).alloc _⟩
end Go.Proofs.YtbhdmfijdhcehaaGreatDoor

/- Names, walked: the document's word and label. -/
namespace Go.Proofs.YtbhdmfijdhcehaaGreatDoor
set_option linter.unusedVariables false
set_option linter.unusedSimpArgs false
open Go.RowKit Go.Shelf

end Go.Proofs.YtbhdmfijdhcehaaGreatDoor

/- Names, walked: the document's cut. -/
namespace Go.Proofs.YtbhdmfijdhcehaaGreatDoor
set_option linter.unusedVariables false
set_option linter.unusedSimpArgs false
open Go.RowKit Go.Shelf

/-- Texts as cells. -/
def tv (l : List ByteArray) : List Value := l.map Value.string
theorem tv_length (l : List ByteArray) : (tv l).length = l.length := by simp [tv]
theorem tv_at {l : List ByteArray} {k : Nat} {x : ByteArray} (h : l[k]? = some x) : (tv l)[k]? = some (.string x) := by simp [tv, h]
theorem reads_text {w : World} {B n : Nat} {A : Option Addr} {l : List ByteArray} (h : Reads w B 1 A n (tv l)) {k : Nat} {x : ByteArray} (hk : l[k]? = some x) : ∃ ad, A = some ad ∧ w.cell? (ad.add k) = some (.string x) := by
  have hl := (List.getElem?_eq_some_iff.1 hk).1
  have h1 := h.1
  rw [tv_length] at h1
  obtain ⟨ad, e, _, hc⟩ := h.2 (by omega)
  exact ⟨ad, e, hc _ _ (tv_at hk)⟩
theorem Tryz.infoStr : (Tryz.prog.info? 9).map (fun i => (i.zero, i.size, i.bytes)) = some (some (.string ⟨#[]⟩), 1, 16) := by kernel_rfl
end Go.Proofs.YtbhdmfijdhcehaaGreatDoor

/- The door in memory: nonces, accounts, authorizations, orders as cells. -/
namespace Go.Proofs.YtbhdmfijdhcehaaGreatDoor
set_option linter.unusedVariables false
set_option linter.unusedSimpArgs false
open Go.RowKit Go.Shelf

/-! ### lists of structs as cells -/
section
variable {α : Type} (enc : α → List Value) {k : Nat}
theorem fm_length (hk : ∀ x, (enc x).length = k) : ∀ l : List α, (l.flatMap enc).length = l.length * k
  | [] => by simp
  | a :: l => by rw [List.flatMap_cons, List.length_append, hk, fm_length hk l, List.length_cons, Nat.add_mul, Nat.one_mul, Nat.add_comm]
theorem fm_at (hk : ∀ x, (enc x).length = k) : ∀ {l : List α} {j : Nat} {x : α}, l[j]? = some x → ∀ {i : Nat}, i < k → (l.flatMap enc)[j * k + i]? = (enc x)[i]?
  | [], j, x, h, i, hi => by simp at h
  | a :: l, 0, x, h, i, hi => by
    simp at h; subst h
    rw [List.flatMap_cons, Nat.zero_mul, Nat.zero_add, List.getElem?_append_left (by rw [hk]; exact hi)]
  | a :: l, j + 1, x, h, i, hi => by
    simp at h
    rw [List.flatMap_cons, List.getElem?_append_right (by rw [hk, Nat.add_mul]; omega), hk, show (j + 1) * k + i - k = j * k + i by rw [Nat.add_mul]; omega]
    exact fm_at hk h hi
theorem fm_append (l m : List α) : (l ++ m).flatMap enc = l.flatMap enc ++ m.flatMap enc := List.flatMap_append
variable {w : World} {B n : Nat} {A : Option Addr}
theorem reads_fm (hk : ∀ x, (enc x).length = k) {l : List α} (h : Reads w B k A n (l.flatMap enc)) {j : Nat} {x : α} (hj : l[j]? = some x) (h0 : 0 < k) :
    ∃ ad, A = some ad ∧ ad.block < B ∧ ∀ i u, (enc x)[i]? = some u → w.cell? ((ad.add (j * k)).add i) = some u := by
  have hl := (List.getElem?_eq_some_iff.1 hj).1
  have h1 := h.1
  rw [fm_length enc hk] at h1
  have : l.length = n := Nat.eq_of_mul_eq_mul_right h0 h1
  obtain ⟨ad, e, hb, hc⟩ := h.2 (by omega)
  refine ⟨ad, e, hb, fun i u hu => ?_⟩
  have hi : i < k := by rw [← hk x]; exact (List.getElem?_eq_some_iff.1 hu).1
  rw [add_of_add]
  exact hc _ u (by rw [fm_at enc hk hj hi]; exact hu)
end
theorem add_succ_eq (a : Addr) (i : Nat) : a.add (i + 1) = ⟨a.block, a.off + (i + 1), none⟩ := by unfold Addr.add; simp

def nonC (x : NonR) : List Value := [.int .i64 x.n, .int .i64 x.u]
def nonV (l : List NonR) : List Value := l.flatMap nonC
def accC (x : AccR) : List Value := [.int .i64 x.id, .int .u64 (x.key : Int)]
def accV (l : List AccR) : List Value := l.flatMap accC
def autC (x : AutR) : List Value := [.int .i64 x.id, .int .i64 x.acc, .string x.name, .string x.tok, .int .i64 x.st, .int .i64 x.fr, .int .i64 x.un]
def autV (l : List AutR) : List Value := l.flatMap autC
/-- An order, and where its names and its authorizations lie. -/
structure OrdX where
  (o : OrdR) (nA : Option Addr) (nc : Nat) (aA : Option Addr) (ac : Nat)
def ordC (x : OrdX) : List Value := [.int .i64 x.o.id, .int .i64 x.o.acc, .slice x.nA x.o.names.length x.nc, .int .u64 (x.o.key : Int), .int .i64 x.o.life, .slice x.aA x.o.auths.length x.ac, .int .i64 x.o.st, .int .i64 x.o.ser]
def ordV (l : List OrdX) : List Value := l.flatMap ordC
theorem nonV_length (l : List NonR) : (nonV l).length = l.length * 2 := fm_length nonC (fun _ => rfl) l
theorem nonV_append (l m : List NonR) : nonV (l ++ m) = nonV l ++ nonV m := fm_append nonC l m
theorem accV_append (l m : List AccR) : accV (l ++ m) = accV l ++ accV m := fm_append accC l m
theorem autV_append (l m : List AutR) : autV (l ++ m) = autV l ++ autV m := fm_append autC l m
theorem ordV_append (l m : List OrdX) : ordV (l ++ m) = ordV l ++ ordV m := fm_append ordC l m
theorem fm_one {α : Type} (enc : α → List Value) (h : ∀ x, ∀ u ∈ enc x, u.oneCell' = true) (l : List α) : ∀ u ∈ l.flatMap enc, u.oneCell' = true := by
  intro u hu; obtain ⟨a, _, ha⟩ := List.mem_flatMap.1 hu; exact h a u ha
theorem nonV_one (l : List NonR) : ∀ u ∈ nonV l, u.oneCell' = true := fm_one nonC (fun x u hu => by simp [nonC] at hu; rcases hu with rfl | rfl <;> rfl) l
theorem accV_one (l : List AccR) : ∀ u ∈ accV l, u.oneCell' = true := fm_one accC (fun x u hu => by simp [accC] at hu; rcases hu with rfl | rfl <;> rfl) l
theorem autV_one (l : List AutR) : ∀ u ∈ autV l, u.oneCell' = true := fm_one autC (fun x u hu => by simp [autC] at hu; rcases hu with rfl | rfl | rfl | rfl | rfl | rfl | rfl <;> rfl) l
theorem ordV_one (l : List OrdX) : ∀ u ∈ ordV l, u.oneCell' = true := fm_one ordC (fun x u hu => by simp [ordC] at hu; rcases hu with rfl | rfl | rfl | rfl | rfl | rfl | rfl | rfl <;> rfl) l
theorem tv_one (l : List ByteArray) : ∀ u ∈ tv l, u.oneCell' = true := by
  intro u hu; obtain ⟨a, _, rfl⟩ := List.mem_map.1 hu; rfl

section
variable {w : World} {B n : Nat} {A : Option Addr}
theorem reads_non {l : List NonR} (h : Reads w B 2 A n (nonV l)) {j : Nat} {x : NonR} (hj : l[j]? = some x) :
    ∃ ad, A = some ad ∧ ad.block < B ∧ w.cell? (ad.add (j * 2)) = some (.int .i64 x.n) ∧ w.cell? ⟨(ad.add (j * 2)).block, (ad.add (j * 2)).off + 1, none⟩ = some (.int .i64 x.u) := by
  obtain ⟨ad, e, hb, hc⟩ := reads_fm nonC (fun _ => rfl) h hj (by decide)
  refine ⟨ad, e, hb, ?_, ?_⟩
  · have := hc 0 _ rfl; rwa [add_of_add, Nat.add_zero] at this
  · rw [← add_succ_eq _ 0]; exact hc 1 _ rfl
theorem reads_acc {l : List AccR} (h : Reads w B 2 A n (accV l)) {j : Nat} {x : AccR} (hj : l[j]? = some x) :
    ∃ ad, A = some ad ∧ ad.block < B ∧ w.cell? (ad.add (j * 2)) = some (.int .i64 x.id) ∧ w.cell? ⟨(ad.add (j * 2)).block, (ad.add (j * 2)).off + 1, none⟩ = some (.int .u64 (x.key : Int)) := by
  obtain ⟨ad, e, hb, hc⟩ := reads_fm accC (fun _ => rfl) h hj (by decide)
  refine ⟨ad, e, hb, ?_, ?_⟩
  · have := hc 0 _ rfl; rwa [add_of_add, Nat.add_zero] at this
  · rw [← add_succ_eq _ 0]; exact hc 1 _ rfl
/-- An authorization's seven cells. -/
def AutAt (w : World) (p : Addr) (x : AutR) : Prop :=
  w.cell? p = some (.int .i64 x.id) ∧ w.cell? ⟨p.block, p.off + 1, none⟩ = some (.int .i64 x.acc) ∧ w.cell? ⟨p.block, p.off + 2, none⟩ = some (.string x.name) ∧
  w.cell? ⟨p.block, p.off + 3, none⟩ = some (.string x.tok) ∧ w.cell? ⟨p.block, p.off + 4, none⟩ = some (.int .i64 x.st) ∧ w.cell? ⟨p.block, p.off + 5, none⟩ = some (.int .i64 x.fr) ∧ w.cell? ⟨p.block, p.off + 6, none⟩ = some (.int .i64 x.un)
theorem reads_aut {l : List AutR} (h : Reads w B 7 A n (autV l)) {j : Nat} {x : AutR} (hj : l[j]? = some x) : ∃ ad, A = some ad ∧ ad.block < B ∧ AutAt w (ad.add (j * 7)) x := by
  obtain ⟨ad, e, hb, hc⟩ := reads_fm autC (fun _ => rfl) h hj (by decide)
  refine ⟨ad, e, hb, ?_, ?_, ?_, ?_, ?_, ?_, ?_⟩
  · have := hc 0 _ rfl; rwa [add_of_add, Nat.add_zero] at this
  · rw [← add_succ_eq _ 0]; exact hc 1 _ rfl
  · rw [← add_succ_eq _ 1]; exact hc 2 _ rfl
  · rw [← add_succ_eq _ 2]; exact hc 3 _ rfl
  · rw [← add_succ_eq _ 3]; exact hc 4 _ rfl
  · rw [← add_succ_eq _ 4]; exact hc 5 _ rfl
  · rw [← add_succ_eq _ 5]; exact hc 6 _ rfl
/-- An order's eight cells. -/
def OrdAt (w : World) (p : Addr) (x : OrdX) : Prop :=
  w.cell? p = some (.int .i64 x.o.id) ∧ w.cell? ⟨p.block, p.off + 1, none⟩ = some (.int .i64 x.o.acc) ∧ w.cell? ⟨p.block, p.off + 2, none⟩ = some (.slice x.nA x.o.names.length x.nc) ∧
  w.cell? ⟨p.block, p.off + 3, none⟩ = some (.int .u64 (x.o.key : Int)) ∧ w.cell? ⟨p.block, p.off + 4, none⟩ = some (.int .i64 x.o.life) ∧ w.cell? ⟨p.block, p.off + 5, none⟩ = some (.slice x.aA x.o.auths.length x.ac) ∧
  w.cell? ⟨p.block, p.off + 6, none⟩ = some (.int .i64 x.o.st) ∧ w.cell? ⟨p.block, p.off + 7, none⟩ = some (.int .i64 x.o.ser)
theorem reads_ord {l : List OrdX} (h : Reads w B 8 A n (ordV l)) {j : Nat} {x : OrdX} (hj : l[j]? = some x) : ∃ ad, A = some ad ∧ ad.block < B ∧ OrdAt w (ad.add (j * 8)) x := by
  obtain ⟨ad, e, hb, hc⟩ := reads_fm ordC (fun _ => rfl) h hj (by decide)
  refine ⟨ad, e, hb, ?_, ?_, ?_, ?_, ?_, ?_, ?_, ?_⟩
  · have := hc 0 _ rfl; rwa [add_of_add, Nat.add_zero] at this
  · rw [← add_succ_eq _ 0]; exact hc 1 _ rfl
  · rw [← add_succ_eq _ 1]; exact hc 2 _ rfl
  · rw [← add_succ_eq _ 2]; exact hc 3 _ rfl
  · rw [← add_succ_eq _ 3]; exact hc 4 _ rfl
  · rw [← add_succ_eq _ 4]; exact hc 5 _ rfl
  · rw [← add_succ_eq _ 5]; exact hc 6 _ rfl
  · rw [← add_succ_eq _ 6]; exact hc 7 _ rfl
end

/-! ### a door -/
/-- Sizes and kinds of what a door holds. -/
def wf64 (n : Int) : Prop := (Lit.int .i64 n).wf = true
structure AccW (x : AccR) : Prop where
  id : wf64 x.id
  key : x.key < 18446744073709551616
structure AutW (x : AutR) : Prop where
  id : wf64 x.id
  acc : wf64 x.acc
  st : wf64 x.st
  fr : wf64 x.fr
  un : wf64 x.un
  name : x.name.size ≤ 140737488355328
  tok : x.tok.size ≤ 140737488355328
/-- An order lies where it lies. -/
structure OrdW (w : World) (B : Nat) (x : OrdX) : Prop where
  id : wf64 x.o.id
  acc : wf64 x.o.acc
  key : x.o.key < 18446744073709551616
  life : wf64 x.o.life
  st : wf64 x.o.st
  ser : wf64 x.o.ser
  names : Reads w B 1 x.nA x.o.names.length (tv x.o.names)
  nc : x.o.names.length ≤ x.nc
  nl : x.o.names.length ≤ 1099511627776
  ns : ∀ s ∈ x.o.names, s.size ≤ 140737488355328
  auths : Reads w B 1 x.aA x.o.auths.length (iv x.o.auths)
  ac : x.o.auths.length ≤ x.ac
  al : x.o.auths.length ≤ 1099511627776
  aw : ∀ n ∈ x.o.auths, wf64 n
/-- A door and where its parts lie. -/
structure DoorX where
  (next ser : Int) (opn : List NonR) (accs : List AccR) (auts : List AutR) (ords : List OrdX)
  (oA : Option Addr) (oc : Nat) (cA : Option Addr) (cc : Nat) (uA : Option Addr) (uc : Nat) (rA : Option Addr) (rc : Nat)
def DoorX.fro (d : DoorX) : FroR := ⟨d.next, d.opn, d.accs, d.auts, d.ords.map (·.o), d.ser⟩
structure NonsW (w : World) (B : Nat) (next : Int) (l : List NonR) (A : Option Addr) (c : Nat) : Prop where
  nx : wf64 next
  lst : Reads w B 2 A l.length (nonV l)
  cap : l.length ≤ c
  len : l.length ≤ 1099511627776
  wf : ∀ x ∈ l, wf64 x.n ∧ wf64 x.u
structure DoorW (w : World) (B : Nat) (d : DoorX) : Prop where
  non : NonsW w B d.next d.opn d.oA d.oc
  ser : wf64 d.ser
  acc : Reads w B 2 d.cA d.accs.length (accV d.accs)
  cc : d.accs.length ≤ d.cc
  cl : d.accs.length ≤ 1099511627776
  cw : ∀ x ∈ d.accs, AccW x
  aut : Reads w B 7 d.uA d.auts.length (autV d.auts)
  uc : d.auts.length ≤ d.uc
  ul : d.auts.length ≤ 1099511627776
  uw : ∀ x ∈ d.auts, AutW x
  ord : Reads w B 8 d.rA d.ords.length (ordV d.ords)
  rc : d.ords.length ≤ d.rc
  rl : d.ords.length ≤ 1099511627776
  rw : ∀ x ∈ d.ords, OrdW w B x
def fenV (next : Int) (l : List NonR) (A : Option Addr) (c : Nat) : Value := .agg #[.int .i64 next, .slice A l.length c]
section
variable {w w' : World} {B B' : Nat}
theorem OrdW.keep {x : OrdX} (h : OrdW w B x) (hb : Below B w w') (hB : B ≤ B') : OrdW w' B' x :=
  ⟨h.id, h.acc, h.key, h.life, h.st, h.ser, (h.names.below hb).more hB, h.nc, h.nl, h.ns, (h.auths.below hb).more hB, h.ac, h.al, h.aw⟩
theorem NonsW.keep {next : Int} {l : List NonR} {A : Option Addr} {c : Nat} (h : NonsW w B next l A c) (hb : Below B w w') (hB : B ≤ B') : NonsW w' B' next l A c :=
  ⟨h.nx, (h.lst.below hb).more hB, h.cap, h.len, h.wf⟩
theorem DoorW.keep {d : DoorX} (h : DoorW w B d) (hb : Below B w w') (hB : B ≤ B') : DoorW w' B' d :=
  ⟨h.non.keep hb hB, h.ser, (h.acc.below hb).more hB, h.cc, h.cl, h.cw, (h.aut.below hb).more hB, h.uc, h.ul, h.uw, (h.ord.below hb).more hB, h.rc, h.rl, fun x hx => (h.rw x hx).keep hb hB⟩
theorem DoorW.ext {d : DoorX} (h : DoorW w w.heap.size d) (x : Ext w w') : DoorW w' w'.heap.size d := h.keep x.out x.size
theorem NonsW.ext {next : Int} {l : List NonR} {A : Option Addr} {c : Nat} (h : NonsW w w.heap.size next l A c) (x : Ext w w') : NonsW w' w'.heap.size next l A c := h.keep x.out x.size
theorem OrdW.ext {o : OrdX} (h : OrdW w w.heap.size o) (x : Ext w w') : OrdW w' w'.heap.size o := h.keep x.out x.size
end
theorem wf64_of {n : Int} (h1 : -9223372036854775808 ≤ n) (h2 : n ≤ 9223372036854775807) : wf64 n := by
  unfold wf64; simp [Lit.wf, IntKind.min, IntKind.max, IntKind.signed, IntKind.bits]; omega
theorem wf64_out {n : Int} (h : wf64 n) : -9223372036854775808 ≤ n ∧ n ≤ 9223372036854775807 := by
  unfold wf64 at h; simp [Lit.wf, IntKind.min, IntKind.max, IntKind.signed, IntKind.bits] at h; omega
end Go.Proofs.YtbhdmfijdhcehaaGreatDoor

/- Names, walked: strings.SplitSeq, the iterator. -/
namespace Go.Proofs.YtbhdmfijdhcehaaGreatDoor
set_option linter.unusedVariables false
set_option linter.unusedSimpArgs false
open Go.RowKit Go.Shelf
attribute [local go_sem] Oper.semAt_some

theorem txN_extract (s : ByteArray) (a b : Nat) : txN (s.extract a b) = ((txN s).take b).drop a := by
  unfold txN
  rw [ByteArray.data_extract, Array.toList_extract, ← List.map_take, ← List.map_drop]
  congr 1
  rw [List.extract_eq_take_drop, List.drop_take]
theorem count_dot (s : ByteArray) : Lib.countByte s.data.toList 46 = (txN s).count 46 := by
  unfold Lib.countByte txN
  rw [List.count_eq_countP, List.count_eq_countP, List.countP_map]
  congr 1
  funext x
  show (x == 46) = (x.toNat == 46)
  rw [Bool.eq_iff_iff, beq_iff_eq, beq_iff_eq]
  exact ⟨fun h => by rw [h]; rfl, fun h => UInt8.toNat_inj.1 h⟩
theorem idx_no {s : ByteArray} (h : Lib.indexByte s.data.toList 46 = -1) (k : Nat) : (txN s)[k]? ≠ some 46 := by
  have := Lib.indexByte_none h k
  unfold txN
  rw [List.getElem?_map]
  intro e
  rw [Option.map_eq_some_iff] at e
  obtain ⟨x, h1, h2⟩ := e
  exact this (by rw [h1]; congr 1; exact UInt8.toNat_inj.1 h2)
theorem idx_at {s : ByteArray} {o : Nat} (h : Lib.indexByte s.data.toList 46 = o) : (txN s)[o]? = some 46 ∧ ∀ k < o, (txN s)[k]? ≠ some 46 := by
  obtain ⟨h1, h2⟩ := Lib.indexByte_some h
  unfold txN
  refine ⟨by rw [List.getElem?_map, h1]; rfl, fun k hk e => ?_⟩
  rw [List.getElem?_map, Option.map_eq_some_iff] at e
  obtain ⟨x, h3, h4⟩ := e
  exact h2 k hk (by rw [h3]; congr 1; exact UInt8.toNat_inj.1 h4)
theorem cuts_idx_no {s : ByteArray} (h : Lib.indexByte s.data.toList 46 = -1) : cuts (txN s) = [txN s] := by
  have := cuts_last (l := txN s) (f := 0) (fun k _ _ => idx_no h k)
  simpa using this
theorem cuts_idx_at {s : ByteArray} {o : Nat} (h : Lib.indexByte s.data.toList 46 = o) : o < s.size ∧ cuts (txN s) = txN (s.extract 0 o) :: cuts (txN (s.extract (o + 1) s.size)) := by
  obtain ⟨h1, h2⟩ := idx_at h
  have hl : o < (txN s).length := (List.getElem?_eq_some_iff.1 h1).1
  have := cuts_step (l := txN s) (f := 0) (i := o) (Nat.zero_le _) hl (fun k _ hk => h2 k hk) h1
  refine ⟨by rw [txN_len] at hl; exact hl, ?_⟩
  rw [txN_extract, txN_extract]
  simp only [List.drop_zero, Nat.sub_zero] at this
  rw [this]
  congr 2
  rw [List.take_of_length_le (by rw [txN_len]; exact Nat.le_refl _)]
/-- The size of the text in a box. -/
def boxLen (w : World) (b : Nat) : Nat := match w.cell? ⟨b, 0, none⟩ with | some (.string s) => s.size | _ => 0
theorem boxLen_eq {w : World} {b : Nat} {s : ByteArray} (h : w.cell? ⟨b, 0, none⟩ = some (.string s)) : boxLen w b = s.size := by unfold boxLen; rw [h]

set_option maxRecDepth 100000 in
set_option maxHeartbeats 4000000 in
theorem splitSeq1_in (n : Nat) (hn : 1 ≤ n) (l bs bp bv B : Nat) (hs : bs < B) (hp : bp < B) (hv : bv < B) (n1 : bs ≠ bp) (n2 : bs ≠ bv) (T : ByteArray) (hT : T.size ≤ 140737488355328) (J Jx : List ByteArray → World → Prop) (hJ : AbB bs J)
    (hY : ∀ pre x X, J pre X → YieldAt Fence.wide (n - 1) Tryz.prog l #[.string x] X fun e Y => (e = .returned (.bool true) ∧ J (pre ++ [x]) Y ∧ Below B X Y) ∨ (e = .returned (.bool false) ∧ Jx (pre ++ [x]) Y))
    (W : World) (fs : W.frozen? ⟨bs, 0, none⟩ = false) (cs : W.cell? ⟨bs, 0, none⟩ = some (.string T)) (cp : W.cell? ⟨bp, 0, none⟩ = some (.string ⟨#[46]⟩)) (cv : W.cell? ⟨bv, 0, none⟩ = some (.int .i64 0)) (h0 : J [] W) :
    CallsIn Fence.wide n Tryz.prog 205 #[.func (.yield l) #[] #[], .pointer (some ⟨bp, 0, none⟩), .pointer (some ⟨bs, 0, none⟩), .pointer (some ⟨bv, 0, none⟩)] W fun e Y => (∃ v, e = .returned v) ∧
      ((∃ xs : List ByteArray, xs.map txN = cuts (txN T) ∧ J xs Y) ∨ (∃ pre : List ByteArray, pre.map txN <+: cuts (txN T) ∧ Jx pre Y)) := by
  have c0 : ∀ m s w, CallsIn Fence.wide m Tryz.prog 192 #[.string s, .string ⟨#[46]⟩] w fun e w' => e = .returned (.int .i64 (Lib.indexByte s.data.toList 46)) ∧ w = w' := fun m s w =>
    callsIn_wide.2 ((Tryz.strings_Index_one s 46 w).mono fun e w' ⟨he, hw⟩ => ⟨he, hw.symm⟩)
  refine callsIn_of_wp Tryz.func205 rfl trivial ?_ rfl
  simp only [Tryz.ntmps205, List.size_toArray, List.length_cons, List.length_nil, Nat.reduceAdd, Nat.reduceSub, Array.replicate_succ, Array.replicate_zero, List.push_toArray, List.append_toArray, List.nil_append, List.cons_append]
  gi_wp2
  gi_loopw [7] (fun i wr => ∃ (pre : List ByteArray) (cur : ByteArray), J pre wr ∧ wr.cell? ⟨bs, 0, none⟩ = some (.string cur) ∧ wr.cell? ⟨bp, 0, none⟩ = some (.string ⟨#[46]⟩) ∧ wr.cell? ⟨bv, 0, none⟩ = some (.int .i64 0) ∧ wr.frozen? ⟨bs, 0, none⟩ = false ∧
      cuts (txN T) = pre.map txN ++ cuts (txN cur) ∧ cur.size ≤ T.size)
    (fun i wr => boxLen wr bs)
  case atStart => exact ⟨[], T, h0, cs, cp, cv, fs, by simp, Nat.le_refl _⟩
  case round =>
    obtain ⟨pre, cur, hJs, ds, dp, dv, df, hc, hl⟩ := hrel
    have hge := Lib.indexByte_ge cur.data.toList 46
    have c1 := fun m w => c0 m cur w
    by_cases hno : Lib.indexByte cur.data.toList 46 = -1
    · have hc2 := cuts_idx_no hno
      obtain ⟨fn, tmps, assign, body, hy, hR⟩ := hY pre cur wr hJs
      rw [hno] at c1
      rw [hc2] at hc
      clear hno hge c0
      gi_wp2_with (refine ⟨trivial, ?_⟩; gi_at_call 192; refine (c1 _ _).mono ?_; clear c1; rintro e w' ⟨rfl, rfl⟩)
      refine hR.mono ?_
      clear hR
      rintro e Y (⟨rfl, hJ1, hb1⟩ | ⟨rfl, hJ1⟩)
      · gi_wp2
        go_end0
        exact ⟨⟨_, rfl⟩, .inl ⟨_, by rw [hc]; simp, hJ1⟩⟩
      · gi_wp2
        go_end0
        exact ⟨⟨_, rfl⟩, .inr ⟨_, by rw [hc]; simp, hJ1⟩⟩
    · obtain ⟨o, ho⟩ : ∃ o : Nat, Lib.indexByte cur.data.toList 46 = o := ⟨(Lib.indexByte cur.data.toList 46).toNat, by omega⟩
      obtain ⟨ho1, hc2⟩ := cuts_idx_at ho
      rw [ho] at c1
      rw [hc2] at hc
      clear hno hge c0 ho
      obtain ⟨fn, tmps, assign, body, hy, hR⟩ := hY pre (cur.extract 0 o) wr hJs
      have ho2 : (o : Int) + 1 ≤ cur.size := by omega
      gi_wp2_with (refine ⟨trivial, ?_⟩; gi_at_call 192; refine (c1 _ _).mono ?_; clear c1; rintro e w' ⟨rfl, rfl⟩)
      refine hR.mono ?_
      clear hR
      rintro e Y (⟨rfl, hJ1, hb1⟩ | ⟨rfl, hJ1⟩)
      · have es : Y.cell? ⟨bs, 0, none⟩ = some (.string cur) := (Below.cell hb1 (p := ⟨bs, 0, none⟩) hs).trans ds
        have ep : Y.cell? ⟨bp, 0, none⟩ = some (.string ⟨#[46]⟩) := (Below.cell hb1 (p := ⟨bp, 0, none⟩) hp).trans dp
        have ev : Y.cell? ⟨bv, 0, none⟩ = some (.int .i64 0) := (Below.cell hb1 (p := ⟨bv, 0, none⟩) hv).trans dv
        have ef : Y.frozen? ⟨bs, 0, none⟩ = false := (World.frozen?_of_block (hb1.block bs hs)).trans df
        have hm := boxLen_eq ds
        clear ds dp dv df
        gi_wp2
        go_roundw
        case rel =>
          refine ⟨pre ++ [cur.extract 0 o], cur.extract (o + 1) cur.size, hJ _ _ _ _ hJ1 (grownBy_setCell' Y bs _) (fun r e => by cases e; rfl), ?_, ?_, ?_, ?_, ?_, ?_⟩
          · exact World.cell?_setCell_same' _ _ _ (by rw [es]; rfl)
          · exact (World.cell?_setCell_other Y ⟨bs, 0, none⟩ ⟨bp, 0, none⟩ _ (fun h => n1 (by cases h; rfl))).trans ep
          · exact (World.cell?_setCell_other Y ⟨bs, 0, none⟩ ⟨bv, 0, none⟩ _ (fun h => n2 (by cases h; rfl))).trans ev
          · rw [World.frozen?_setCell]; exact ef
          · rw [hc]; simp
          · rw [ByteArray.size_extract]; omega
        case measure =>
          rw [hm, boxLen_eq (World.cell?_setCell_same' _ _ _ (by rw [es]; rfl)), ByteArray.size_extract]
          omega
      · gi_wp2
        refine bodyPost_ret (results_none rfl _ _ _) rfl ?_
        exact ⟨⟨_, rfl⟩, .inr ⟨_, by rw [hc]; simp, hJ1⟩⟩
end Go.Proofs.YtbhdmfijdhcehaaGreatDoor

/- Names, walked: strings.SplitSeq, name, is, Check. -/
namespace Go.Proofs.YtbhdmfijdhcehaaGreatDoor
set_option linter.unusedVariables false
set_option linter.unusedSimpArgs false
open Go.RowKit Go.Shelf
attribute [local go_sem] Oper.semAt_some

theorem splitSeq_any (s p : ByteArray) (v : Int) (w : World) : Calls Tryz.prog 193 #[.string s, .string p, .int .i64 v] w fun e w' =>
    e = .returned (.func (.func 205) #[] #[.pointer (some ⟨w.heap.size + 1, 0, none⟩), .pointer (some ⟨w.heap.size, 0, none⟩), .pointer (some ⟨w.heap.size + 1 + 1, 0, none⟩)]) ∧
    ((w.alloc (.cells #[.string s] 9)).alloc (.cells #[.string p] 9)).alloc (.cells #[.int .i64 v] 3) = w' := by
  go_enter Tryz.func193, Tryz.ntmps193
  go_wp2
  go_ret
  exact ⟨rfl, rfl⟩
theorem SplitSeq_any (s p : ByteArray) (w : World) : Calls Tryz.prog 176 #[.string s, .string p] w fun e w' =>
    e = .returned (.func (.func 205) #[] #[.pointer (some ⟨w.heap.size + 1, 0, none⟩), .pointer (some ⟨w.heap.size, 0, none⟩), .pointer (some ⟨w.heap.size + 1 + 1, 0, none⟩)]) ∧
    ((w.alloc (.cells #[.string s] 9)).alloc (.cells #[.string p] 9)).alloc (.cells #[.int .i64 0] 3) = w' := by
  have c1 := splitSeq_any s p 0
  go_enter Tryz.func176, Tryz.ntmps176
  go_wp2_with (go_at_call 193; refine (c1 _).mono ?_; clear c1; rintro e w' ⟨rfl, rfl⟩)
  go_ret
  exact ⟨rfl, rfl⟩
/-- A name of so many labels and bytes at most. -/
def nameQ (L B : Int) (s : ByteArray) : Prop := (s.size : Int) ≤ B ∧ ((txN s).count 46 : Int) < L ∧ ∀ x ∈ cuts (txN s), labP x
instance (L B : Int) (s : ByteArray) : Decidable (nameQ L B s) := by unfold nameQ; infer_instance
theorem nameQ_is (s : ByteArray) : nameQ 8 64 s ↔ namP s := by
  unfold nameQ namP nameP
  rw [cuts_count, txN_len]
  constructor
  · rintro ⟨h1, h2, h3⟩; exact ⟨by omega, by omega, h3⟩
  · rintro ⟨h1, h2, h3⟩; exact ⟨by omega, by omega, h3⟩

set_option maxRecDepth 100000 in
set_option maxHeartbeats 4000000 in
theorem name_any (s : ByteArray) (hs : s.size ≤ 140737488355328) (L B : Int) (w : World) :
    Calls Tryz.prog 159 #[.string s, .int .i64 L, .int .i64 B] w fun e w' => e = .returned (.bool (decide (nameQ L B s))) ∧ Ext w w' := by
  refine (callsIn_wide (n := 5)).1 ?_
  have c1 : ∀ m w, CallsIn Fence.wide m Tryz.prog 175 #[.string s, .string ⟨#[46]⟩] w fun e w' => e = .returned (.int .i64 ((txN s).count 46 : Nat)) ∧ w = w' := fun m w =>
    callsIn_wide.2 ((Tryz.strings_Count_one s 46 w).mono fun e w' ⟨he, hw⟩ => ⟨by rw [he, count_dot], hw.symm⟩)
  have c2 : ∀ m w, CallsIn Fence.wide m Tryz.prog 176 #[.string s, .string ⟨#[46]⟩] w _ := fun m w => callsIn_wide.2 (SplitSeq_any s ⟨#[46]⟩ w)
  have c3 : ∀ m x w, CallsIn Fence.wide m Tryz.prog 177 #[.string x] w _ := fun m x w => callsIn_wide.2 (label_any x w)
  refine callsIn_of_wp_marks Tryz.func159 rfl trivial ?_ rfl
  simp only [Tryz.ntmps159, List.size_toArray, List.length_cons, List.length_nil, Nat.reduceAdd, Nat.reduceSub, Array.replicate_succ, Array.replicate_zero, List.push_toArray, List.append_toArray, List.nil_append, List.cons_append]
  by_cases h1 : B < (s.size : Int)
  · have hno : ¬ nameQ L B s := fun h => by have := h.1; omega
    gi_wp2
    refine ⟨trivial, ?_⟩
    gi_wp2
    exact ⟨.bool false, by simp [results, Tryz.results159, go_sem], ret_bool (by rw [decide_eq_false hno]), (Ext.refl w).alloc _⟩
  by_cases h2 : L ≤ ((txN s).count 46 : Int)
  · have hno : ¬ nameQ L B s := fun h => by have := h.2.1; omega
    gi_wp2_with (refine ⟨trivial, ?_⟩; gi_at_call 175; refine (c1 _ _).mono ?_; clear c1; rintro e w' ⟨rfl, rfl⟩)
    exact ⟨.bool false, by simp [results, Tryz.results159, go_sem], ret_bool (by rw [decide_eq_false hno]), (Ext.refl w).alloc _⟩
  gi_wp2_with (first | (refine ⟨trivial, ?_⟩; gi_at_call 175; refine (c1 _ _).mono ?_; clear c1; rintro e w' ⟨rfl, rfl⟩) | (refine ⟨trivial, ?_⟩; gi_at_call 176; refine (c2 _ _).mono ?_; clear c2; rintro e w' ⟨rfl, rfl⟩))
  obtain ⟨s0, hs0⟩ : ∃ s0, s0 = w.heap.size := ⟨_, rfl⟩
  have f0 : ((((w.alloc (.cells #[.bool false] 4)).alloc (.cells #[.string s] 9)).alloc (.cells #[.string ⟨#[46]⟩] 9)).alloc (.cells #[.int .i64 0] 3)).cell? ⟨s0, 0, none⟩ = some (.bool false) ∧
    ((((w.alloc (.cells #[.bool false] 4)).alloc (.cells #[.string s] 9)).alloc (.cells #[.string ⟨#[46]⟩] 9)).alloc (.cells #[.int .i64 0] 3)).frozen? ⟨s0, 0, none⟩ = false ∧
    ((((w.alloc (.cells #[.bool false] 4)).alloc (.cells #[.string s] 9)).alloc (.cells #[.string ⟨#[46]⟩] 9)).alloc (.cells #[.int .i64 0] 3)).cell? ⟨s0 + 1, 0, none⟩ = some (.string s) ∧
    ((((w.alloc (.cells #[.bool false] 4)).alloc (.cells #[.string s] 9)).alloc (.cells #[.string ⟨#[46]⟩] 9)).alloc (.cells #[.int .i64 0] 3)).frozen? ⟨s0 + 1, 0, none⟩ = false ∧
    ((((w.alloc (.cells #[.bool false] 4)).alloc (.cells #[.string s] 9)).alloc (.cells #[.string ⟨#[46]⟩] 9)).alloc (.cells #[.int .i64 0] 3)).cell? ⟨s0 + 1 + 1, 0, none⟩ = some (.string ⟨#[46]⟩) ∧
    ((((w.alloc (.cells #[.bool false] 4)).alloc (.cells #[.string s] 9)).alloc (.cells #[.string ⟨#[46]⟩] 9)).alloc (.cells #[.int .i64 0] 3)).cell? ⟨s0 + 1 + 1 + 1, 0, none⟩ = some (.int .i64 0) := by
    subst hs0
    refine ⟨?_, ?_, ?_, ?_, ?_, ?_⟩ <;> simp [go_sem]
  obtain ⟨W0, hW0⟩ : ∃ W0, (((w.alloc (.cells #[.bool false] 4)).alloc (.cells #[.string s] 9)).alloc (.cells #[.string ⟨#[46]⟩] 9)).alloc (.cells #[.int .i64 0] 3) = W0 := ⟨_, rfl⟩
  have hE : Ext w W0 := by rw [← hW0]; exact ((((Ext.refl w).alloc _).alloc _).alloc _).alloc _
  have hsz : W0.heap.size = s0 + 4 := by rw [← hW0, hs0]; simp
  rw [hW0] at f0 ⊢
  rw [← hs0]
  obtain ⟨d0, z0, d1, z1, d2, d3⟩ := f0
  have hE' : Below s0 w W0 := hs0 ▸ hE
  have Hs0 := Lib.hid hs0
  have H12 : Hid ((s.size : Int) ≤ B ∧ ((txN s).count 46 : Int) < L) := Lib.hid ⟨by omega, by omega⟩
  clear hs0 hW0 hE
  refine wpIn_range_box rfl (by omega) (gf := 205) (lb := #[.pointer (some ⟨s0 + 1 + 1, 0, none⟩), .pointer (some ⟨s0 + 1, 0, none⟩), .pointer (some ⟨s0 + 1 + 1 + 1, 0, none⟩)]) rfl trivial (enters_of Tryz.func205 (by kernel_rfl) rfl)
    (en := fun x : ByteArray => #[Value.string x]) (b := s0 + 1) (by omega) (S := fun xs => xs.map txN = cuts (txN s)) (Sp := fun pre => pre.map txN <+: cuts (txN s))
    (fun l J Jx W hW hJ hJx hY h0 => splitSeq1_in 4 (by omega) l (s0 + 1) (s0 + 1 + 1) (s0 + 1 + 1 + 1) W0.heap.size (by omega) (by omega) (by omega) (by omega) (by omega) s hs J Jx hJ hY W ((World.frozen?_of_block (hW.block _ (by simp; omega))).trans z1) ((hW.cell (p := ⟨s0 + 1, 0, none⟩) (by simp; omega)).trans d1) ((hW.cell (p := ⟨s0 + 1 + 1, 0, none⟩) (by simp; omega)).trans d2) ((hW.cell (p := ⟨s0 + 1 + 1 + 1, 0, none⟩) (by simp; omega)).trans d3) h0)
    (fun _ => rfl)
    (fun pre W => W.cell? ⟨s0, 0, none⟩ = some (.bool false) ∧ W.frozen? ⟨s0, 0, none⟩ = false ∧ W0.heap.size ≤ W.heap.size ∧ Below s0 w W ∧ ∀ x ∈ pre, labP (txN x))
    (fun pre W => W.cell? ⟨s0, 0, none⟩ = some (.bool false) ∧ W.frozen? ⟨s0, 0, none⟩ = false ∧ W0.heap.size ≤ W.heap.size ∧ Below s0 w W ∧ ∃ x ∈ pre, ¬ labP (txN x))
    ?hI ?hIx ⟨d0, z0, Nat.le_refl _, hE', by simp⟩
    (fun x => { tmps := #[Value.string s, Value.int IntKind.i64 L, Value.int IntKind.i64 B, undef, undef, undef, Value.pointer (some { block := s0, off := 0 }), Value.string x, Value.string s, Value.int IntKind.i64 ↑s.size, Value.int IntKind.i64 B, Value.bool false, Value.bool false, Value.string s, Value.int IntKind.i64 ↑(List.count 46 (txN s)), Value.int IntKind.i64 L, Value.bool (decide (L ≤ ↑(List.count 46 (txN s)))), Value.bool (decide (L ≤ ↑(List.count 46 (txN s)))), Value.string s, Value.func (Fn.func 205) #[] #[Value.pointer (some { block := s0 + 1 + 1, off := 0 }), Value.pointer (some { block := s0 + 1, off := 0 }), Value.pointer (some { block := s0 + 1 + 1 + 1, off := 0 })], Value.string x, undef, undef, undef], defers := [] }) ?assign ?body ?done ?stop
  case hI =>
    rintro pre X Y row ⟨i1, i2, i3, i4, i5⟩ hg hr
    have hb : Y.heap[s0]? = X.heap[s0]? := hg.block s0 (by omega) (fun e => by rcases hr _ e.symm with h | ⟨h, _⟩ <;> omega)
    exact ⟨(World.cell?_of_block (a := ⟨s0, 0, none⟩) hb).trans i1, (World.frozen?_of_block (a := ⟨s0, 0, none⟩) hb).trans i2, Nat.le_trans i3 hg.size, i4.grown hg (by omega) (fun r e => by rcases hr r e with h | ⟨h, _⟩ <;> omega), i5⟩
  case hIx =>
    rintro pre X Y row ⟨i1, i2, i3, i4, i5⟩ hg hr
    have hb : Y.heap[s0]? = X.heap[s0]? := hg.block s0 (by omega) (fun e => by rcases hr _ e.symm with h | ⟨h, _⟩ <;> omega)
    exact ⟨(World.cell?_of_block (a := ⟨s0, 0, none⟩) hb).trans i1, (World.frozen?_of_block (a := ⟨s0, 0, none⟩) hb).trans i2, Nat.le_trans i3 hg.size, i4.grown hg (by omega) (fun r e => by rcases hr r e with h | ⟨h, _⟩ <;> omega), i5⟩
  case assign =>
    intro l x W K hK
    gi_wp2
    exact hK
  case body =>
    rintro l pre x W ⟨i1, i2, i3, i4, i5⟩
    have c4 := fun m w => c3 m x w
    clear c3
    by_cases hx : labP (txN x)
    · rw [decide_eq_true hx] at c4
      gi_wp2_with (refine ⟨trivial, ?_⟩; gi_at_call 177; refine (CallsIn.inRound l (c4 _ _)).mono ?_; clear c4; rintro e w' ⟨rfl, x1⟩)
      refine ⟨⟨x1.size, fun k o hk _ => (Below.block x1.out k (Array.getElem?_eq_some_iff.1 hk).1).trans hk⟩, Below.mono x1.out i3, x1.cell i1, (x1.frozen i1).trans i2, Nat.le_trans i3 x1.size, i4.trans (Below.mono x1.out (by omega)), fun y hy => ?_⟩
      rcases List.mem_append.1 hy with hy | hy
      · exact i5 y hy
      · rw [List.mem_singleton] at hy; subst hy; exact hx
    · rw [decide_eq_false hx] at c4
      gi_wp2_with (refine ⟨trivial, ?_⟩; gi_at_call 177; refine (CallsIn.inRound l (c4 _ _)).mono ?_; clear c4; rintro e w' ⟨rfl, x1⟩; have y1 := x1.cell i1; have y2 := (x1.frozen i1).trans i2)
      refine ⟨KeepsOthers.trans (B := w') ⟨x1.size, fun k o hk _ => (Below.block x1.out k (Array.getElem?_eq_some_iff.1 hk).1).trans hk⟩ (KeepsOthers.setCell _ _ _), World.cell?_setCell_same' _ _ _ (by rw [y1]; rfl), by rw [World.frozen?_setCell]; exact y2, Nat.le_trans i3 (Nat.le_trans x1.size (KeepsOthers.setCell _ _ _).size), (i4.trans (Below.mono x1.out (by omega))).setCell (p := ⟨s0, 0, none⟩) (Nat.le_refl _) _, x, by simp, hx⟩
  case done =>
    rintro D ys W hD hS ⟨i1, i2, i3, i4, i5⟩ hK
    have hyes : nameQ L B s := ⟨H12.out.1, H12.out.2, fun x hx => by rw [← hS] at hx; obtain ⟨y, hy, rfl⟩ := List.mem_map.1 hx; exact i5 y hy⟩
    have j1 : (W.setCell ⟨s0, 0, none⟩ (.bool true)).cell? ⟨s0, 0, none⟩ = some (.bool true) := World.cell?_setCell_same' _ _ _ (by rw [i1]; rfl)
    have hK' : (W.setCell ⟨s0, 0, none⟩ (.bool true)).heap[D]? = some (.deferred (some [])) := (KeepsOthers.setCell _ _ _).same D _ hK rfl
    gi_wp2
    refine ⟨by simp, .inl ⟨_, _, rfl, run_takeDeferred hK', ?_⟩⟩
    have j2 : ((W.setCell ⟨s0, 0, none⟩ (.bool true)).putObj D (.deferred none)).cell? ⟨s0, 0, none⟩ = some (.bool true) := (World.cell?_of_block (World.putObj_heap_other (by simp; omega))).trans j1
    refine ⟨.bool true, by simp [results, Tryz.results159, go_sem, j2], ret_bool (by rw [decide_eq_true hyes]), ?_⟩
    exact Ext.of (Hs0.out ▸ (i4.setCell (p := ⟨s0, 0, none⟩) (Nat.le_refl _) _).trans (belowK_b (n₀ := s0) (w := w) (by rw [Hs0.out]; exact Nat.le_refl _) _ D _ _ (by rw [hsz, Hs0.out] at hD; omega) hK' rfl rfl))
  case stop =>
    rintro D pre W hD hS ⟨i1, i2, i3, i4, i5⟩ hK
    have hno : ¬ nameQ L B s := fun h => by
      obtain ⟨x, hx, hn⟩ := i5
      exact hn (h.2.2 _ (hS.subset (List.mem_map.2 ⟨x, hx, rfl⟩)))
    gi_wp2
    refine ⟨by simp, .inl ⟨_, _, rfl, run_takeDeferred hK, ?_⟩⟩
    have j2 : (W.putObj D (.deferred none)).cell? ⟨s0, 0, none⟩ = some (.bool false) := (World.cell?_of_block (World.putObj_heap_other (by simp; omega))).trans i1
    refine ⟨.bool false, by simp [results, Tryz.results159, go_sem, j2], ret_bool (by rw [decide_eq_false hno]), ?_⟩
    exact Ext.of (Hs0.out ▸ i4.trans (belowK_b (n₀ := s0) (w := w) (by rw [Hs0.out]; exact Nat.le_refl _) _ D _ _ (by rw [hsz, Hs0.out] at hD; omega) hK rfl rfl))
theorem is_any (s : ByteArray) (hs : s.size ≤ 140737488355328) (w : World) :
    Calls Tryz.prog 140 #[.string s] w fun e w' => e = .returned (.bool (decide (namP s))) ∧ Ext w w' := by
  have c1 := name_any s hs 8 64
  rw [show decide (nameQ 8 64 s) = decide (namP s) by rw [decide_eq_decide]; exact nameQ_is s] at c1
  go_enter Tryz.func140, Tryz.ntmps140
  go_wp2_with (go_at_call 159; refine (c1 _).mono ?_; clear c1; rintro e w1 ⟨rfl, x1⟩)
  go_ret
  exact ⟨rfl, x1⟩
/-- What is wrong with a text as a name. -/
def namE (s : ByteArray) : Nat := if namP s then 0 else 110
theorem nCheck_any (s : ByteArray) (hs : s.size ≤ 140737488355328) (w : World) :
    Calls Tryz.prog 113 #[.string s] w fun e w' => e = .returned (.int .i64 (namE s : Nat)) ∧ Ext w w' := by
  have c1 := is_any s hs
  have c2 := told_any (decide (namP s))
  have e : ((if (decide (namP s)) = true then 0 else 110 : Int)) = (namE s : Nat) := by unfold namE; split <;> rename_i h <;> simp at h <;> simp [h]
  rw [e] at c2
  generalize decide (namP s) = b at c1 c2
  go_enter Tryz.func113, Tryz.ntmps113
  go_wp2_with (first | (go_at_call 140; refine (c1 _).mono ?_; clear c1; rintro e w1 ⟨rfl, x1⟩) | (go_at_call 139; refine (c2 _).mono ?_; clear c2; rintro e w1 ⟨rfl, rfl⟩))
  go_ret
  exact ⟨rfl, x1⟩
end Go.Proofs.YtbhdmfijdhcehaaGreatDoor

/- Names, walked: the document's cut, Name, Check. -/
namespace Go.Proofs.YtbhdmfijdhcehaaGreatDoor
set_option linter.unusedVariables false
set_option linter.unusedSimpArgs false
open Go.RowKit Go.Shelf Go.Maps

end Go.Proofs.YtbhdmfijdhcehaaGreatDoor

/- Nonces, walked: time, Check, old. -/
namespace Go.Proofs.YtbhdmfijdhcehaaGreatDoor
set_option linter.unusedVariables false
set_option linter.unusedSimpArgs false
open Go.RowKit Go.Shelf Go.Maps

theorem time_any (n : Int) (w : World) : Calls Tryz.prog 87 #[.int .i64 n] w fun e w' => e = .returned (.bool (decide (numP n))) ∧ w' = w := by
  go_enter Tryz.func87, Tryz.ntmps87
  by_cases h1 : 0 ≤ n <;> by_cases h2 : n ≤ 1099511627776
  all_goals
    go_wp2
    go_ret
    exact ⟨ret_bool (by rw [eq_comm]; first | exact decide_eq_true (by unfold numP; omega) | exact decide_eq_false (by unfold numP; omega)), rfl⟩
set_option maxRecDepth 100000 in
set_option maxHeartbeats 4000000 in
theorem fCheck_any (next : Int) (l : List NonR) (A : Option Addr) (c : Nat) (w : World) (hw : NonsW w w.heap.size next l A c) :
    Calls Tryz.prog 62 #[fenV next l A c] w fun e w' => e = .returned (.int .i64 (fenN next l : Nat)) ∧ Ext w w' := by
  have c1 := time_any
  unfold fenV
  go_enter Tryz.func62, Tryz.ntmps62
  go_wp2
  obtain ⟨w1, e1⟩ : ∃ W, w.alloc (.cells #[.int .i64 next, .slice A l.length c] 38) = W := ⟨_, rfl⟩
  have x1 : Ext w w1 := by rw [← e1]; exact (Ext.refl w).alloc _
  have hb : Blk w1 w.heap.size 38 #[.int .i64 next, .slice A l.length c] := by rw [← e1]; exact Blk.new _ _ _
  rw [e1]
  clear e1
  have HB := Lib.hid hb
  have X1 := Lib.hid x1
  have hl := (hw.ext x1).lst
  have HR := Lib.hid hl
  have HN := Lib.hid hw.len
  clear hb x1 hl hw
  go_loopg [3, 9] l.length (fun m s3 s9 wr => ∃ j : Nat, j + m = l.length ∧ s9 = .int .i64 j ∧ s3 = .int .i64 (lastF (l.take j)) ∧ fenTo next (l.take j) ∧ Ext w1 wr)
  case atStart => exact ⟨0, by omega, rfl, rfl, fenTo_nil next, Ext.refl w1⟩
  case round =>
    obtain ⟨j, hj, rfl, rfl, hok, hx⟩ := hrel
    obtain ⟨q0, q1⟩ := two (ext_blk hx HB.out)
    have nn := World.new_ne wr ⟨w.heap.size, 0, none⟩ q0
    simp only at nn
    have hjb : (j : Int) ≤ 1099511627776 := by have := HN.out; omega
    by_cases h : j < l.length
    · obtain ⟨x, hs⟩ : ∃ s, l[j]? = some s := ⟨_, List.getElem?_eq_getElem h⟩
      obtain ⟨ad, rfl, hlt, p0, p1⟩ := reads_non (HR.out.below hx.out) hs
      obtain ⟨q2, q3⟩ := two (ext_blk (hx.alloc (.cells #[.int .i64 x.n, .int .i64 x.u] 102)) HB.out)
      have hst := fenTo_take_succ (next := next) hs
      have hla := lastF_take_succ hs
      obtain ⟨la, ela⟩ : ∃ la, la = lastF (l.take j) := ⟨_, rfl⟩
      rw [← ela] at hst ⊢
      have HS := Lib.hid hst
      have HLA := Lib.hid hla
      have HX := Lib.hid hx
      have HO := Lib.hid hok
      have HJ := Lib.hid hj
      clear hst hla hx hok hj hs ela
      by_cases b1 : x.n ≤ la
      · have hno : Hid (fenN next l = 1) := Lib.hid (fenN_no (fenTo_not (k := j + 1) (fun hh => by have := (HS.out.1 hh).2.1; omega)))
        go_wp2_with (go_at_call 87; refine (c1 _ _).mono ?_; rintro e w2 ⟨rfl, rfl⟩)
        go_ret
        exact ⟨by rw [hno.out]; rfl, X1.out.trans (HX.out.alloc _)⟩
      by_cases b2 : next ≤ x.n
      · have hno : Hid (fenN next l = 1) := Lib.hid (fenN_no (fenTo_not (k := j + 1) (fun hh => by have := (HS.out.1 hh).2.2.1; omega)))
        go_wp2_with (go_at_call 87; refine (c1 _ _).mono ?_; rintro e w2 ⟨rfl, rfl⟩)
        go_ret
        exact ⟨by rw [hno.out]; rfl, X1.out.trans (HX.out.alloc _)⟩
      have c1x := c1 x.u
      by_cases b3 : numP x.u
      · rw [decide_eq_true b3] at c1x
        have HOK : Hid (fenTo next (l.take (j + 1))) := Lib.hid (HS.out.2 ⟨HO.out, by omega, by omega, b3⟩)
        clear b3
        go_wp2_with (go_at_call 87; refine (c1x _).mono ?_; rintro e w2 ⟨rfl, rfl⟩)
        have hj := HJ.out
        go_roundg (gk - 1)
        case measure => omega
        case rel => exact ⟨j + 1, by omega, int_congr (by omega), by rw [HLA.out], HOK.out, HX.out.alloc _⟩
      · have hno : Hid (fenN next l = 1) := Lib.hid (fenN_no (fenTo_not (k := j + 1) (fun hh => b3 (HS.out.1 hh).2.2.2)))
        rw [decide_eq_false b3] at c1x
        clear b3
        go_wp2_with (go_at_call 87; refine (c1x _).mono ?_; rintro e w2 ⟨rfl, rfl⟩)
        go_ret
        exact ⟨by rw [hno.out]; rfl, X1.out.trans (HX.out.alloc _)⟩
    · obtain rfl : j = l.length := by omega
      rw [List.take_length] at hok ⊢
      have HX := Lib.hid hx
      have c1x := c1 next
      by_cases b3 : numP next
      · rw [decide_eq_true b3] at c1x
        have hy := fenN_yes hok b3
        clear hx hj h hok b3
        by_cases b4 : (64 : Int) < l.length
        · rw [if_pos (by omega)] at hy
          have HY := Lib.hid hy
          clear hy
          go_wp2_with (go_at_call 87; refine (c1x _).mono ?_; rintro e w2 ⟨rfl, rfl⟩)
          go_ret
          exact ⟨by rw [HY.out]; rfl, X1.out.trans HX.out⟩
        · rw [if_neg (by omega)] at hy
          have HY := Lib.hid hy
          clear hy
          go_wp2_with (go_at_call 87; refine (c1x _).mono ?_; rintro e w2 ⟨rfl, rfl⟩)
          go_ret
          exact ⟨by rw [HY.out]; rfl, X1.out.trans HX.out⟩
      · rw [decide_eq_false b3] at c1x
        have HY := Lib.hid (fenN_num (l := l) b3)
        clear hx hj h hok b3
        go_wp2_with (go_at_call 87; refine (c1x _).mono ?_; rintro e w2 ⟨rfl, rfl⟩)
        go_ret
        exact ⟨by rw [HY.out]; rfl, X1.out.trans HX.out⟩
end Go.Proofs.YtbhdmfijdhcehaaGreatDoor

/- slices.Clone at what a door holds, walked. -/
namespace Go.Proofs.YtbhdmfijdhcehaaGreatDoor
set_option linter.unusedVariables false
set_option linter.unusedSimpArgs false
open Go.RowKit Go.Shelf Go.Maps

theorem Tryz.infoNon : (Tryz.prog.info? 102).map (fun i => (i.zero, i.size, i.bytes)) = some (some (.agg #[.int .i64 0, .int .i64 0]), 2, 16) := by kernel_rfl
theorem Tryz.infoAcc : (Tryz.prog.info? 75).map (fun i => (i.zero, i.size, i.bytes)) = some (some (.agg #[.int .i64 0, .int .u64 0]), 2, 16) := by kernel_rfl
theorem Tryz.infoAut : (Tryz.prog.info? 69).map (fun i => (i.zero, i.size, i.bytes)) = some (some (.agg #[.int .i64 0, .int .i64 0, .string ⟨#[]⟩, .string ⟨#[]⟩, .int .i64 0, .int .i64 0, .int .i64 0]), 7, 72) := by kernel_rfl
theorem Tryz.infoOrd : (Tryz.prog.info? 78).map (fun i => (i.zero, i.size, i.bytes)) = some (some (.agg #[.int .i64 0, .int .i64 0, .slice none 0 0, .int .u64 0, .int .i64 0, .slice none 0 0, .int .i64 0, .int .i64 0]), 8, 96) := by kernel_rfl
set_option maxRecDepth 100000 in
set_option maxHeartbeats 1000000 in
theorem cloneT_any (A : Option Addr) (n c : Nat) (xs : List Value) (h1 : ∀ u ∈ xs, u.oneCell' = true) (hn : n ≤ 1099511627776) (w : World) (hr : Reads w w.heap.size 1 A n xs) :
    Calls Tryz.prog 76 #[.slice A n c] w fun e w' => ∃ v, e = .returned v ∧ w'.ownsRow w.heap.size 9 1 v n xs ∧ Ext w w' := by
  obtain ⟨i0, hi, hz0, hz1, hz2⟩ := info_parts Tryz.infoStr
  have hq := fun (w : World) (a : Option Addr) (n c : Nat) => Lib.run_eql_slice_nil (P := Tryz.prog) w 23 9 a n c 0 0 Tryz.underlying23
  go_enter Tryz.func76, Tryz.ntmps76
  rcases A with _ | ad
  · have h0 : n = 0 := by
      rcases Nat.eq_zero_or_pos n with h0 | h0
      · exact h0
      · obtain ⟨_, e, _⟩ := hr.2 h0; cases e
    subst h0
    have hx : xs = [] := List.eq_nil_of_length_eq_zero (by simpa using hr.1)
    subst hx
    clear hr h1 hn
    go_wp2
    go_ret
    exact ⟨_, rfl, World.ownsRow_nil _ _ _ _, Ext.refl w⟩
  · have HR := Lib.hid (hr.alloc (Nat.le_refl _) (.cells #[] 9))
    have HN := Lib.hid hn
    have HO := Lib.hid h1
    clear hr h1 hn
    go_wp2_with (at_builtin; refine wpList_append_any _ rfl (.tmp 5) (.tmp 6) 23 rfl w.heap.size 9 i0 (.string ⟨#[]⟩) 1 16 Tryz.underlying23 hi hz0 hz1 hz2 rfl (by decide) _ 0 [] rfl (own_empty w _ _ rfl (Nat.le_refl _) _ _) w.heap.size _ _ _ xs rfl HR.out HO.out (by have := HN.out; simp only [maxLen]; omega) (by have := HN.out; omega) (by simp) ?_; intro v2 w2 hown2 hg2 _)
    go_ret
    rw [Nat.zero_add, List.nil_append] at hown2
    exact ⟨_, rfl, hown2, ext_grown ((Ext.refl w).alloc _) (own_empty w _ _ rfl (Nat.le_refl _) 9 1) hg2⟩
set_option maxRecDepth 100000 in
set_option maxHeartbeats 1000000 in
theorem cloneN_any (A : Option Addr) (n c : Nat) (xs : List Value) (h1 : ∀ u ∈ xs, u.oneCell' = true) (hn : n ≤ 1099511627776) (w : World) (hr : Reads w w.heap.size 2 A n xs) :
    Calls Tryz.prog 92 #[.slice A n c] w fun e w' => ∃ v, e = .returned v ∧ w'.ownsRow w.heap.size 102 2 v n xs ∧ Ext w w' := by
  obtain ⟨i0, hi, hz0, hz1, hz2⟩ := info_parts Tryz.infoNon
  have hq := fun (w : World) (a : Option Addr) (n c : Nat) => Lib.run_eql_slice_nil (P := Tryz.prog) w 36 102 a n c 0 0 Tryz.underlying36
  go_enter Tryz.func92, Tryz.ntmps92
  rcases A with _ | ad
  · have h0 : n = 0 := by
      rcases Nat.eq_zero_or_pos n with h0 | h0
      · exact h0
      · obtain ⟨_, e, _⟩ := hr.2 h0; cases e
    subst h0
    have hx : xs = [] := List.eq_nil_of_length_eq_zero (by simpa using hr.1)
    subst hx
    clear hr h1 hn
    go_wp2
    go_ret
    exact ⟨_, rfl, World.ownsRow_nil _ _ _ _, Ext.refl w⟩
  · have HR := Lib.hid (hr.alloc (Nat.le_refl _) (.cells #[] 102))
    have HN := Lib.hid hn
    have HO := Lib.hid h1
    clear hr h1 hn
    go_wp2_with (at_builtin; refine wpList_append_any _ rfl (.tmp 5) (.tmp 6) 36 rfl w.heap.size 102 i0 (.agg #[.int .i64 0, .int .i64 0]) 2 16 Tryz.underlying36 hi hz0 hz1 hz2 rfl (by decide) _ 0 [] rfl (own_empty w _ _ rfl (Nat.le_refl _) _ _) w.heap.size _ _ _ xs rfl HR.out HO.out (by have := HN.out; simp only [maxLen]; omega) (by have := HN.out; omega) (by simp) ?_; intro v2 w2 hown2 hg2 _)
    go_ret
    rw [Nat.zero_add, List.nil_append] at hown2
    exact ⟨_, rfl, hown2, ext_grown ((Ext.refl w).alloc _) (own_empty w _ _ rfl (Nat.le_refl _) 102 2) hg2⟩
set_option maxRecDepth 100000 in
set_option maxHeartbeats 1000000 in
theorem cloneA_any (A : Option Addr) (n c : Nat) (xs : List Value) (h1 : ∀ u ∈ xs, u.oneCell' = true) (hn : n ≤ 1099511627776) (w : World) (hr : Reads w w.heap.size 2 A n xs) :
    Calls Tryz.prog 100 #[.slice A n c] w fun e w' => ∃ v, e = .returned v ∧ w'.ownsRow w.heap.size 75 2 v n xs ∧ Ext w w' := by
  obtain ⟨i0, hi, hz0, hz1, hz2⟩ := info_parts Tryz.infoAcc
  have hq := fun (w : World) (a : Option Addr) (n c : Nat) => Lib.run_eql_slice_nil (P := Tryz.prog) w 39 75 a n c 0 0 Tryz.underlying39
  go_enter Tryz.func100, Tryz.ntmps100
  rcases A with _ | ad
  · have h0 : n = 0 := by
      rcases Nat.eq_zero_or_pos n with h0 | h0
      · exact h0
      · obtain ⟨_, e, _⟩ := hr.2 h0; cases e
    subst h0
    have hx : xs = [] := List.eq_nil_of_length_eq_zero (by simpa using hr.1)
    subst hx
    clear hr h1 hn
    go_wp2
    go_ret
    exact ⟨_, rfl, World.ownsRow_nil _ _ _ _, Ext.refl w⟩
  · have HR := Lib.hid (hr.alloc (Nat.le_refl _) (.cells #[] 75))
    have HN := Lib.hid hn
    have HO := Lib.hid h1
    clear hr h1 hn
    go_wp2_with (at_builtin; refine wpList_append_any _ rfl (.tmp 5) (.tmp 6) 39 rfl w.heap.size 75 i0 (.agg #[.int .i64 0, .int .u64 0]) 2 16 Tryz.underlying39 hi hz0 hz1 hz2 rfl (by decide) _ 0 [] rfl (own_empty w _ _ rfl (Nat.le_refl _) _ _) w.heap.size _ _ _ xs rfl HR.out HO.out (by have := HN.out; simp only [maxLen]; omega) (by have := HN.out; omega) (by simp) ?_; intro v2 w2 hown2 hg2 _)
    go_ret
    rw [Nat.zero_add, List.nil_append] at hown2
    exact ⟨_, rfl, hown2, ext_grown ((Ext.refl w).alloc _) (own_empty w _ _ rfl (Nat.le_refl _) 75 2) hg2⟩
set_option maxRecDepth 100000 in
set_option maxHeartbeats 1000000 in
theorem cloneU_any (A : Option Addr) (n c : Nat) (xs : List Value) (h1 : ∀ u ∈ xs, u.oneCell' = true) (hn : n ≤ 1099511627776) (w : World) (hr : Reads w w.heap.size 7 A n xs) :
    Calls Tryz.prog 101 #[.slice A n c] w fun e w' => ∃ v, e = .returned v ∧ w'.ownsRow w.heap.size 69 7 v n xs ∧ Ext w w' := by
  obtain ⟨i0, hi, hz0, hz1, hz2⟩ := info_parts Tryz.infoAut
  have hq := fun (w : World) (a : Option Addr) (n c : Nat) => Lib.run_eql_slice_nil (P := Tryz.prog) w 40 69 a n c 0 0 Tryz.underlying40
  go_enter Tryz.func101, Tryz.ntmps101
  rcases A with _ | ad
  · have h0 : n = 0 := by
      rcases Nat.eq_zero_or_pos n with h0 | h0
      · exact h0
      · obtain ⟨_, e, _⟩ := hr.2 h0; cases e
    subst h0
    have hx : xs = [] := List.eq_nil_of_length_eq_zero (by simpa using hr.1)
    subst hx
    clear hr h1 hn
    go_wp2
    go_ret
    exact ⟨_, rfl, World.ownsRow_nil _ _ _ _, Ext.refl w⟩
  · have HR := Lib.hid (hr.alloc (Nat.le_refl _) (.cells #[] 69))
    have HN := Lib.hid hn
    have HO := Lib.hid h1
    clear hr h1 hn
    go_wp2_with (at_builtin; refine wpList_append_any _ rfl (.tmp 5) (.tmp 6) 40 rfl w.heap.size 69 i0 (.agg #[.int .i64 0, .int .i64 0, .string ⟨#[]⟩, .string ⟨#[]⟩, .int .i64 0, .int .i64 0, .int .i64 0]) 7 72 Tryz.underlying40 hi hz0 hz1 hz2 rfl (by decide) _ 0 [] rfl (own_empty w _ _ rfl (Nat.le_refl _) _ _) w.heap.size _ _ _ xs rfl HR.out HO.out (by have := HN.out; simp only [maxLen]; omega) (by have := HN.out; omega) (by simp) ?_; intro v2 w2 hown2 hg2 _)
    go_ret
    rw [Nat.zero_add, List.nil_append] at hown2
    exact ⟨_, rfl, hown2, ext_grown ((Ext.refl w).alloc _) (own_empty w _ _ rfl (Nat.le_refl _) 69 7) hg2⟩
set_option maxRecDepth 100000 in
set_option maxHeartbeats 1000000 in
theorem cloneO_any (A : Option Addr) (n c : Nat) (xs : List Value) (h1 : ∀ u ∈ xs, u.oneCell' = true) (hn : n ≤ 1099511627776) (w : World) (hr : Reads w w.heap.size 8 A n xs) :
    Calls Tryz.prog 105 #[.slice A n c] w fun e w' => ∃ v, e = .returned v ∧ w'.ownsRow w.heap.size 78 8 v n xs ∧ Ext w w' := by
  obtain ⟨i0, hi, hz0, hz1, hz2⟩ := info_parts Tryz.infoOrd
  have hq := fun (w : World) (a : Option Addr) (n c : Nat) => Lib.run_eql_slice_nil (P := Tryz.prog) w 41 78 a n c 0 0 Tryz.underlying41
  go_enter Tryz.func105, Tryz.ntmps105
  rcases A with _ | ad
  · have h0 : n = 0 := by
      rcases Nat.eq_zero_or_pos n with h0 | h0
      · exact h0
      · obtain ⟨_, e, _⟩ := hr.2 h0; cases e
    subst h0
    have hx : xs = [] := List.eq_nil_of_length_eq_zero (by simpa using hr.1)
    subst hx
    clear hr h1 hn
    go_wp2
    go_ret
    exact ⟨_, rfl, World.ownsRow_nil _ _ _ _, Ext.refl w⟩
  · have HR := Lib.hid (hr.alloc (Nat.le_refl _) (.cells #[] 78))
    have HN := Lib.hid hn
    have HO := Lib.hid h1
    clear hr h1 hn
    go_wp2_with (at_builtin; refine wpList_append_any _ rfl (.tmp 5) (.tmp 6) 41 rfl w.heap.size 78 i0 (.agg #[.int .i64 0, .int .i64 0, .slice none 0 0, .int .u64 0, .int .i64 0, .slice none 0 0, .int .i64 0, .int .i64 0]) 8 96 Tryz.underlying41 hi hz0 hz1 hz2 rfl (by decide) _ 0 [] rfl (own_empty w _ _ rfl (Nat.le_refl _) _ _) w.heap.size _ _ _ xs rfl HR.out HO.out (by have := HN.out; simp only [maxLen]; omega) (by have := HN.out; omega) (by simp) ?_; intro v2 w2 hown2 hg2 _)
    go_ret
    rw [Nat.zero_add, List.nil_append] at hown2
    exact ⟨_, rfl, hown2, ext_grown ((Ext.refl w).alloc _) (own_empty w _ _ rfl (Nat.le_refl _) 78 8) hg2⟩
end Go.Proofs.YtbhdmfijdhcehaaGreatDoor

/- nonce.old; slices.IndexFunc at what a door holds, walked. -/
namespace Go.Proofs.YtbhdmfijdhcehaaGreatDoor
set_option linter.unusedVariables false
set_option linter.unusedSimpArgs false
open Go.RowKit Go.Shelf Go.Maps

theorem old_any (now : Int) (w : World) : Calls Tryz.prog 90 #[.int .i64 now] w fun e w' =>
    e = .returned (.func (.func 125) #[] #[.pointer (some ⟨w.heap.size, 0, none⟩)]) ∧ w.alloc (.cells #[.int .i64 now] 3) = w' := by
  go_enter Tryz.func90, Tryz.ntmps90
  go_wp2
  go_ret
  exact ⟨rfl, rfl⟩
theorem old1_enters : Enters Tryz.prog 125 := enters_of Tryz.func125 (by kernel_rfl) rfl
theorem old1_any (x : NonR) (now : Int) (g : Nat) (w : World) (h : w.cell? ⟨g, 0, none⟩ = some (.int .i64 now)) : Calls Tryz.prog 125 #[.agg #[.int .i64 x.n, .int .i64 x.u], .pointer (some ⟨g, 0, none⟩)] w fun e w' =>
    e = .returned (.bool (decide (x.u < now))) ∧ Ext w w' := by
  have h2 := (Ext.refl w).alloc (.cells #[.int .i64 x.n, .int .i64 x.u] 102) |>.cell h
  go_enter Tryz.func125, Tryz.ntmps125
  go_wp2
  go_ret
  exact ⟨rfl, (Ext.refl w).alloc _⟩
/-- Where the first is at which f holds, or -1. -/
def ixG {α : Type} (f : α → Bool) (l : List α) : Int := match l.findIdx? f with | some i => (i : Int) | none => -1
set_option maxRecDepth 100000 in
set_option maxHeartbeats 2000000 in
theorem indexN_any (F : FuncId) (hE : Enters Tryz.prog F) (cap : Array Value) (f : NonR → Bool) (l : List NonR) (hn : l.length ≤ 1099511627776) (A : Option Addr) (c : Nat) (w : World) (hr : Reads w w.heap.size 2 A l.length (nonV l))
    (hstep : ∀ (W : World) (s : NonR), s ∈ l → Ext w W → Calls Tryz.prog F (#[.agg #[.int .i64 s.n, .int .i64 s.u]] ++ cap) W fun e w' => e = .returned (.bool (f s)) ∧ Ext W w') :
    Calls Tryz.prog 160 #[.slice A l.length c, .func (.func F) #[] cap] w fun e w' => e = .returned (.int .i64 (ixG f l)) ∧ Ext w w' := by
  have hr0 : Hid (Reads w w.heap.size 2 A l.length (nonV l)) := Lib.hid hr
  have HN := Lib.hid hn
  have HS := Lib.hid hstep
  unfold Enters at hE
  clear hr hn hstep
  go_enter Tryz.func160, Tryz.ntmps160
  go_wp2
  go_loopg [8] l.length (fun m s8 wr => ∃ j : Nat, j + m = l.length ∧ s8 = .int .i64 j ∧ (∀ s ∈ l.take j, f s = false) ∧ Ext w wr)
  case atStart => exact ⟨0, by omega, rfl, by simp, Ext.refl w⟩
  case round =>
    obtain ⟨j, hj, rfl, hok, hx⟩ := hrel
    by_cases h : j < l.length
    · obtain ⟨s, hs⟩ : ∃ s, l[j]? = some s := ⟨_, List.getElem?_eq_getElem h⟩
      obtain ⟨ad, rfl, hlt, q0, q1⟩ := reads_non (hr0.out.below hx.out) hs
      have hjb : (j : Int) ≤ 1099511627776 := by have := HN.out; omega
      have c1 := fun (W : World) => HS.out W s (List.mem_of_getElem? hs)
      have e1 : l.take (j + 1) = l.take j ++ [s] := by rw [List.take_add_one, hs]; rfl
      cases hf : f s with
      | true =>
        have kk : Hid (ixG f l = (j : Int)) := Lib.hid (by
          have : l.findIdx? f = some j := by
            rw [List.findIdx?_eq_some_iff_getElem]
            have hsg := (List.getElem?_eq_some_iff.1 hs).2
            refine ⟨h, by rw [hsg]; exact hf, fun i hi => ?_⟩
            have := hok (l[i]'(by omega)) (List.mem_take_iff_getElem.2 ⟨i, by omega, rfl⟩)
            rw [this]; decide
          unfold ixG; rw [this])
        rw [hf] at c1
        have HX := Lib.hid hx
        clear hx hj hs hf hok e1
        go_wp2_with (go_at_fn F; refine (c1 _ HX.out).mono ?_; clear c1; rintro e w1 ⟨rfl, x1⟩)
        go_ret
        exact ⟨by rw [kk.out]; rfl, HX.out.trans x1⟩
      | false =>
        have hok' : Hid (∀ s ∈ l.take (j + 1), f s = false) := Lib.hid fun r hr => by
          rw [e1] at hr
          rcases List.mem_append.1 hr with hr | hr
          · exact hok r hr
          · rw [List.mem_singleton] at hr; subst hr; exact hf
        rw [hf] at c1
        have HX := Lib.hid hx
        have HJ := Lib.hid hj
        clear hx hj hs hf hok e1
        go_wp2_with (go_at_fn F; refine (c1 _ HX.out).mono ?_; clear c1; rintro e w1 ⟨rfl, x1⟩)
        have hj := HJ.out
        go_roundg (gk - 1)
        case measure => omega
        case rel => exact ⟨j + 1, by omega, int_congr (by omega), hok'.out, HX.out.trans x1⟩
    · obtain rfl : j = l.length := by omega
      rw [List.take_length] at hok
      have kk : Hid (ixG f l = -1) := Lib.hid (by
        have : l.findIdx? f = none := List.findIdx?_eq_none_iff.2 hok
        unfold ixG; rw [this])
      have HX := Lib.hid hx
      clear hx hj h hok
      go_wp2
      go_ret
      exact ⟨by rw [kk.out]; rfl, HX.out⟩
set_option maxRecDepth 100000 in
set_option maxHeartbeats 2000000 in
theorem indexA_any (F : FuncId) (hE : Enters Tryz.prog F) (cap : Array Value) (f : AccR → Bool) (l : List AccR) (hn : l.length ≤ 1099511627776) (A : Option Addr) (c : Nat) (w : World) (hr : Reads w w.heap.size 2 A l.length (accV l))
    (hstep : ∀ (W : World) (s : AccR), s ∈ l → Ext w W → Calls Tryz.prog F (#[.agg #[.int .i64 s.id, .int .u64 (s.key : Int)]] ++ cap) W fun e w' => e = .returned (.bool (f s)) ∧ Ext W w') :
    Calls Tryz.prog 98 #[.slice A l.length c, .func (.func F) #[] cap] w fun e w' => e = .returned (.int .i64 (ixG f l)) ∧ Ext w w' := by
  have hr0 : Hid (Reads w w.heap.size 2 A l.length (accV l)) := Lib.hid hr
  have HN := Lib.hid hn
  have HS := Lib.hid hstep
  unfold Enters at hE
  clear hr hn hstep
  go_enter Tryz.func98, Tryz.ntmps98
  go_wp2
  go_loopg [8] l.length (fun m s8 wr => ∃ j : Nat, j + m = l.length ∧ s8 = .int .i64 j ∧ (∀ s ∈ l.take j, f s = false) ∧ Ext w wr)
  case atStart => exact ⟨0, by omega, rfl, by simp, Ext.refl w⟩
  case round =>
    obtain ⟨j, hj, rfl, hok, hx⟩ := hrel
    by_cases h : j < l.length
    · obtain ⟨s, hs⟩ : ∃ s, l[j]? = some s := ⟨_, List.getElem?_eq_getElem h⟩
      obtain ⟨ad, rfl, hlt, q0, q1⟩ := reads_acc (hr0.out.below hx.out) hs
      have hjb : (j : Int) ≤ 1099511627776 := by have := HN.out; omega
      have c1 := fun (W : World) => HS.out W s (List.mem_of_getElem? hs)
      have e1 : l.take (j + 1) = l.take j ++ [s] := by rw [List.take_add_one, hs]; rfl
      cases hf : f s with
      | true =>
        have kk : Hid (ixG f l = (j : Int)) := Lib.hid (by
          have : l.findIdx? f = some j := by
            rw [List.findIdx?_eq_some_iff_getElem]
            have hsg := (List.getElem?_eq_some_iff.1 hs).2
            refine ⟨h, by rw [hsg]; exact hf, fun i hi => ?_⟩
            have := hok (l[i]'(by omega)) (List.mem_take_iff_getElem.2 ⟨i, by omega, rfl⟩)
            rw [this]; decide
          unfold ixG; rw [this])
        rw [hf] at c1
        have HX := Lib.hid hx
        clear hx hj hs hf hok e1
        go_wp2_with (go_at_fn F; refine (c1 _ HX.out).mono ?_; clear c1; rintro e w1 ⟨rfl, x1⟩)
        go_ret
        exact ⟨by rw [kk.out]; rfl, HX.out.trans x1⟩
      | false =>
        have hok' : Hid (∀ s ∈ l.take (j + 1), f s = false) := Lib.hid fun r hr => by
          rw [e1] at hr
          rcases List.mem_append.1 hr with hr | hr
          · exact hok r hr
          · rw [List.mem_singleton] at hr; subst hr; exact hf
        rw [hf] at c1
        have HX := Lib.hid hx
        have HJ := Lib.hid hj
        clear hx hj hs hf hok e1
        go_wp2_with (go_at_fn F; refine (c1 _ HX.out).mono ?_; clear c1; rintro e w1 ⟨rfl, x1⟩)
        have hj := HJ.out
        go_roundg (gk - 1)
        case measure => omega
        case rel => exact ⟨j + 1, by omega, int_congr (by omega), hok'.out, HX.out.trans x1⟩
    · obtain rfl : j = l.length := by omega
      rw [List.take_length] at hok
      have kk : Hid (ixG f l = -1) := Lib.hid (by
        have : l.findIdx? f = none := List.findIdx?_eq_none_iff.2 hok
        unfold ixG; rw [this])
      have HX := Lib.hid hx
      clear hx hj h hok
      go_wp2
      go_ret
      exact ⟨by rw [kk.out]; rfl, HX.out⟩
set_option maxRecDepth 100000 in
set_option maxHeartbeats 2000000 in
theorem indexU_any (F : FuncId) (hE : Enters Tryz.prog F) (cap : Array Value) (f : AutR → Bool) (l : List AutR) (hn : l.length ≤ 1099511627776) (A : Option Addr) (c : Nat) (w : World) (hr : Reads w w.heap.size 7 A l.length (autV l))
    (hstep : ∀ (W : World) (s : AutR), s ∈ l → Ext w W → Calls Tryz.prog F (#[.agg #[.int .i64 s.id, .int .i64 s.acc, .string s.name, .string s.tok, .int .i64 s.st, .int .i64 s.fr, .int .i64 s.un]] ++ cap) W fun e w' => e = .returned (.bool (f s)) ∧ Ext W w') :
    Calls Tryz.prog 102 #[.slice A l.length c, .func (.func F) #[] cap] w fun e w' => e = .returned (.int .i64 (ixG f l)) ∧ Ext w w' := by
  have hr0 : Hid (Reads w w.heap.size 7 A l.length (autV l)) := Lib.hid hr
  have HN := Lib.hid hn
  have HS := Lib.hid hstep
  unfold Enters at hE
  clear hr hn hstep
  go_enter Tryz.func102, Tryz.ntmps102
  go_wp2
  go_loopg [8] l.length (fun m s8 wr => ∃ j : Nat, j + m = l.length ∧ s8 = .int .i64 j ∧ (∀ s ∈ l.take j, f s = false) ∧ Ext w wr)
  case atStart => exact ⟨0, by omega, rfl, by simp, Ext.refl w⟩
  case round =>
    obtain ⟨j, hj, rfl, hok, hx⟩ := hrel
    by_cases h : j < l.length
    · obtain ⟨s, hs⟩ : ∃ s, l[j]? = some s := ⟨_, List.getElem?_eq_getElem h⟩
      obtain ⟨ad, rfl, hlt, q0, q1, q2, q3, q4, q5, q6⟩ := reads_aut (hr0.out.below hx.out) hs
      have hjb : (j : Int) ≤ 1099511627776 := by have := HN.out; omega
      have c1 := fun (W : World) => HS.out W s (List.mem_of_getElem? hs)
      have e1 : l.take (j + 1) = l.take j ++ [s] := by rw [List.take_add_one, hs]; rfl
      cases hf : f s with
      | true =>
        have kk : Hid (ixG f l = (j : Int)) := Lib.hid (by
          have : l.findIdx? f = some j := by
            rw [List.findIdx?_eq_some_iff_getElem]
            have hsg := (List.getElem?_eq_some_iff.1 hs).2
            refine ⟨h, by rw [hsg]; exact hf, fun i hi => ?_⟩
            have := hok (l[i]'(by omega)) (List.mem_take_iff_getElem.2 ⟨i, by omega, rfl⟩)
            rw [this]; decide
          unfold ixG; rw [this])
        rw [hf] at c1
        have HX := Lib.hid hx
        clear hx hj hs hf hok e1
        go_wp2_with (go_at_fn F; refine (c1 _ HX.out).mono ?_; clear c1; rintro e w1 ⟨rfl, x1⟩)
        go_ret
        exact ⟨by rw [kk.out]; rfl, HX.out.trans x1⟩
      | false =>
        have hok' : Hid (∀ s ∈ l.take (j + 1), f s = false) := Lib.hid fun r hr => by
          rw [e1] at hr
          rcases List.mem_append.1 hr with hr | hr
          · exact hok r hr
          · rw [List.mem_singleton] at hr; subst hr; exact hf
        rw [hf] at c1
        have HX := Lib.hid hx
        have HJ := Lib.hid hj
        clear hx hj hs hf hok e1
        go_wp2_with (go_at_fn F; refine (c1 _ HX.out).mono ?_; clear c1; rintro e w1 ⟨rfl, x1⟩)
        have hj := HJ.out
        go_roundg (gk - 1)
        case measure => omega
        case rel => exact ⟨j + 1, by omega, int_congr (by omega), hok'.out, HX.out.trans x1⟩
    · obtain rfl : j = l.length := by omega
      rw [List.take_length] at hok
      have kk : Hid (ixG f l = -1) := Lib.hid (by
        have : l.findIdx? f = none := List.findIdx?_eq_none_iff.2 hok
        unfold ixG; rw [this])
      have HX := Lib.hid hx
      clear hx hj h hok
      go_wp2
      go_ret
      exact ⟨by rw [kk.out]; rfl, HX.out⟩
set_option maxRecDepth 100000 in
set_option maxHeartbeats 2000000 in
theorem indexI_any (F : FuncId) (hE : Enters Tryz.prog F) (cap : Array Value) (f : Int → Bool) (l : List Int) (hn : l.length ≤ 1099511627776) (A : Option Addr) (c : Nat) (w : World) (hr : Reads w w.heap.size 1 A l.length (iv l))
    (hstep : ∀ (W : World) (s : Int), s ∈ l → Ext w W → Calls Tryz.prog F (#[.int .i64 s] ++ cap) W fun e w' => e = .returned (.bool (f s)) ∧ Ext W w') :
    Calls Tryz.prog 142 #[.slice A l.length c, .func (.func F) #[] cap] w fun e w' => e = .returned (.int .i64 (ixG f l)) ∧ Ext w w' := by
  have hr0 : Hid (Reads w w.heap.size 1 A l.length (iv l)) := Lib.hid hr
  have HN := Lib.hid hn
  have HS := Lib.hid hstep
  unfold Enters at hE
  clear hr hn hstep
  go_enter Tryz.func142, Tryz.ntmps142
  go_wp2
  go_loopg [8] l.length (fun m s8 wr => ∃ j : Nat, j + m = l.length ∧ s8 = .int .i64 j ∧ (∀ s ∈ l.take j, f s = false) ∧ Ext w wr)
  case atStart => exact ⟨0, by omega, rfl, by simp, Ext.refl w⟩
  case round =>
    obtain ⟨j, hj, rfl, hok, hx⟩ := hrel
    by_cases h : j < l.length
    · obtain ⟨s, hs⟩ : ∃ s, l[j]? = some s := ⟨_, List.getElem?_eq_getElem h⟩
      obtain ⟨ad, rfl, q0⟩ := reads_id (hr0.out.below hx.out) hs
      have hjb : (j : Int) ≤ 1099511627776 := by have := HN.out; omega
      have c1 := fun (W : World) => HS.out W s (List.mem_of_getElem? hs)
      have e1 : l.take (j + 1) = l.take j ++ [s] := by rw [List.take_add_one, hs]; rfl
      cases hf : f s with
      | true =>
        have kk : Hid (ixG f l = (j : Int)) := Lib.hid (by
          have : l.findIdx? f = some j := by
            rw [List.findIdx?_eq_some_iff_getElem]
            have hsg := (List.getElem?_eq_some_iff.1 hs).2
            refine ⟨h, by rw [hsg]; exact hf, fun i hi => ?_⟩
            have := hok (l[i]'(by omega)) (List.mem_take_iff_getElem.2 ⟨i, by omega, rfl⟩)
            rw [this]; decide
          unfold ixG; rw [this])
        rw [hf] at c1
        have HX := Lib.hid hx
        clear hx hj hs hf hok e1
        go_wp2_with (go_at_fn F; refine (c1 _ HX.out).mono ?_; clear c1; rintro e w1 ⟨rfl, x1⟩)
        go_ret
        exact ⟨by rw [kk.out]; rfl, HX.out.trans x1⟩
      | false =>
        have hok' : Hid (∀ s ∈ l.take (j + 1), f s = false) := Lib.hid fun r hr => by
          rw [e1] at hr
          rcases List.mem_append.1 hr with hr | hr
          · exact hok r hr
          · rw [List.mem_singleton] at hr; subst hr; exact hf
        rw [hf] at c1
        have HX := Lib.hid hx
        have HJ := Lib.hid hj
        clear hx hj hs hf hok e1
        go_wp2_with (go_at_fn F; refine (c1 _ HX.out).mono ?_; clear c1; rintro e w1 ⟨rfl, x1⟩)
        have hj := HJ.out
        go_roundg (gk - 1)
        case measure => omega
        case rel => exact ⟨j + 1, by omega, int_congr (by omega), hok'.out, HX.out.trans x1⟩
    · obtain rfl : j = l.length := by omega
      rw [List.take_length] at hok
      have kk : Hid (ixG f l = -1) := Lib.hid (by
        have : l.findIdx? f = none := List.findIdx?_eq_none_iff.2 hok
        unfold ixG; rw [this])
      have HX := Lib.hid hx
      clear hx hj h hok
      go_wp2
      go_ret
      exact ⟨by rw [kk.out]; rfl, HX.out⟩
end Go.Proofs.YtbhdmfijdhcehaaGreatDoor

/- Nonces, walked: slices.DeleteFunc at a row of one's own. -/
namespace Go.Proofs.YtbhdmfijdhcehaaGreatDoor
set_option linter.unusedVariables false
set_option linter.unusedSimpArgs false
open Go.RowKit Go.Shelf Go.Maps

theorem nonV_set (l : List NonR) (i : Nat) (x : NonR) : ((nonV l).set (i * 2) (.int .i64 x.n)).set (i * 2 + 1) (.int .i64 x.u) = nonV (l.set i x) := by
  induction l generalizing i with
  | nil => simp [nonV]
  | cons a l ih =>
    cases i with
    | zero => simp [nonV, nonC]
    | succ i =>
      have e : nonV (a :: l) = .int .i64 a.n :: .int .i64 a.u :: nonV l := rfl
      rw [e, show (i + 1) * 2 = i * 2 + 1 + 1 by omega]
      simp only [List.set_cons_succ]
      rw [ih i]
      rfl
theorem nonV_take (l : List NonR) (i : Nat) : (nonV l).take (i * 2) = nonV (l.take i) := by
  induction l generalizing i with
  | nil => simp [nonV]
  | cons a l ih =>
    cases i with
    | zero => simp [nonV]
    | succ i =>
      have e : nonV (a :: l) = .int .i64 a.n :: .int .i64 a.u :: nonV l := rfl
      rw [e, show (i + 1) * 2 = i * 2 + 1 + 1 by omega]
      simp only [List.take_succ_cons]
      rw [ih i]
      rfl
theorem own_at {w : World} {base g n cap : Nat} {e : TypeId} {l : List NonR} (h : w.ownsRow base e 2 (.slice (some ⟨g, 0, none⟩) n cap) n (nonV l)) {j : Nat} {x : NonR} (hj : l[j]? = some x) :
    w.cell? ⟨g, j * 2, none⟩ = some (.int .i64 x.n) ∧ w.cell? ⟨g, j * 2 + 1, none⟩ = some (.int .i64 x.u) := by
  have hl := (List.getElem?_eq_some_iff.1 hj).1
  have h1 := h.1
  rw [nonV_length] at h1
  refine ⟨?_, ?_⟩
  · rw [h.cellAt (j * 2) (by omega)]; exact fm_at nonC (k := 2) (fun _ => rfl) hj (i := 0) (by decide)
  · rw [h.cellAt (j * 2 + 1) (by omega)]; exact fm_at nonC (k := 2) (fun _ => rfl) hj (i := 1) (by decide)
/-- The row on the way: what is kept, what is to be overwritten, what is still to be looked at. -/
def delRow (now : Int) (l : List NonR) (j : Nat) (ys : List NonR) : List NonR := trimF (l.take j) now ++ ys ++ l.drop j
theorem delRow_at {now : Int} {l ys : List NonR} {i j : Nat} {x : NonR} (hi : i = (trimF (l.take j) now).length) (hy : ys.length + i = j) (hx : l[j]? = some x) : (delRow now l j ys)[j]? = some x := by
  unfold delRow
  rw [List.getElem?_append_right (by rw [List.length_append]; omega), List.length_append, show j - ((trimF (l.take j) now).length + ys.length) = 0 by omega, List.getElem?_drop, Nat.add_zero, hx]
theorem trimF_snoc (now : Int) (l : List NonR) (x : NonR) : trimF (l ++ [x]) now = trimF l now ++ (if now ≤ x.u then [x] else []) := by
  unfold trimF
  rw [List.filter_append]
  congr 1
  by_cases h : now ≤ x.u <;> simp [h]
theorem take_snoc {α : Type} {l : List α} {j : Nat} {x : α} (h : l[j]? = some x) : l.take (j + 1) = l.take j ++ [x] := by rw [List.take_add_one, h]; rfl
theorem drop_at {α : Type} {l : List α} {j : Nat} {x : α} (h : l[j]? = some x) : l.drop j = x :: l.drop (j + 1) := by
  obtain ⟨hj, rfl⟩ := List.getElem?_eq_some_iff.1 h
  exact List.drop_eq_getElem_cons hj
theorem delRow_keep {now : Int} {l ys : List NonR} {i j : Nat} {x y : NonR} (hi : i = (trimF (l.take j) now).length) (hx : l[j]? = some x) (hk : now ≤ x.u) : (delRow now l j (y :: ys)).set i x = delRow now l (j + 1) (ys ++ [x]) := by
  unfold delRow
  rw [take_snoc hx, trimF_snoc, if_pos hk, drop_at hx, hi]
  simp
theorem delRow_drop {now : Int} {l ys : List NonR} {j : Nat} {x : NonR} (hx : l[j]? = some x) (hk : ¬ now ≤ x.u) : delRow now l j ys = delRow now l (j + 1) (ys ++ [x]) := by
  unfold delRow
  rw [take_snoc hx, trimF_snoc, if_neg hk, drop_at hx]
  simp
set_option maxRecDepth 100000 in
set_option maxHeartbeats 4000000 in
theorem dfunc_any (now : Int) (gb : Nat) (l : List NonR) (hn : l.length ≤ 1099511627776) (v : Value) (base : Nat) (w : World) (hbase : base ≤ w.heap.size) (hown : w.ownsRow base 102 2 v l.length (nonV l))
    (hc : w.cell? ⟨gb, 0, none⟩ = some (.int .i64 now)) (hgb : v.ownBlock ≠ some gb) :
    Calls Tryz.prog 141 #[v, .func (.func 125) #[] #[.pointer (some ⟨gb, 0, none⟩)]] w fun e w' =>
      ∃ v', e = .returned v' ∧ w'.ownsRow base 102 2 v' (trimF l now).length (nonV (trimF l now)) ∧ Below base w w' := by
  have c0 := fun (A : Option Addr) (c : Nat) (hr : Reads w w.heap.size 2 A l.length (nonV l)) => indexN_any _ old1_enters #[.pointer (some ⟨gb, 0, none⟩)] (fun x => decide (x.u < now)) l hn A c w hr (fun W s _ x => old1_any s now gb W (x.cell hc))
  have hz : ∀ w, (zeroValue 102).run Tryz.prog w = .ok (.agg #[.int .i64 0, .int .i64 0]) w := fun w => by kernel_rfl
  rcases hown.2 with ⟨rfl, h0⟩ | ⟨g, cap, cur, rfl, hbg, hh, hnc, _⟩
  · have hl : l = [] := List.eq_nil_of_length_eq_zero h0
    subst hl
    have c1 := c0 none 0 Reads.none_
    rw [show ixG (fun x : NonR => decide (x.u < now)) [] = -1 from rfl] at c1
    clear c0
    go_enter Tryz.func141, Tryz.ntmps141
    go_wp2_with (go_at_call 160; refine (c1).mono ?_; clear c1; rintro e w1 ⟨rfl, x1⟩)
    go_ret
    exact ⟨_, rfl, World.ownsRow_nil _ _ _ _, Below.mono x1.out hbase⟩
  have hgg : g ≠ gb := fun e => hgb (by rw [e]; rfl)
  have c1 := c0 _ cap (Reads.of_own hown)
  cases hf : l.findIdx? (fun x => decide (x.u < now)) with
  | none =>
    have hall := List.findIdx?_eq_none_iff.1 hf
    rw [show ixG (fun x : NonR => decide (x.u < now)) l = -1 by unfold ixG; rw [hf]] at c1
    have e1 : trimF l now = l := List.filter_eq_self.2 fun x hx => by have := hall x hx; simp at this ⊢; omega
    rw [e1]
    have HO := Lib.hid hown
    clear c0 hall hf e1 hown
    go_enter Tryz.func141, Tryz.ntmps141
    go_wp2_with (go_at_call 160; refine (c1).mono ?_; clear c1; rintro e w1 ⟨rfl, x1⟩)
    go_ret
    exact ⟨_, rfl, own_ext HO.out x1, Below.mono x1.out hbase⟩
  | some i0 =>
    obtain ⟨hi0, hd0, hk0⟩ := List.findIdx?_eq_some_iff_getElem.1 hf
    rw [show ixG (fun x : NonR => decide (x.u < now)) l = (i0 : Int) by unfold ixG; rw [hf]] at c1
    have e1 : trimF (l.take i0) now = l.take i0 := List.filter_eq_self.2 fun x hx => by
      obtain ⟨j, hj, rfl⟩ := List.mem_take_iff_getElem.1 hx
      have := hk0 j (by omega); simp at this ⊢; omega
    have e2 : delRow now l (i0 + 1) [l[i0]] = l := by
      have e3 : l[i0]? = some l[i0] := List.getElem?_eq_getElem hi0
      unfold delRow
      rw [take_snoc e3, trimF_snoc, if_neg (by simp at hd0; omega), e1, List.append_nil, List.append_assoc, List.singleton_append, ← drop_at e3, List.take_append_drop]
    have e4 : i0 = (trimF (l.take (i0 + 1)) now).length := by
      rw [take_snoc (List.getElem?_eq_getElem hi0), trimF_snoc, if_neg (by simp at hd0; omega), e1, List.append_nil, List.length_take]; omega
    have HO := Lib.hid hown
    have HE2 := Lib.hid e2
    have HE4 := Lib.hid e4
    have HN := Lib.hid hn
    have HI0 := Lib.hid hi0
    have hib : (i0 : Int) ≤ 1099511627776 := by omega
    have hnz : (i0 : Int) ≠ -1 := by omega
    clear c0 hf e1 hown e2 e4 hd0 hk0 hh hn hnc
    go_enter Tryz.func141, Tryz.ntmps141
    go_wp2_with (go_at_call 160; refine (c1).mono ?_; clear c1; rintro e w1 ⟨rfl, x1⟩)
    have hi0 := HI0.out
    go_loopg [5, 6] l.length (fun m s5 s6 wr => ∃ (i j : Nat) (ys : List NonR), l.length ≤ j + m ∧ j ≤ l.length ∧ s5 = .int .i64 i ∧ s6 = .int .i64 j ∧ i = (trimF (l.take j) now).length ∧ ys.length + i = j ∧ 0 < ys.length ∧
      wr.ownsRow base 102 2 (.slice (some ⟨g, 0, none⟩) l.length cap) l.length (nonV (delRow now l j ys)) ∧ wr.cell? ⟨gb, 0, none⟩ = some (.int .i64 now) ∧ Below base w wr)
    case atStart => exact ⟨i0, i0 + 1, [l[i0]], by omega, by omega, rfl, int_congr (by omega), HE4.out, by simp; omega, by simp, by rw [HE2.out]; exact own_ext HO.out x1, x1.cell hc, Below.mono x1.out hbase⟩
    case round =>
      obtain ⟨i, j, ys, hj, hjn, rfl, rfl, hi, hy, hy0, ho, hcc, hB⟩ := hrel
      have hjb : (j : Int) ≤ 1099511627776 := by have := HN.out; omega
      have hijb : (i : Int) ≤ j := by omega
      by_cases h : j < l.length
      · obtain ⟨x, hs⟩ : ∃ s, l[j]? = some s := ⟨_, List.getElem?_eq_getElem h⟩
        obtain ⟨q0, q1⟩ := own_at ho (delRow_at hi hy hs)
        obtain ⟨y, t, rfl⟩ : ∃ y t, ys = y :: t := by cases ys with | nil => simp at hy0 | cons y t => exact ⟨y, t, rfl⟩
        have hyi : (delRow now l j (y :: t))[i]? = some y := by
          unfold delRow
          rw [List.append_assoc, List.getElem?_append_right (by omega), show i - (trimF (l.take j) now).length = 0 by omega]
          rfl
        have c2 := fun W (h : World.cell? W ⟨gb, 0, none⟩ = some (.int .i64 now)) => old1_any x now gb W h
        have hcA := ((Ext.refl wr).alloc (.cells #[.int .i64 x.n, .int .i64 x.u] 102)).cell hcc
        obtain ⟨b0, b1⟩ := two (Blk.new wr 102 #[.int .i64 x.n, .int .i64 x.u])
        have hjl : (j : Int) < (l.length : Int) := by omega
        have hil : (i : Int) < (l.length : Int) := by simp at hy; omega
        have HO2 := Lib.hid ho
        have HB := Lib.hid hB
        have HJ : Hid (l.length ≤ j + gk ∧ j ≤ l.length) := Lib.hid ⟨hj, hjn⟩
        have HI := Lib.hid hi
        have HY := Lib.hid hy
        have HS := Lib.hid hs
        have HYI := Lib.hid hyi
        clear ho hB hj hi hy hs hyi hjn
        by_cases hk : x.u < now
        · rw [decide_eq_true hk] at c2
          have HR := Lib.hid (delRow_drop (now := now) (ys := y :: t) HS.out (by omega))
          have HT : Hid (trimF (l.take (j + 1)) now = trimF (l.take j) now) := Lib.hid (by rw [take_snoc HS.out, trimF_snoc, if_neg (by omega), List.append_nil])
          go_wp2_with (go_at_call 125; refine (c2 _ hcA).mono ?_; clear c2; rintro e w2 ⟨rfl, x2⟩)
          have hj := HJ.out
          have hy := HY.out
          go_roundg (gk - 1)
          case measure => omega
          case rel => exact ⟨i, j + 1, y :: t ++ [x], by omega, by omega, rfl, int_congr (by omega), by rw [HT.out]; exact HI.out, by simp at hy ⊢; omega, by simp, by rw [← HR.out]; exact own_ext (HO2.out.alloc _) x2, x2.cell hcA, HB.out.trans (Below.mono (((Ext.refl wr).alloc _).trans x2).out (Nat.le_trans hbase HB.out.size))⟩
        · rw [decide_eq_false hk] at c2
          have HR := Lib.hid (delRow_keep HI.out HS.out (ys := t) (y := y) (by omega))
          have HT : Hid ((trimF (l.take (j + 1)) now).length = (trimF (l.take j) now).length + 1) := Lib.hid (by rw [take_snoc HS.out, trimF_snoc, if_pos (by omega)]; simp)
          go_wp2_with (go_at_call 125; refine (c2 _ hcA).mono ?_; clear c2; rintro e w2 ⟨rfl, x2⟩; have d0 := x2.cell b0; have d1 := x2.cell b1; have o2 := own_ext (HO2.out.alloc _) x2; obtain ⟨p0, p1⟩ := own_at o2 HYI.out; have f0 := o2.frozenAt (i * 2); have f1 := o2.frozenAt (i * 2 + 1); have O2 := Lib.hid o2; clear o2)
          have hj := HJ.out
          have hy := HY.out
          obtain ⟨s1, g1⟩ := O2.out.stored (i * 2) (.int .i64 x.n)
          obtain ⟨s2, g2⟩ := s1.stored (i * 2 + 1) (.int .i64 x.u)
          rw [nonV_set, HR.out] at s2
          have xx := ((Ext.refl wr).alloc (.cells #[.int .i64 x.n, .int .i64 x.u] 102)).trans x2
          have hB2 := HB.out.trans (Below.mono xx.out (Nat.le_trans hbase HB.out.size))
          go_roundg (gk - 1)
          case measure => omega
          case rel => exact ⟨i + 1, j + 1, t ++ [x], by omega, by omega, int_congr (by omega), int_congr (by omega), by rw [HT.out, ← HI.out], by simp at hy ⊢; omega, by simp, s2, (World.cell?_of_block (g2.block gb (by have := g1.size; have := (cell_lt (x2.cell hcA)); simp at this; omega) (fun e => hgg (by cases e; rfl)))).trans ((World.cell?_of_block (g1.block gb (by have := (cell_lt (x2.cell hcA)); simp at this; omega) (fun e => hgg (by cases e; rfl)))).trans (x2.cell hcA)), (hB2.grown g1 (Nat.le_trans hbase hB2.size) (fun k e => by cases e; exact hbg)).grown g2 (Nat.le_trans hbase (Nat.le_trans hB2.size g1.size)) (fun k e => by cases e; exact hbg)⟩
      · obtain rfl : j = l.length := by omega
        rw [List.take_length] at hi
        have hil : i ≤ l.length := by omega
        have hR : delRow now l l.length ys = trimF l now ++ ys := by unfold delRow; rw [List.take_length, List.drop_length, List.append_nil]
        rw [hR] at ho
        have O := Lib.hid ho
        have HB := Lib.hid hB
        have HI := Lib.hid hi
        have HY := Lib.hid hy
        have hcap := own_cap ho
        have hilI : (i : Int) ≤ (l.length : Int) := by omega
        have hcapI : (l.length : Int) ≤ (cap : Int) := by omega
        have hicap : (i : Int) ≤ (cap : Int) := by omega
        have hci : ¬ cap = i := by omega
        clear ho hB hi hy hR hj hjn
        obtain ⟨w2, hrun, o2, hg2⟩ := run_clear_own (P := Tryz.prog) wr base 36 0 102 (.agg #[.int .i64 0, .int .i64 0]) 2 Tryz.underlying36 hz (by decide) (by decide) g l.length cap i _ O.out hil (some ⟨g, i * 2, none⟩) (fun _ => rfl) (cap - i)
        have O2 := Lib.hid o2
        have HG := Lib.hid hg2
        clear o2 hg2
        go_wp2
        go_ret
        have o2 := O2.out
        have hg2 := HG.out
        have e2 : (nonV (trimF l now ++ ys)).take (i * 2) = nonV (trimF l now) := by rw [nonV_take, HI.out, List.take_left']; rfl
        rw [e2, HI.out] at o2
        refine ⟨.slice (some ⟨g, 0, none⟩) (trimF l now).length cap, by rw [← HI.out]; first | rfl | simp, o2, HB.out.grown hg2 (Nat.le_trans hbase HB.out.size) (fun k e => by cases e; exact hbg)⟩
end Go.Proofs.YtbhdmfijdhcehaaGreatDoor

/- Nonces, walked: Trim. -/
namespace Go.Proofs.YtbhdmfijdhcehaaGreatDoor
set_option linter.unusedVariables false
set_option linter.unusedSimpArgs false
open Go.RowKit Go.Shelf Go.Maps

theorem startP (w : World) (x y : Array Value) (T U : TypeId) : ∃ W, (w.alloc (.cells x T)).alloc (.cells y U) = W ∧ Blk W w.heap.size T x ∧ Blk W (w.heap.size + 1) U y ∧ Ext w W ∧ W.heap.size = w.heap.size + 2 := by
  refine ⟨_, rfl, (Blk.new w T x).alloc _, ?_, ((Ext.refl w).alloc _).alloc _, by simp⟩
  have := Blk.new (w.alloc (.cells x T)) U y
  rwa [World.size_alloc] at this
theorem grown_set (W : World) (g i : Nat) (u : Value) : W.grownBy (W.setCell ⟨g, i, none⟩ u) (some g) :=
  ⟨rfl, rfl, rfl, (KeepsWalks.setCell W _ u).size, fun k _ hk => Below.heap_setCell _ _ _ k (fun e => hk (by rw [e]))⟩
theorem own_far {w : World} {base : Nat} {e : TypeId} {size n : Nat} {v : Value} {xs : List Value} (h : w.ownsRow base e size v n xs) {g : Nat} (hg : g < base) (i : Nat) (u : Value) : (w.setCell ⟨g, i, none⟩ u).ownsRow base e size v n xs := by
  refine h.kept (grown_set w g i u) ?_
  cases hb : v.ownBlock with
  | none => exact .inl rfl
  | some k => exact .inr (fun e => by cases e; have := (h.lt _ hb).1; omega)
theorem own_out {w : World} {base : Nat} {e : TypeId} {size n : Nat} {v : Value} {xs : List Value} (h : w.ownsRow base e size v n xs) : ∀ k, v.ownBlock = some k → base ≤ k := fun k hk => (h.lt k hk).1
set_option maxRecDepth 100000 in
set_option maxHeartbeats 4000000 in
theorem Trim_any (next : Int) (l : List NonR) (A : Option Addr) (c : Nat) (now : Int) (w : World) (hw : NonsW w w.heap.size next l A c) :
    Calls Tryz.prog 115 #[fenV next l A c, .int .i64 now] w fun e w' => ∃ A' c', e = .returned (.agg #[.int .i64 next, .slice A' (trimF l now).length c']) ∧ w'.ownsRow w.heap.size 102 2 (.slice A' (trimF l now).length c') (trimF l now).length (nonV (trimF l now)) ∧ Ext w w' := by
  unfold fenV
  obtain ⟨W0, e0, b0, b1, x0, s0⟩ := startP w #[.int .i64 next, .slice A l.length c] #[.int .i64 0, .slice none 0 0] 38 38
  have cC : ∀ W, Ext W0 W → Calls Tryz.prog 92 #[.slice A l.length c] W fun e w' => ∃ v, e = .returned v ∧ w'.ownsRow W0.heap.size 102 2 v l.length (nonV l) ∧ (∀ k, v.ownBlock = some k → W.heap.size ≤ k) ∧ Ext W w' := fun W x =>
    (cloneN_any A l.length c (nonV l) (nonV_one l) hw.len W (hw.ext (x0.trans x)).lst).mono fun e w' ⟨v, h1, h2, h3⟩ => ⟨v, h1, own_base h2 x.size, own_out h2, h3⟩
  have cO : ∀ W, Calls Tryz.prog 90 #[.int .i64 now] W fun e w' => ∃ gb, e = .returned (.func (.func 125) #[] #[.pointer (some ⟨gb, 0, none⟩)]) ∧ w'.cell? ⟨gb, 0, none⟩ = some (.int .i64 now) ∧ W.heap.size ≤ gb ∧ gb < w'.heap.size ∧ Ext W w' := fun W =>
    (old_any now W).mono fun e w' ⟨h1, h2⟩ => ⟨_, h1, by rw [← h2]; exact (Blk.new W _ _).cell 0, Nat.le_refl _, by rw [← h2]; simp, by rw [← h2]; exact (Ext.refl W).alloc _⟩
  have cD : ∀ (v : Value) (gb : Nat) W, W.ownsRow W0.heap.size 102 2 v l.length (nonV l) → World.cell? W ⟨gb, 0, none⟩ = some (.int .i64 now) → v.ownBlock ≠ some gb → Ext W0 W → Calls Tryz.prog 141 #[v, .func (.func 125) #[] #[.pointer (some ⟨gb, 0, none⟩)]] W _ := fun v gb W ho hg hne x =>
    dfunc_any now gb l hw.len v W0.heap.size W x.size ho hg hne
  have HBB := Lib.hid fun (W : World) (x : Ext W0 W) => two (ext_blk x b0)
  have HB1 := Lib.hid b1
  clear hw b0 b1
  have h0 := (Ext.refl W0).drew
  go_enter Tryz.func115, Tryz.ntmps115
  go_wp2
  try rw [e0]
  clear e0
  have XX := h0
  clear h0
  obtain ⟨m0, m1⟩ := HBB.out _ XX
  go_region_held3 (fun w' => w'.cell? ⟨w.heap.size, 0, none⟩ = some (.int .i64 next) ∧ w'.cell? ⟨w.heap.size, 1, none⟩ = some (.slice A l.length c)) (first | exact ⟨m0, m1⟩ | go_keep) (first
    | (go_at_call 92; refine (cC _ XX).mono ?_; clear cC; rintro e w2 ⟨v, rfl, ho, hfr, x2⟩; have XX' := XX.trans x2; clear XX; have XX := XX'; clear XX'; clear m0 m1; obtain ⟨m0, m1⟩ := HBB.out _ XX; (try (have hg' := x2.cell hg; have hne : v.ownBlock ≠ some gb := (fun e => by have := hfr _ e; omega); clear hg; have hg := hg'; clear hg')))
    | (go_at_call 90; refine (cO _).mono ?_; clear cO; rintro e w3 ⟨gb, rfl, hg, hgs, hgl, x3⟩; have XX' := XX.trans x3; clear XX; have XX := XX'; clear XX'; clear m0 m1; obtain ⟨m0, m1⟩ := HBB.out _ XX; (try (have ho' := own_ext ho x3; have hne : v.ownBlock ≠ some gb := (fun e => by have := (ho.lt _ e).2; omega); clear ho; have ho := ho'; clear ho')))
    | (go_at_call 141; refine (cD _ _ _ ho hg hne XX).mono ?_; clear cD; rintro e w4 ⟨v4, rfl, ho4, hb4⟩; obtain ⟨A4, c4, rfl, hc4, hr4⟩ := own_slice2 ho4; have X4 := Ext.of (XX.out.trans hb4); clear m0 m1; obtain ⟨m0, m1⟩ := HBB.out _ X4; have bb := ext_blk X4 HB1.out; obtain ⟨y0, y1⟩ := two bb; have z0 := bb.frozen 0; have z1 := bb.frozen 1; have BB := Lib.hid bb; clear bb))
  obtain ⟨W5, e5⟩ : ∃ W, W = (w4.setCell ⟨w.heap.size + 1, 0, none⟩ (.int .i64 next)).setCell ⟨w.heap.size + 1, 1, none⟩ (.slice A4 (trimF l now).length c4) := ⟨_, rfl⟩
  have b5 : Blk W5 (w.heap.size + 1) 38 #[.int .i64 next, .slice A4 (trimF l now).length c4] := by rw [e5]; exact (BB.out.set_ 0 _).set_ 1 _
  have o5 := own_far (own_far ho4 (g := w.heap.size + 1) (by omega) 0 (.int .i64 next)) (g := w.heap.size + 1) (by omega) 1 (.slice A4 (trimF l now).length c4)
  have x5 : Ext w W5 := by rw [e5]; exact ((x0.trans X4).setCell (by simp) _).setCell (by simp) _
  rw [← e5] at o5 ⊢
  obtain ⟨r0, r1⟩ := two b5
  have O5 := Lib.hid o5
  clear e5 b5 o5
  go_wp2
  refine bodyPost_ret (v := .agg #[.int .i64 next, .slice A4 (trimF l now).length c4]) (by simp [results, Tryz.results115, go_sem, r0, r1]) rfl ⟨A4, c4, rfl, own_base O5.out (by omega), x5⟩
end Go.Proofs.YtbhdmfijdhcehaaGreatDoor

/- Nonces, walked: slices.BinarySearchFunc. -/
namespace Go.Proofs.YtbhdmfijdhcehaaGreatDoor
set_option linter.unusedVariables false
set_option linter.unusedSimpArgs false
open Go.RowKit Go.Shelf Go.Maps

theorem use1_enters : Enters Tryz.prog 89 := enters_of Tryz.func89 (by kernel_rfl) rfl
theorem use1_any (x : NonR) (n d : Int) (h1 : 0 ≤ x.n) (h2 : x.n ≤ 1099511627776) (h3 : 0 ≤ n) (h4 : n ≤ 1099511627776) (hd : x.n - n = d) (w : World) : Calls Tryz.prog 89 #[.agg #[.int .i64 x.n, .int .i64 x.u], .int .i64 n] w fun e w' =>
    e = .returned (.int .i64 d) ∧ Ext w w' := by
  have HD := Lib.hid hd
  clear hd
  go_enter Tryz.func89, Tryz.ntmps89
  go_wp2
  go_ret
  exact ⟨by rw [← HD.out]; rfl, (Ext.refl w).alloc _⟩
def bsPost (l : List NonR) (n : Int) (w : World) (e : Ending) (w' : World) : Prop :=
  ∃ (i : Nat) (b : Bool), e = .returned (.tuple #[.int .i64 (i : Int), .bool b]) ∧ (b = true → ∃ x, l[i]? = some x ∧ x.n = n) ∧ (b = false → ∀ x ∈ l, x.n ≠ n) ∧ Ext w w'
set_option maxRecDepth 100000 in
set_option maxHeartbeats 4000000 in
theorem bsearch_any (n : Int) (hn : numP n) (l : List NonR) (hl : l.length ≤ 1099511627776) (hs : l.Pairwise (fun a b => a.n < b.n)) (hw : ∀ x ∈ l, 0 ≤ x.n ∧ x.n ≤ 1099511627776) (A : Option Addr) (c : Nat) (w : World) (hr : Reads w w.heap.size 2 A l.length (nonV l)) :
    Calls Tryz.prog 88 #[.slice A l.length c, .int .i64 n, .func (.func 89) #[] #[]] w (bsPost l n w) := by
  have hE := use1_enters
  unfold Enters at hE
  have c1 := fun (x : NonR) d h1 h2 hd W => use1_any x n d h1 h2 hn.1 hn.2 hd W
  have hr0 := Lib.hid hr
  have HN := Lib.hid hl
  have HS := Lib.hid hs
  have HW := Lib.hid hw
  have HNN := Lib.hid hn
  clear hr hl hs hw hn
  go_enter Tryz.func88, Tryz.ntmps88
  go_wp2
  go_loopg [9, 10] l.length (fun m s9 s10 wr => ∃ i j : Nat, i ≤ j ∧ j ≤ l.length ∧ j ≤ i + m ∧ s9 = .int .i64 i ∧ s10 = .int .i64 j ∧ (∀ k x, k < i → l[k]? = some x → x.n < n) ∧ (∀ k x, j ≤ k → l[k]? = some x → n ≤ x.n) ∧ Ext w wr)
  case atStart => exact ⟨0, l.length, by omega, by omega, by omega, rfl, rfl, fun k x h => by omega, fun k x h h' => by (have := (List.getElem?_eq_some_iff.1 h').1; omega), Ext.refl w⟩
  case round =>
    obtain ⟨i, j, hij, hjl, hm, rfl, rfl, hlo, hhi, hx⟩ := hrel
    have hjb : (j : Int) ≤ 1099511627776 := by have := HN.out; omega
    have hij' : (i : Int) ≤ j := by omega
    by_cases h : i < j
    · obtain ⟨x, hs⟩ : ∃ x, l[(i + j) / 2]? = some x := ⟨_, List.getElem?_eq_getElem (by omega)⟩
      obtain ⟨ad, rfl, hlt, q0, q1⟩ := reads_non (hr0.out.below hx.out) hs
      have hxw := HW.out x (List.mem_of_getElem? hs)
      have hi' : (i : Int) < j := by omega
      have b0 : (0 : Int) ≤ ((i : Int) + j) / 2 := by omega
      have b1 : ((i : Int) + j) / 2 < (l.length : Int) := by omega
      obtain ⟨d, hd⟩ : ∃ d, x.n - n = d := ⟨_, rfl⟩
      have c2 := fun W => c1 x d hxw.1 hxw.2 hd W
      have HX := Lib.hid hx
      have HM : Hid (j ≤ i + gk ∧ j ≤ l.length ∧ i < j) := Lib.hid ⟨hm, hjl, h⟩
      have HLO := Lib.hid hlo
      have HHI := Lib.hid hhi
      have HD := Lib.hid hd
      have HSX := Lib.hid hs
      clear c1 hx hm hjl hij h hlo hhi hd hs hxw
      by_cases hdn : d < 0
      · go_wp2_with (go_at_fn 89; refine (c2 _).mono ?_; clear c2; rintro e w1 ⟨rfl, x1⟩)
        have hm := HM.out
        go_roundg (gk - 1)
        case measure => omega
        case rel =>
          refine ⟨(i + j) / 2 + 1, j, by omega, by omega, by omega, int_congr (by omega), rfl, fun k y hk hy => ?_, HHI.out, HX.out.trans x1⟩
          have hd := HD.out
          rcases Nat.lt_or_ge k ((i + j) / 2) with h | h
          · have h1 := HSX.out
            obtain ⟨a1, rfl⟩ := List.getElem?_eq_some_iff.1 h1
            obtain ⟨a2, rfl⟩ := List.getElem?_eq_some_iff.1 hy
            have := List.pairwise_iff_getElem.1 HS.out k ((i + j) / 2) a2 a1 h
            omega
          · obtain rfl : k = (i + j) / 2 := by omega
            rw [HSX.out] at hy; cases hy; omega
      · go_wp2_with (go_at_fn 89; refine (c2 _).mono ?_; clear c2; rintro e w1 ⟨rfl, x1⟩)
        have hm := HM.out
        go_roundg (gk - 1)
        case measure => omega
        case rel =>
          refine ⟨i, (i + j) / 2, by omega, by omega, by omega, rfl, int_congr (by omega), HLO.out, fun k y hk hy => ?_, HX.out.trans x1⟩
          have hd := HD.out
          rcases Nat.lt_or_ge ((i + j) / 2) k with h | h
          · have h1 := HSX.out
            obtain ⟨a1, rfl⟩ := List.getElem?_eq_some_iff.1 h1
            obtain ⟨a2, rfl⟩ := List.getElem?_eq_some_iff.1 hy
            have := List.pairwise_iff_getElem.1 HS.out ((i + j) / 2) k a1 a2 h
            omega
          · obtain rfl : k = (i + j) / 2 := by omega
            rw [HSX.out] at hy; cases hy; omega
    · obtain rfl : i = j := by omega
      by_cases hil : i < l.length
      · obtain ⟨x, hs⟩ : ∃ x, l[i]? = some x := ⟨_, List.getElem?_eq_getElem hil⟩
        obtain ⟨ad, rfl, hlt, q0, q1⟩ := reads_non (hr0.out.below hx.out) hs
        have hxw := HW.out x (List.mem_of_getElem? hs)
        have hil' : (i : Int) < (l.length : Int) := by omega
        obtain ⟨d, hd⟩ : ∃ d, x.n - n = d := ⟨_, rfl⟩
        have c2 := fun W => c1 x d hxw.1 hxw.2 hd W
        have HX := Lib.hid hx
        have HLO := Lib.hid hlo
        have hge := hhi i x (Nat.le_refl _) hs
        have HGE := Lib.hid hge
        have HD := Lib.hid hd
        have HSX := Lib.hid hs
        clear c1 hx hm hij h hlo hhi hd hs hxw hge
        by_cases hd0 : d = 0
        · have kd : (d == 0) = true := by simp [hd0]
          clear hd0
          go_wp2_with (go_at_fn 89; refine (c2 _).mono ?_; clear c2; rintro e w1 ⟨rfl, x1⟩)
          go_ret2
          refine ⟨i, true, rfl, fun _ => ⟨x, HSX.out, ?_⟩, fun h => (by cases h), HX.out.trans x1⟩
          have hd := HD.out
          simp at kd; omega
        · have kd : (d == 0) = false := by simp [hd0]
          clear hd0
          go_wp2_with (go_at_fn 89; refine (c2 _).mono ?_; clear c2; rintro e w1 ⟨rfl, x1⟩)
          go_ret2
          refine ⟨i, false, rfl, fun h => (by cases h), fun _ y hy hyn => ?_, HX.out.trans x1⟩
          have hd := HD.out
          have hge := HGE.out
          simp at kd
          obtain ⟨k, hk, rfl⟩ := List.getElem_of_mem hy
          rcases Nat.lt_trichotomy k i with h | h | h
          · have := HLO.out k _ h (List.getElem?_eq_getElem hk); omega
          · subst h; have := HSX.out; rw [List.getElem?_eq_getElem hk] at this; cases this; omega
          · have h1 := HSX.out
            obtain ⟨a1, rfl⟩ := List.getElem?_eq_some_iff.1 h1
            have := List.pairwise_iff_getElem.1 HS.out i k a1 hk h
            omega
      · have hil' : ¬ (i : Int) < (l.length : Int) := by omega
        have HX := Lib.hid hx
        have HLO := Lib.hid hlo
        have HIL := Lib.hid hil
        have hild : decide (i < l.length) = false := decide_eq_false hil
        clear hx hm hij h hlo hhi hil hjl
        go_wp2_with fail
        go_ret2
        refine ⟨i, false, rfl, fun h => (by cases h), fun _ y hy hyn => ?_, HX.out⟩
        obtain ⟨k, hk, rfl⟩ := List.getElem_of_mem hy
        have hil := HIL.out
        have := HLO.out k _ (by omega) (List.getElem?_eq_getElem hk)
        omega
end Go.Proofs.YtbhdmfijdhcehaaGreatDoor

/- Nonces, walked: slices.Delete at a row of one's own. -/
namespace Go.Proofs.YtbhdmfijdhcehaaGreatDoor
set_option linter.unusedVariables false
set_option linter.unusedSimpArgs false
open Go.RowKit Go.Shelf Go.Maps

theorem nonV_drop (l : List NonR) (i : Nat) : (nonV l).drop (i * 2) = nonV (l.drop i) := by
  induction l generalizing i with
  | nil => simp [nonV]
  | cons a l ih =>
    cases i with
    | zero => simp [nonV]
    | succ i =>
      have e : nonV (a :: l) = .int .i64 a.n :: .int .i64 a.u :: nonV l := rfl
      rw [e, show (i + 1) * 2 = i * 2 + 1 + 1 by omega]
      simp only [List.drop_succ_cons]
      rw [ih i]
/-- A row of one's own, read as longer within its room. -/
theorem own_more {w : World} {base : Nat} {e : TypeId} {size g n cap : Nat} {xs : List Value} (h : w.ownsRow base e size (.slice (some ⟨g, 0, none⟩) n cap) n xs) {m : Nat} (h1 : n ≤ m) (h2 : m ≤ cap) :
    ∃ ys, w.ownsRow base e size (.slice (some ⟨g, 0, none⟩) m cap) m ys ∧ ys.take (n * size) = xs := by
  rcases h.2 with ⟨h', _⟩ | ⟨g', cap', cur, h', hb, hg, hnc, hcm, hcs, htake⟩
  · simp at h'
  · simp only [Value.slice.injEq, Option.some.injEq, Addr.mk.injEq, and_true, true_and] at h'
    obtain ⟨rfl, rfl⟩ := h'
    refine ⟨cur.toList.take (m * size), ⟨?_, .inr ⟨g, cap, cur, rfl, hb, hg, h2, hcm, hcs, rfl⟩⟩, ?_⟩
    · rw [List.length_take, Array.length_toList, hcs]; exact Nat.min_eq_left (Nat.mul_le_mul_right _ h2)
    · rw [List.take_take, Nat.min_eq_left (Nat.mul_le_mul_right _ h1)]; exact htake
theorem erase_eq {α : Type} (l : List α) (i : Nat) : l.eraseIdx i = l.take i ++ l.drop (i + 1) := List.eraseIdx_eq_take_drop_succ l i
theorem fits_any (w : World) (base g q cap i : Nat) (l : List NonR) (hl : l.length = q + 1) (hi : i ≤ q) (hown : w.ownsRow base 102 2 (.slice (some ⟨g, 0, none⟩) (q + 1) cap) (q + 1) (nonV l)) (ad : Addr) (had : i < q → ad = ⟨g, (i + 1) * 2, none⟩) (ty c : Nat) :
    ∃ w', (Builtin.append_ #[36, 36] ty #[.slice (some ⟨g, 0, none⟩) i cap, .slice (some ad) (q - i) c]).run Tryz.prog w = .ok (.slice (some ⟨g, 0, none⟩) q cap) w' ∧ w'.ownsRow base 102 2 (.slice (some ⟨g, 0, none⟩) q cap) q (nonV (l.eraseIdx i)) ∧ w.grownBy w' (some g) := by
  obtain ⟨i0, hi0, hz0, hz1, hz2⟩ := info_parts Tryz.infoNon
  have hcap := own_cap hown
  obtain ⟨w', h1, h2, h3⟩ := run_append_fits (P := Tryz.prog) w base 36 ty 102 i0 2 Tryz.underlying36 hi0 hz1 g i cap _ (own_cut hown (k := i) (by omega)) ad (q - i) c (nonV (l.drop (i + 1))) (by rw [nonV_length, List.length_drop]; omega) (fun j u hu => by
      have hj := (List.getElem?_eq_some_iff.1 hu).1
      rw [nonV_length, List.length_drop] at hj
      rw [had (by omega)]
      rw [← nonV_drop, List.getElem?_drop] at hu
      have : (Addr.mk g ((i + 1) * 2) none).add j = ⟨g, (i + 1) * 2 + j, none⟩ := by unfold Addr.add; split <;> simp_all
      rw [this, hown.cellAt _ (by have := hown.1; omega)]
      exact hu) (nonV_one _) (by omega)
  rw [show i + (q - i) = q by omega] at h1 h2
  refine ⟨w', h1, ?_, h3⟩
  rw [nonV_take, ← nonV_append, ← erase_eq] at h2
  exact h2
theorem step_append_run {P : Program} {ops : Array Oper} {o : Oper} {a : Act} {w : World} {K : Act → World → Prop} {Q : Exit → Act → World → Prop} {E : Prop} (hgd : o.guard = none) (s x : Operand) (t : TypeId)
    (ho : o.op = .call { callee := .builtin .append, args := #[s, x], argTypes := #[t, t] }) (vs vx : Value) (hs : a.eval s = vs) (hx : a.eval x = vx) (v : Value) (w' : World) (hrun : (Builtin.append_ #[t, t] o.type #[vs, vx]).run P w = .ok v w')
    (h : K (a.put o.dst v) w') : if Region.wanted o (yielded ops a.tmps) = true then Oper.wp P o a w K Q else E := by
  have hw : Region.wanted o (yielded ops a.tmps) = true := by simp [Region.wanted, hgd]
  rw [if_pos hw]
  unfold Oper.wp execOp
  simp only [ho, resolve, invoke, builtin, Sem.run_bind, Sem.run_pure, Result.andThen_ok, List.map_toArray, List.map_cons, List.map_nil, hs, hx, hrun]
  exact h
set_option maxRecDepth 100000 in
set_option maxHeartbeats 4000000 in
theorem delete_any (l : List NonR) (i q : Nat) (hl : l.length = q + 1) (hi : i ≤ q) (hn : l.length ≤ 1099511627776) (g cap : Nat) (base : Nat) (w : World) (hbase : base ≤ w.heap.size) (hown : w.ownsRow base 102 2 (.slice (some ⟨g, 0, none⟩) (q + 1) cap) (q + 1) (nonV l)) :
    Calls Tryz.prog 91 #[.slice (some ⟨g, 0, none⟩) (q + 1) cap, .int .i64 (i : Int), .int .i64 ((i : Int) + 1)] w fun e w' =>
      ∃ A c, e = .returned (.slice A q c) ∧ w'.ownsRow base 102 2 (.slice A q c) q (nonV (l.eraseIdx i)) ∧ Below base w w' := by
  have hz : ∀ w, (zeroValue 102).run Tryz.prog w = .ok (.agg #[.int .i64 0, .int .i64 0]) w := fun w => by kernel_rfl
  have hcap := own_cap hown
  have hg : base ≤ g := own_ge hown g rfl
  have k1 : (i : Int) ≤ (q : Int) := by omega
  have k2 : (i : Int) + 1 ≤ (cap : Int) := by omega
  have k3 : (q : Int) + 1 ≤ (cap : Int) := by omega
  have k4 : (i : Int) ≤ (cap : Int) := by omega
  have k5 : (q : Int) + 1 ≤ 1099511627776 := by omega
  have k6 : ((i : Int) == (i : Int) + 1) = false := by rw [beq_eq_false_iff_ne]; omega
  have k7 : (0 : Int) ≤ (i : Int) + 1 := by omega
  have k8 : (i : Int) ≤ (i : Int) + 1 := by omega
  have HO := Lib.hid hown
  have HI := Lib.hid hi
  have HL := Lib.hid hl
  clear hown hi hn hcap hl
  go_enter Tryz.func91, Tryz.ntmps91
  by_cases hc : cap = i + 1
  · subst hc
    have hcq : ¬ (i + 1) = q := by omega
    obtain ⟨w2, hrun, o2, hg2⟩ := fits_any w.drew base g q (i + 1) i l HL.out HI.out HO.out ⟨g, 0, none⟩ (fun h => by omega) 36 0
    obtain ⟨ys, o3, e3⟩ := own_more o2 (m := q + 1) (by omega) (by omega)
    obtain ⟨w4, hrun4, o4, hg4⟩ := run_clear_own (P := Tryz.prog) w2 base 36 0 102 (.agg #[.int .i64 0, .int .i64 0]) 2 Tryz.underlying36 hz (by decide) (by decide) g (q + 1) (i + 1) q _ o3 (by omega) (some ⟨g, q * 2, none⟩) (fun _ => rfl) ((i + 1) - q)
    rw [show q + 1 - q = 1 by omega] at hrun4
    have O4 := Lib.hid o4
    have E3 := Lib.hid e3
    have HB := Lib.hid (((Below.refl base w).drew.grown hg2 hbase (fun k e => by cases e; exact hg)).grown hg4 (Nat.le_trans hbase hg2.size) (fun k e => by cases e; exact hg))
    clear o2 hg2 o3 e3 o4 hg4
    go_wp2
    go_region_held3 (fun _ => True) (trivial) ((refine step_append_run (by rfl) (.tmp 22) (.tmp 25) 36 (by rfl) _ _ (by rfl) (by rfl) _ w2 hrun ?_))
    go_wp2
    go_ret
    refine ⟨_, _, rfl, ?_, HB.out⟩
    rw [← E3.out]
    exact O4.out
  · have hcq : ¬ cap = q := by omega
    obtain ⟨w2, hrun, o2, hg2⟩ := fits_any w.drew base g q cap i l HL.out HI.out HO.out ⟨g, (i + 1) * 2, none⟩ (fun _ => rfl) 36 (cap - (i + 1))
    obtain ⟨ys, o3, e3⟩ := own_more o2 (m := q + 1) (by omega) (by omega)
    obtain ⟨w4, hrun4, o4, hg4⟩ := run_clear_own (P := Tryz.prog) w2 base 36 0 102 (.agg #[.int .i64 0, .int .i64 0]) 2 Tryz.underlying36 hz (by decide) (by decide) g (q + 1) cap q _ o3 (by omega) (some ⟨g, q * 2, none⟩) (fun _ => rfl) (cap - q)
    rw [show q + 1 - q = 1 by omega] at hrun4
    have O4 := Lib.hid o4
    have E3 := Lib.hid e3
    have HB := Lib.hid (((Below.refl base w).drew.grown hg2 hbase (fun k e => by cases e; exact hg)).grown hg4 (Nat.le_trans hbase hg2.size) (fun k e => by cases e; exact hg))
    clear o2 hg2 o3 e3 o4 hg4
    go_wp2
    go_region_held3 (fun _ => True) (trivial) ((refine step_append_run (by rfl) (.tmp 22) (.tmp 25) 36 (by rfl) _ _ (by rfl) (by rfl) _ w2 hrun ?_))
    go_wp2
    go_ret
    refine ⟨_, _, rfl, ?_, HB.out⟩
    rw [← E3.out]
    exact O4.out
end Go.Proofs.YtbhdmfijdhcehaaGreatDoor

/- Nonces, walked: Use. -/
namespace Go.Proofs.YtbhdmfijdhcehaaGreatDoor
set_option linter.unusedVariables false
set_option linter.unusedSimpArgs false
open Go.RowKit Go.Shelf Go.Maps

theorem fen_pair {next : Int} {l : List NonR} (h : fenN next l = 0) : l.Pairwise (fun a b => a.n < b.n) ∧ (∀ x ∈ l, 0 ≤ x.n ∧ x.n ≤ 1099511627776) ∧ numP next ∧ (∀ x ∈ l, numP x.u) := by
  obtain ⟨⟨h1, h2, h3⟩, -⟩ := fenN_zero.1 h
  exact ⟨h1, fun x hx => ⟨(h2 x hx).1, by have := (h2 x hx).2.1; have := h3.2; omega⟩, h3, fun x hx => (h2 x hx).2.2⟩
/-- What is left when one is taken. -/
theorem useL_erase {l : List NonR} (hp : l.Pairwise (fun a b => a.n < b.n)) {i : Nat} {x : NonR} (hx : l[i]? = some x) : useL l x.n = l.eraseIdx i := by
  rw [erase_eq]
  obtain ⟨hi, rfl⟩ := List.getElem?_eq_some_iff.1 hx
  unfold useL
  have e : l = l.take i ++ l[i] :: l.drop (i + 1) := by rw [← List.drop_eq_getElem_cons hi, List.take_append_drop]
  have h1 : ∀ y ∈ l.take i, y.n < l[i].n := fun y hy => by
    obtain ⟨k, hk, rfl⟩ := List.mem_take_iff_getElem.1 hy
    exact List.pairwise_iff_getElem.1 hp k i (by omega) hi (by omega)
  have h2 : ∀ y ∈ l.drop (i + 1), l[i].n < y.n := fun y hy => by
    obtain ⟨k, hk, rfl⟩ := List.getElem_of_mem hy
    rw [List.getElem_drop]
    exact List.pairwise_iff_getElem.1 hp i _ hi (by rw [List.length_drop] at hk; omega) (by omega)
  obtain ⟨p, hp'⟩ : ∃ p, p = l.take i := ⟨_, rfl⟩
  obtain ⟨d, hd'⟩ : ∃ d, d = l.drop (i + 1) := ⟨_, rfl⟩
  obtain ⟨z, hz⟩ : ∃ z, z = l[i] := ⟨_, rfl⟩
  rw [← hp', ← hd', ← hz] at e
  rw [← hp', ← hz] at h1
  rw [← hd', ← hz] at h2
  rw [← hp', ← hd', ← hz, e, List.filter_append, List.filter_cons]
  rw [List.filter_eq_self.2 (fun y hy => by have := h1 y hy; simp; omega), List.filter_eq_self.2 (fun y hy => by have := h2 y hy; simp; omega)]
  simp
/-- The outcome of taking one. -/
def useF (next : Int) (l : List NonR) (n now : Int) : Int × List NonR × Nat := if useE next l n now = 0 then (next, useL l n, 0) else (0, [], useE next l n now)
theorem useF_ok {next : Int} {l : List NonR} {n now : Int} (h : useE next l n now = 0) : useF next l n now = (next, useL l n, 0) := by unfold useF; rw [if_pos h]
theorem useF_no {next : Int} {l : List NonR} {n now : Int} {e : Nat} (h : useE next l n now = e) (he : e ≠ 0) : useF next l n now = (0, [], e) := by unfold useF; rw [if_neg (by rw [h]; exact he), h]
def usePost (base : Nat) (r : Int × List NonR × Nat) (w : World) (e : Ending) (w' : World) : Prop :=
  ∃ A c, e = .returned (.tuple #[fenV r.1 r.2.1 A c, .int .i64 (r.2.2 : Nat)]) ∧ w'.ownsRow base 102 2 (.slice A r.2.1.length c) r.2.1.length (nonV r.2.1) ∧ Ext w w'
set_option maxRecDepth 100000 in
set_option maxHeartbeats 4000000 in
theorem Use_any (next : Int) (l : List NonR) (A : Option Addr) (c : Nat) (n now : Int) (hn : numP n) (w : World) (hw : NonsW w w.heap.size next l A c) :
    Calls Tryz.prog 46 #[fenV next l A c, .int .i64 n, .int .i64 now] w (usePost w.heap.size (useF next l n now) w) := by
  have c1 := fCheck_any next l A c
  have cT := time_any now
  unfold fenV at c1 ⊢
  obtain ⟨W0, e0, b0, b1, x0, s0⟩ := startP w #[.int .i64 next, .slice A l.length c] #[.int .i64 0, .slice none 0 0] 38 38
  have c2 := c1 W0 (hw.ext x0)
  obtain ⟨E, hE⟩ : ∃ E, fenN next l = E := ⟨_, rfl⟩
  rw [hE] at c2
  have cO : ∀ W, Calls Tryz.prog 90 #[.int .i64 now] W fun e w' => ∃ gb, e = .returned (.func (.func 125) #[] #[.pointer (some ⟨gb, 0, none⟩)]) ∧ w'.cell? ⟨gb, 0, none⟩ = some (.int .i64 now) ∧ Ext W w' := fun W =>
    (old_any now W).mono fun e w' ⟨h1, h2⟩ => ⟨_, h1, by rw [← h2]; exact (Blk.new W _ _).cell 0, by rw [← h2]; exact (Ext.refl W).alloc _⟩
  have cQ : ∀ (x : NonR) (gb : Nat) W, World.cell? W ⟨gb, 0, none⟩ = some (.int .i64 now) → Calls Tryz.prog 125 #[.agg #[.int .i64 x.n, .int .i64 x.u], .pointer (some ⟨gb, 0, none⟩)] W _ := fun x gb W h => old1_any x now gb W h
  clear c1
  by_cases h0 : E = 0
  case neg =>
    rw [show useF next l n now = (0, [], E) from useF_no (by unfold useE; rw [if_pos (by rw [hE]; exact h0), hE]) h0]
    have k0 : ((E : Int) != 0) = true := by simp; omega
    subst e0
    have B1 := Lib.hid b1
    have X0 := Lib.hid x0
    clear hw hE h0 b0 b1 x0 hn cT s0
    go_enter Tryz.func46, Tryz.ntmps46
    go_wp2_with (go_at_call 62; refine c2.mono ?_; clear c2; rintro e w1 ⟨rfl, x1⟩; have b2 := ext_blk x1 B1.out; obtain ⟨q0, q1⟩ := two b2; have f0 := b2.frozen 0; have f1 := b2.frozen 1; have BB := Lib.hid ((b2.set_ 0 (.int .i64 0)).set_ 1 (.slice none 0 0)); clear b2)
    obtain ⟨r0, r1⟩ := two BB.out
    refine bodyPost_ret (v := .tuple #[.agg #[.int .i64 0, .slice none 0 0], .int .i64 (E : Int)]) (by simp [results, Tryz.results46, go_sem, r0, r1]) rfl ⟨none, 0, rfl, World.ownsRow_nil _ _ _ _, ((X0.out.trans x1).setCell (by simp) _).setCell (by simp) _⟩
  subst h0
  obtain ⟨hp, hb, hnx, hu⟩ := fen_pair hE
  by_cases h1 : numP now
  case neg =>
    rw [show useF next l n now = (0, [], 1) from useF_no (by unfold useE; rw [if_neg (by rw [hE]; simp), if_pos (by simpa using h1)]) (by decide)]
    rw [decide_eq_false h1] at cT
    subst e0
    have B1 := Lib.hid b1
    have X0 := Lib.hid x0
    clear hw hE b0 b1 x0 hn s0 h1 hp hb hnx hu
    go_enter Tryz.func46, Tryz.ntmps46
    go_wp2_with (first
      | (go_at_call 62; refine c2.mono ?_; clear c2; rintro e w1 ⟨rfl, x1⟩; have b2 := ext_blk x1 B1.out; obtain ⟨q0, q1⟩ := two b2; have f0 := b2.frozen 0; have f1 := b2.frozen 1; have BB := Lib.hid ((b2.set_ 0 (.int .i64 0)).set_ 1 (.slice none 0 0)); clear b2)
      | (go_at_call 87; refine (cT _).mono ?_; clear cT; rintro e w2 ⟨rfl, rfl⟩))
    obtain ⟨r0, r1⟩ := two BB.out
    refine bodyPost_ret (v := .tuple #[.agg #[.int .i64 0, .slice none 0 0], .int .i64 1]) (by simp [results, Tryz.results46, go_sem, r0, r1]) rfl ⟨none, 0, rfl, World.ownsRow_nil _ _ _ _, ((X0.out.trans x1).setCell (by simp) _).setCell (by simp) _⟩
  rw [decide_eq_true h1] at cT
  have cB := fun W h => bsearch_any n hn l hw.len hp hb A c W h
  have HW := Lib.hid hw
  have HX : Hid (∀ W, Ext W0 W → Reads W W.heap.size 2 A l.length (nonV l) ∧ Blk W w.heap.size 38 #[.int .i64 next, .slice A l.length c] ∧ Blk W (w.heap.size + 1) 38 #[.int .i64 0, .slice none 0 0] ∧ Ext w W) := Lib.hid fun W x => ⟨(hw.ext (x0.trans x)).lst, ext_blk x b0, ext_blk x b1, x0.trans x⟩
  by_cases h2 : ∃ x ∈ l, x.n = n ∧ now ≤ x.u
  case neg =>
    rw [show useF next l n now = (0, [], 210) from useF_no (by unfold useE; rw [if_neg (by rw [hE]; simp), if_neg (by simpa using h1), if_neg h2]) (by decide)]
    have H2 := Lib.hid h2
    subst e0
    clear hw hE b0 b1 x0 hn s0 h1 hp hb hnx hu h2
    go_enter Tryz.func46, Tryz.ntmps46
    go_wp2_with (first
      | (go_at_call 62; refine c2.mono ?_; clear c2; rintro e w1 ⟨rfl, x1⟩; obtain ⟨hr, b2, b3, x2⟩ := HX.out _ x1; obtain ⟨m0, m1⟩ := two b2; clear b2 b3 x2; have HR := Lib.hid hr; clear hr)
      | (go_at_call 87; refine (cT _).mono ?_; clear cT; rintro e w2 ⟨rfl, rfl⟩)
      | (go_at_call 88; refine (cB _ HR.out).mono ?_; clear cB; rintro e w3 ⟨i, b, rfl, hy, hno, x3⟩; have HY := Lib.hid hy; clear hy hno; have x4 := x1.trans x3; have n0 := x3.cell m0; have n1 := x3.cell m1; clear m0 m1))
    obtain ⟨hr, b2, b3, x2⟩ := HX.out _ x4
    have f0 := b3.frozen 0
    have f1 := b3.frozen 1
    have y0 := b3.cell 0
    have y1 := b3.cell 1
    have B3 := Lib.hid b3
    have X2 := Lib.hid x2
    clear b2 b3 x2
    cases b with
    | false =>
      clear hr HY
      go_quiet (fail)
      have BB := Lib.hid (((B3.out.drewN nq).set_ 0 (.int .i64 0)).set_ 1 (.slice none 0 0))
      go_wp2
      obtain ⟨r0, r1⟩ := two BB.out
      refine bodyPost_ret (v := .tuple #[.agg #[.int .i64 0, .slice none 0 0], .int .i64 210]) (by simp [results, Tryz.results46, go_sem, r0, r1]) rfl ⟨none, 0, rfl, World.ownsRow_nil _ _ _ _, ((X2.out.drewN _).setCell (by simp) _).setCell (by simp) _⟩
    | true =>
      obtain ⟨x, hx, hxn⟩ := HY.out rfl
      obtain ⟨ad, rfl, hlt, q0, q1⟩ := reads_non hr hx
      have hil : (i : Int) < (l.length : Int) := by have := (List.getElem?_eq_some_iff.1 hx).1; omega
      have hold : x.u < now := Decidable.byContradiction fun h => H2.out ⟨x, List.mem_of_getElem? hx, hxn, by omega⟩
      have cq := cQ x
      rw [decide_eq_true hold] at cq
      have HH := Lib.hid fun (W : World) (x : Ext w3 W) => And.intro (x.cell n0) (And.intro (x.cell n1) (And.intro (x.cell q0) (And.intro (x.cell q1) (ext_blk x B3.out))))
      have XX := (Ext.refl w3).drew
      clear hr HY hx hxn hlt hold cQ
      go_region_held3 (fun w' => w'.cell? ⟨w.heap.size, 0, none⟩ = some (.int .i64 next) ∧ w'.cell? ⟨w.heap.size, 1, none⟩ = some (.slice (some ad) l.length c) ∧ w'.cell? (ad.add (i * 2)) = some (.int .i64 x.n) ∧ w'.cell? ⟨(ad.add (i * 2)).block, (ad.add (i * 2)).off + 1, none⟩ = some (.int .i64 x.u)) (first | exact ⟨n0, n1, q0, q1⟩ | go_keep) (first
        | (go_at_call 90; refine (cO _).mono ?_; clear cO; rintro e w4 ⟨gb, rfl, hg, x5⟩; have y5 := XX.trans x5; obtain ⟨a0, a1, a2, a3, -⟩ := HH.out _ y5)
        | (go_at_call 125; refine (cq gb _ hg).mono ?_; clear cq; rintro e w5 ⟨rfl, x6⟩; have y6 := y5.trans x6; obtain ⟨e0, e1, e2, e3, b6⟩ := HH.out _ y6; obtain ⟨d0, d1⟩ := two b6; have f0 := b6.frozen 0; have f1 := b6.frozen 1; have BB := Lib.hid ((b6.set_ 0 (.int .i64 0)).set_ 1 (.slice none 0 0)); clear b6))
      go_wp2
      obtain ⟨r0, r1⟩ := two BB.out
      refine bodyPost_ret (v := .tuple #[.agg #[.int .i64 0, .slice none 0 0], .int .i64 210]) (by simp [results, Tryz.results46, go_sem, r0, r1]) rfl ⟨none, 0, rfl, World.ownsRow_nil _ _ _ _, ((X2.out.trans y6).setCell (by simp) _).setCell (by simp) _⟩
  have hR : useF next l n now = (next, useL l n, 0) := useF_ok (by unfold useE; rw [if_neg (by rw [hE]; simp), if_neg (by simpa using h1), if_pos h2])
  rw [hR]
  have cC := fun W h => cloneN_any A l.length c (nonV l) (nonV_one l) hw.len W h
  have HP := Lib.hid hp
  have H2 := Lib.hid h2
  have HL := Lib.hid hw.len
  subst e0
  clear hw hE b0 b1 x0 hn s0 h1 hp hb hnx hu h2 hR
  go_enter Tryz.func46, Tryz.ntmps46
  go_wp2_with (first
    | (go_at_call 62; refine c2.mono ?_; clear c2; rintro e w1 ⟨rfl, x1⟩; obtain ⟨hr, b2, b3, x2⟩ := HX.out _ x1; obtain ⟨m0, m1⟩ := two b2; clear b2 b3 x2; have HR := Lib.hid hr; clear hr)
    | (go_at_call 87; refine (cT _).mono ?_; clear cT; rintro e w2 ⟨rfl, rfl⟩)
    | (go_at_call 88; refine (cB _ HR.out).mono ?_; clear cB; rintro e w3 ⟨i, b, rfl, hy, hno, x3⟩; have HY := Lib.hid hy; have HNO := Lib.hid hno; clear hy hno; have x4 := x1.trans x3; have n0 := x3.cell m0; have n1 := x3.cell m1; clear m0 m1))
  cases b with
  | false =>
    obtain ⟨x, hx, hxn, -⟩ := H2.out
    exact absurd hxn (HNO.out rfl x hx)
  | true =>
    obtain ⟨x, hx, hxn⟩ := HY.out rfl
    obtain ⟨hr, b2, b3, x2⟩ := HX.out _ x4
    obtain ⟨q, hq⟩ : ∃ q, l.length = q + 1 := ⟨l.length - 1, by have := (List.getElem?_eq_some_iff.1 hx).1; omega⟩
    have hiq : i ≤ q := by have := (List.getElem?_eq_some_iff.1 hx).1; omega
    have hib : (i : Int) ≤ 1099511627776 := by have := HL.out; omega
    have hold : ¬ x.u < now := by
      obtain ⟨y, hy, hyn, hyu⟩ := H2.out
      obtain ⟨a1, rfl⟩ := List.getElem?_eq_some_iff.1 hx
      obtain ⟨k, hk, rfl⟩ := List.getElem_of_mem hy
      rcases Nat.lt_trichotomy k i with h | rfl | h
      · have := List.pairwise_iff_getElem.1 HP.out k i hk a1 h; omega
      · omega
      · have := List.pairwise_iff_getElem.1 HP.out i k a1 hk h; omega
    have he := useL_erase HP.out hx
    rw [hxn] at he
    have hlen : (useL l n).length = q := by rw [he, List.length_eraseIdx_of_lt (by omega)]; omega
    have HE := Lib.hid he
    have HLEN := Lib.hid hlen
    obtain ⟨ad, rfl, hlt, q0, q1⟩ := reads_non hr hx
    have hil : (i : Int) < (l.length : Int) := by omega
    have cq := cQ x
    rw [decide_eq_false hold] at cq
    have HH := Lib.hid fun (W : World) (x : Ext w3 W) => And.intro (x.cell n0) (And.intro (x.cell n1) (And.intro (x.cell q0) (x.cell q1)))
    have XX := (Ext.refl w3).drew
    have cD := fun (g cap : Nat) (base : Nat) (W : World) h1 h2 => delete_any l i q hq hiq HL.out g cap base W h1 h2
    have HQ := Lib.hid hq
    have HIQ := Lib.hid hiq
    clear hr HY hx hxn hlt hold cQ b2 b3 x2 he hlen hq hiq
    go_region_held3 (fun w' => w'.cell? ⟨w.heap.size, 0, none⟩ = some (.int .i64 next) ∧ w'.cell? ⟨w.heap.size, 1, none⟩ = some (.slice (some ad) l.length c) ∧ w'.cell? (ad.add (i * 2)) = some (.int .i64 x.n) ∧ w'.cell? ⟨(ad.add (i * 2)).block, (ad.add (i * 2)).off + 1, none⟩ = some (.int .i64 x.u)) (first | exact ⟨n0, n1, q0, q1⟩ | go_keep) (first
      | (go_at_call 90; refine (cO _).mono ?_; clear cO; rintro e w4 ⟨gb, rfl, hg, x5⟩; have y5 := XX.trans x5; obtain ⟨a0, a1, a2, a3⟩ := HH.out _ y5)
      | (go_at_call 125; refine (cq gb _ hg).mono ?_; clear cq; rintro e w5 ⟨rfl, x6⟩; have y6 := x4.trans (y5.trans x6); obtain ⟨hr, b6, b7, z6⟩ := HX.out _ y6; obtain ⟨d0, d1⟩ := two b6; have HR6 := Lib.hid hr; obtain ⟨-, -, a4, a5⟩ := HH.out _ (y5.trans x6); clear b6 b7 hr z6))
    go_wp2_with (first
      | (go_at_call 92; refine (cC _ HR6.out).mono ?_; clear cC; rintro e w7 ⟨v, rfl, ho, x7⟩; obtain ⟨g, cap, rfl, hgb, hgl⟩ := ho.form (by have := HQ.out; omega); have ho2 := ho; rw [HQ.out] at ho2; have HO := Lib.hid ho2; clear ho ho2; have HS7 := Lib.hid x7.size; rw [HQ.out])
      | (go_at_call 91; refine (cD _ _ _ _ HS7.out HO.out).mono ?_; clear cD; rintro e w8 ⟨A8, c8, rfl, ho8, hb8⟩; have y8 := y6.trans (Ext.of (x7.out.trans hb8)); obtain ⟨-, b8, b9, z8⟩ := HX.out _ y8; obtain ⟨d0, d1⟩ := two b8; have f0 := b8.frozen 0; have f1 := b8.frozen 1; have f2 := b9.frozen 0; have f3 := b9.frozen 1; have e0 := b9.cell 0; have e1 := b9.cell 1; have BB := Lib.hid b8; have BB3 := Lib.hid b9; clear b8 b9; have Z8 := Lib.hid z8; clear z8; have OW := Lib.hid ho8; clear ho8))
    have BF := ((BB3.out.far (p := ⟨w.heap.size, 1, none⟩) (by simp) (.slice A8 q c8)).set_ 0 (.int .i64 next)).set_ 1 (.slice A8 q c8)
    obtain ⟨r0, r1⟩ := two BF
    have hs2 : w.heap.size + 2 ≤ w5.heap.size := by have := y6.size; simp at this; omega
    have o9 := own_far (own_far (own_far OW.out (g := w.heap.size) (by omega) 1 (.slice A8 q c8)) (g := w.heap.size + 1) (by omega) 0 (.int .i64 next)) (g := w.heap.size + 1) (by omega) 1 (.slice A8 q c8)
    rw [← HE.out] at o9
    refine bodyPost_ret (v := .tuple #[.agg #[.int .i64 next, .slice A8 q c8], .int .i64 0]) (by simp [results, Tryz.results46, go_sem, r0, r1]) rfl ⟨A8, c8, ?_, ?_, ((Z8.out.setCell (p := ⟨w.heap.size, 1, none⟩) (Nat.le_refl _) _).setCell (p := ⟨w.heap.size + 1, 0, none⟩) (by simp) _).setCell (p := ⟨w.heap.size + 1, 1, none⟩) (by simp) _⟩
    · unfold fenV; simp only; rw [HLEN.out]; rfl
    · simp only
      rw [HLEN.out]
      exact own_base o9 (by omega)
end Go.Proofs.YtbhdmfijdhcehaaGreatDoor

/- Nonces, walked: Tell. -/
namespace Go.Proofs.YtbhdmfijdhcehaaGreatDoor
set_option linter.unusedVariables false
set_option linter.unusedSimpArgs false
open Go.RowKit Go.Shelf Go.Maps

theorem cell_two_at (W : World) (g : Nat) (hg : W.heap.size = g) (x y : Value) (t : TypeId) : ∀ j u, [x, y][j]? = some u → (W.alloc (.cells #[x, y] t)).cell? ((⟨g, 0, none⟩ : Addr).add j) = some u := by subst hg; exact cell_two_new W x y t
/-- The outcome of telling one. -/
def tellR (next : Int) (l : List NonR) (now : Int) : Int × List NonR × Int × Nat := if tellE next l now 20 = 0 then (next + 1, tellL next l now 20, next, 0) else (0, [], 0, tellE next l now 20)
theorem tellR_ok {next : Int} {l : List NonR} {now : Int} (h : tellE next l now 20 = 0) : tellR next l now = (next + 1, tellL next l now 20, next, 0) := by unfold tellR; rw [if_pos h]
theorem tellR_no {next : Int} {l : List NonR} {now : Int} {e : Nat} (h : tellE next l now 20 = e) (he : e ≠ 0) : tellR next l now = (0, [], 0, e) := by unfold tellR; rw [if_neg (by rw [h]; exact he), h]
theorem fen_wf {next : Int} {l : List NonR} (h : fenN next l = 0) : wf64 next ∧ l.length ≤ 1099511627776 ∧ ∀ x ∈ l, wf64 x.n ∧ wf64 x.u := by
  obtain ⟨⟨h1, h2, h3⟩, h4⟩ := fenN_zero.1 h
  refine ⟨wf64_of (by have := h3.1; omega) (by have := h3.2; omega), by omega, fun x hx => ?_⟩
  obtain ⟨g1, g2, g3, g4⟩ := h2 x hx
  exact ⟨wf64_of (by omega) (by have := h3.2; omega), wf64_of (by omega) (by omega)⟩
theorem nons_own {w : World} {base : Nat} {next : Int} {l : List NonR} {A : Option Addr} {c : Nat} (ho : w.ownsRow base 102 2 (.slice A l.length c) l.length (nonV l)) (h : fenN next l = 0) : NonsW w w.heap.size next l A c := by
  obtain ⟨A', c', e, hc, hr⟩ := own_slice2 ho
  cases e
  obtain ⟨h1, h2, h3⟩ := fen_wf h
  exact ⟨h1, hr, hc, h2, h3⟩
theorem nons_nil (w : World) (B : Nat) : NonsW w B 0 [] none 0 := ⟨wf64_of (by omega) (by omega), Reads.none_, by simp, by simp, by simp⟩
theorem fenN_use {next : Int} {l : List NonR} {n now : Int} : fenN (useF next l n now).1 (useF next l n now).2.1 = 0 := by
  unfold useF
  split
  · next h => exact fenN_sub (useE_zero h).1 (useL_sub l n)
  · show fenN 0 [] = 0
    decide
def tellPost (r : Int × List NonR × Int × Nat) (w : World) (e : Ending) (w' : World) : Prop :=
  ∃ A c, e = .returned (.tuple #[fenV r.1 r.2.1 A c, .int .i64 r.2.2.1, .int .i64 (r.2.2.2 : Nat)]) ∧ w'.ownsRow w.heap.size 102 2 (.slice A r.2.1.length c) r.2.1.length (nonV r.2.1) ∧ Ext w w'
set_option maxRecDepth 100000 in
set_option maxHeartbeats 4000000 in
theorem Tell_any (next : Int) (l : List NonR) (A : Option Addr) (c : Nat) (now : Int) (w : World) (hw : NonsW w w.heap.size next l A c) :
    Calls Tryz.prog 70 #[fenV next l A c, .int .i64 now, .int .i64 20] w (tellPost (tellR next l now) w) := by
  have c1 := fCheck_any next l A c
  have cT := time_any now
  have cR := fun W h => Trim_any next l A c now W h
  unfold fenV at c1 cR ⊢
  obtain ⟨W0, e0, b0, b1, x0, s0⟩ := startP w #[.int .i64 next, .slice A l.length c] #[.int .i64 0, .slice none 0 0] 38 38
  have c2 := c1 W0 (hw.ext x0)
  obtain ⟨E, hE⟩ : ∃ E, fenN next l = E := ⟨_, rfl⟩
  rw [hE] at c2
  clear c1
  by_cases h0 : E = 0
  case neg =>
    rw [show tellR next l now = (0, [], 0, E) from tellR_no (by unfold tellE; rw [if_pos (by rw [hE]; exact h0), hE]) h0]
    have k0 : ((E : Int) != 0) = true := by simp; omega
    subst e0
    have B1 := Lib.hid b1
    have X0 := Lib.hid x0
    clear hw hE h0 b0 b1 x0 cT s0 cR
    go_enter Tryz.func70, Tryz.ntmps70
    go_wp2_with (go_at_call 62; refine c2.mono ?_; clear c2; rintro e w1 ⟨rfl, x1⟩; have b2 := ext_blk x1 B1.out; obtain ⟨q0, q1⟩ := two b2; have f0 := b2.frozen 0; have f1 := b2.frozen 1; have BB := Lib.hid ((b2.set_ 0 (.int .i64 0)).set_ 1 (.slice none 0 0)); clear b2)
    obtain ⟨r0, r1⟩ := two BB.out
    refine bodyPost_ret (v := .tuple #[.agg #[.int .i64 0, .slice none 0 0], .int .i64 0, .int .i64 (E : Int)]) (by simp [results, Tryz.results70, go_sem, r0, r1]) rfl ⟨none, 0, rfl, World.ownsRow_nil _ _ _ _, ((X0.out.trans x1).setCell (by simp) _).setCell (by simp) _⟩
  subst h0
  obtain ⟨hp, hb, hnx, hu⟩ := fen_pair hE
  have HB1 := Lib.hid b1
  have HB0 := Lib.hid b0
  have HX0 := Lib.hid x0
  by_cases h1 : numP now
  case neg =>
    rw [show tellR next l now = (0, [], 0, 1) from tellR_no (by unfold tellE; rw [if_neg (by rw [hE]; simp), if_pos (by simp [h1])]) (by decide)]
    rw [decide_eq_false h1] at cT
    subst e0
    clear hw hE b0 b1 x0 s0 h1 hp hb hnx hu cR
    go_enter Tryz.func70, Tryz.ntmps70
    go_wp2_with (first
      | (go_at_call 62; refine c2.mono ?_; clear c2; rintro e w1 ⟨rfl, x1⟩; have b2 := ext_blk x1 HB1.out; obtain ⟨q0, q1⟩ := two b2; have f0 := b2.frozen 0; have f1 := b2.frozen 1; have BB := Lib.hid ((b2.set_ 0 (.int .i64 0)).set_ 1 (.slice none 0 0)); clear b2)
      | (go_at_call 87; refine (cT _).mono ?_; clear cT; rintro e w2 ⟨rfl, rfl⟩))
    obtain ⟨r0, r1⟩ := two BB.out
    refine bodyPost_ret (v := .tuple #[.agg #[.int .i64 0, .slice none 0 0], .int .i64 0, .int .i64 1]) (by simp [results, Tryz.results70, go_sem, r0, r1]) rfl ⟨none, 0, rfl, World.ownsRow_nil _ _ _ _, ((HX0.out.trans x1).setCell (by simp) _).setCell (by simp) _⟩
  rw [decide_eq_true h1] at cT
  by_cases h2 : 1099511627776 - now < 20
  · rw [show tellR next l now = (0, [], 0, 1) from tellR_no (by unfold tellE; rw [if_neg (by rw [hE]; simp), if_pos (.inr (.inr h2))]) (by decide)]
    have n0 := h1.1
    have n1 := h1.2
    have k2 : decide (1099511627776 - now < 20) = true := decide_eq_true h2
    subst e0
    clear hw hE b0 b1 x0 s0 h1 hp hb hnx hu cR h2
    go_enter Tryz.func70, Tryz.ntmps70
    go_wp2_with (first
      | (go_at_call 62; refine c2.mono ?_; clear c2; rintro e w1 ⟨rfl, x1⟩; have b2 := ext_blk x1 HB1.out; obtain ⟨q0, q1⟩ := two b2; have f0 := b2.frozen 0; have f1 := b2.frozen 1; have BB := Lib.hid ((b2.set_ 0 (.int .i64 0)).set_ 1 (.slice none 0 0)); clear b2)
      | (go_at_call 87; refine (cT _).mono ?_; clear cT; rintro e w2 ⟨rfl, rfl⟩))
    obtain ⟨r0, r1⟩ := two BB.out
    refine bodyPost_ret (v := .tuple #[.agg #[.int .i64 0, .slice none 0 0], .int .i64 0, .int .i64 1]) (by simp [results, Tryz.results70, go_sem, r0, r1]) rfl ⟨none, 0, rfl, World.ownsRow_nil _ _ _ _, ((HX0.out.trans x1).setCell (by simp) _).setCell (by simp) _⟩
  have n0 := h1.1
  have n1 := h1.2
  have k2 : decide (1099511627776 - now < 20) = false := decide_eq_false h2
  obtain ⟨m, hm⟩ : ∃ m, m = (trimF l now).length := ⟨_, rfl⟩
  have cR2 : ∀ W, Ext W0 W → Calls Tryz.prog 115 #[.agg #[.int .i64 next, .slice A l.length c], .int .i64 now] W fun e w' => ∃ A' c', e = .returned (.agg #[.int .i64 next, .slice A' m c']) ∧ w'.ownsRow W0.heap.size 102 2 (.slice A' m c') m (nonV (trimF l now)) ∧ Ext W w' := fun W x => by
    rw [hm]
    exact (cR W (hw.ext (x0.trans x))).mono fun e w' ⟨A', c', g1, g2, g3⟩ => ⟨A', c', g1, own_base g2 x.size, g3⟩
  have hmb : m ≤ 64 := by have := (trimF_sub l now).length_le; have := (fenN_zero.1 hE).2; omega
  have HXW : Hid (∀ W, Ext W0 W → Ext w W) := Lib.hid fun W x => x0.trans x
  have HS0 := Lib.hid s0
  by_cases h3 : m = 64 ∨ next = 1099511627776
  · have hR : tellR next l now = (0, [], 0, 2) := tellR_no (by unfold tellE; rw [if_neg (by rw [hE]; simp), if_neg (by rintro (h | h | h) <;> first | exact h h1 | omega), ← hm, if_pos h3]) (by decide)
    rw [hR]
    clear hR hmb
    by_cases h4 : m = 64
    · have k4 : ((m : Int) == 64) = true := by rw [h4]; rfl
      have HM := Lib.hid hm
      subst e0
      clear hw hE b0 b1 x0 s0 h1 hp hb hnx hu cR h2 hm h3 h4
      go_enter Tryz.func70, Tryz.ntmps70
      go_wp2_with (first
        | (go_at_call 62; refine c2.mono ?_; clear c2; rintro e w1 ⟨rfl, x1⟩; obtain ⟨m0, m1⟩ := two (ext_blk x1 HB0.out))
        | (go_at_call 87; refine (cT _).mono ?_; clear cT; rintro e w2 ⟨rfl, rfl⟩)
        | (go_at_call 115; refine (cR2 _ x1).mono ?_; clear cR2; rintro e w3 ⟨A3, c3, rfl, ho3, x3⟩; have b2 := ext_blk (x1.trans x3) HB1.out; obtain ⟨q0, q1⟩ := two b2; have f0 := b2.frozen 0; have f1 := b2.frozen 1; have BB := Lib.hid ((((b2.set_ 0 (.int .i64 next)).set_ 1 (.slice A3 m c3)).set_ 0 (.int .i64 0)).set_ 1 (.slice none 0 0)); clear b2 ho3))
      obtain ⟨r0, r1⟩ := two BB.out
      refine bodyPost_ret (v := .tuple #[.agg #[.int .i64 0, .slice none 0 0], .int .i64 0, .int .i64 2]) (by simp [results, Tryz.results70, go_sem, r0, r1]) rfl ⟨none, 0, rfl, World.ownsRow_nil _ _ _ _, ((((HX0.out.trans (x1.trans x3)).setCell (by simp) _).setCell (by simp) _).setCell (by simp) _).setCell (by simp) _⟩
    · have k4 : ((m : Int) == 64) = false := by rw [beq_eq_false_iff_ne]; omega
      have k5 : (next == 1099511627776) = true := by rw [beq_iff_eq]; omega
      have HM := Lib.hid hm
      subst e0
      clear hw hE b0 b1 x0 s0 h1 hp hb hnx hu cR h2 hm h3 h4
      go_enter Tryz.func70, Tryz.ntmps70
      go_wp2_with (first
        | (go_at_call 62; refine c2.mono ?_; clear c2; rintro e w1 ⟨rfl, x1⟩; obtain ⟨m0, m1⟩ := two (ext_blk x1 HB0.out))
        | (go_at_call 87; refine (cT _).mono ?_; clear cT; rintro e w2 ⟨rfl, rfl⟩)
        | (go_at_call 115; refine (cR2 _ x1).mono ?_; clear cR2; rintro e w3 ⟨A3, c3, rfl, ho3, x3⟩; have b2 := ext_blk (x1.trans x3) HB1.out; obtain ⟨q0, q1⟩ := two b2; have f0 := b2.frozen 0; have f1 := b2.frozen 1; have BB := Lib.hid ((((b2.set_ 0 (.int .i64 next)).set_ 1 (.slice A3 m c3)).set_ 0 (.int .i64 0)).set_ 1 (.slice none 0 0)); clear b2 ho3))
      obtain ⟨r0, r1⟩ := two BB.out
      refine bodyPost_ret (v := .tuple #[.agg #[.int .i64 0, .slice none 0 0], .int .i64 0, .int .i64 2]) (by simp [results, Tryz.results70, go_sem, r0, r1]) rfl ⟨none, 0, rfl, World.ownsRow_nil _ _ _ _, ((((HX0.out.trans (x1.trans x3)).setCell (by simp) _).setCell (by simp) _).setCell (by simp) _).setCell (by simp) _⟩
  · have hT : tellE next l now 20 = 0 := by unfold tellE; rw [if_neg (by rw [hE]; simp), if_neg (by rintro (h | h | h) <;> first | exact h h1 | omega), ← hm, if_neg h3]
    rw [tellR_ok hT]
    have hF := tell_fen hT
    have k4 : ((m : Int) == 64) = false := by rw [beq_eq_false_iff_ne]; omega
    have k5 : (next == 1099511627776) = false := by rw [beq_eq_false_iff_ne]; omega
    have k6 := hnx.1
    have k7 := hnx.2
    have HM := Lib.hid hm
    have HF := Lib.hid hF
    obtain ⟨i0, hi, hz0, hz1, hz2⟩ := info_parts Tryz.infoNon
    subst e0
    clear hw hE b0 b1 x0 s0 h1 hp hb hnx hu cR h2 hm h3 hT hF
    go_enter Tryz.func70, Tryz.ntmps70
    go_wp2_with (first
      | (go_at_call 62; refine c2.mono ?_; clear c2; rintro e w1 ⟨rfl, x1⟩; obtain ⟨m0, m1⟩ := two (ext_blk x1 HB0.out))
      | (go_at_call 87; refine (cT _).mono ?_; clear cT; rintro e w2 ⟨rfl, rfl⟩)
      | (go_at_call 115; refine (cR2 _ x1).mono ?_; clear cR2; rintro e w3 ⟨A3, c3, rfl, ho3, x3⟩; have b2 := ext_blk (x1.trans x3) HB1.out; obtain ⟨q0, q1⟩ := two b2; have f0 := b2.frozen 0; have f1 := b2.frozen 1; have BB := Lib.hid ((b2.set_ 0 (.int .i64 next)).set_ 1 (.slice A3 m c3)); have O4 := Lib.hid (own_base (own_far (own_far ho3 (g := w.heap.size + 1) (by simp) 0 (.int .i64 next)) (g := w.heap.size + 1) (by simp) 1 (.slice A3 m c3)) (base' := w.heap.size + 2) (by simp)); have HSZ := Lib.hid (show w.heap.size + 2 ≤ w3.heap.size by have g1 := x1.size; have g2 := x3.size; simp at g1; omega); clear b2 ho3)
      | (at_builtin; refine wpList_append_own _ rfl (.tmp 46) (.tmp 52) 36 rfl (w.heap.size + 2) 102 i0 (.agg #[.int .i64 0, .int .i64 0]) 2 16 Tryz.underlying36 hi hz0 hz1 hz2 rfl (by decide) _ _ _ rfl (O4.out.alloc _) ⟨w3.heap.size, 0, none⟩ 1 1 [.int .i64 next, .int .i64 (now + 20)] rfl rfl (cell_two_at _ _ (by simp) _ _ _) (by simp [Value.oneCell']) (by simp only [maxLen]; omega) (by omega) (by have := HSZ.out; simp; omega) ?_; intro v7 w7 hown7 hg7 _; obtain ⟨A7, c7, rfl, hc7, -⟩ := own_slice2 hown7; have b7 := (BB.out.alloc (.cells #[.int .i64 next, .int .i64 (now + 20)] 102)).grown hg7 (fun e => by have := own_out O4.out _ e.symm; omega); obtain ⟨d0, d1⟩ := two b7; have f2 := b7.frozen 0; have f3 := b7.frozen 1; have B7 := Lib.hid ((((b7.set_ 1 (.slice A7 (m + 1) c7)).set_ 0 (.int .i64 (next + 1))).set_ 0 (.int .i64 (next + 1))).set_ 1 (.slice A7 (m + 1) c7)); have HG7 := Lib.hid hg7; have O7 := Lib.hid hown7; clear hown7 hg7 b7))
    obtain ⟨r0, r1⟩ := two B7.out
    have hlen : (tellL next l now 20).length = m + 1 := by unfold tellL; rw [List.length_append, ← HM.out]; rfl
    have hv : nonV (trimF l now) ++ [.int .i64 next, .int .i64 (now + 20)] = nonV (tellL next l now 20) := by unfold tellL; rw [nonV_append]; rfl
    have hx4 := ((HX0.out.trans (x1.trans x3)).setCell (p := ⟨w.heap.size + 1, 0, none⟩) (by simp) (.int .i64 next)).setCell (p := ⟨w.heap.size + 1, 1, none⟩) (by simp) (.slice A3 m c3)
    have hx7 := ext_grown (hx4.alloc (.cells #[.int .i64 next, .int .i64 (now + 20)] 102)) (own_base (O4.out.alloc _) (by omega)) HG7.out
    have o7 := O7.out
    rw [hv] at o7
    have o8 := own_far (own_far (own_far (own_far o7 (g := w.heap.size + 1) (by omega) 1 (.slice A7 (m + 1) c7)) (g := w.heap.size + 1) (by omega) 0 (.int .i64 (next + 1))) (g := w.heap.size + 1) (by omega) 0 (.int .i64 (next + 1))) (g := w.heap.size + 1) (by omega) 1 (.slice A7 (m + 1) c7)
    refine bodyPost_ret (v := .tuple #[.agg #[.int .i64 (next + 1), .slice A7 (m + 1) c7], .int .i64 next, .int .i64 0]) (by simp [results, Tryz.results70, go_sem, r0, r1]) rfl ⟨A7, c7, ?_, ?_, (((hx7.setCell (p := ⟨w.heap.size + 1, 1, none⟩) (by simp) _).setCell (p := ⟨w.heap.size + 1, 0, none⟩) (by simp) _).setCell (p := ⟨w.heap.size + 1, 0, none⟩) (by simp) _).setCell (p := ⟨w.heap.size + 1, 1, none⟩) (by simp) _⟩
    · unfold fenV; simp only; rw [hlen]; rfl
    · simp only
      rw [hlen]
      exact own_base o8 (by omega)
end Go.Proofs.YtbhdmfijdhcehaaGreatDoor

/- The door, walked: numbers, what may be ordered, tokens, whether there is an account. -/
namespace Go.Proofs.YtbhdmfijdhcehaaGreatDoor
set_option linter.unusedVariables false
set_option linter.unusedSimpArgs false
open Go.RowKit Go.Shelf Go.Maps

theorem onum_any (n : Int) (w : World) : Calls Tryz.prog 42 #[.int .i64 n] w fun e w' => e = .returned (.bool (decide (numP n))) ∧ w = w' := by
  go_enter Tryz.func42, Tryz.ntmps42
  by_cases h1 : 0 ≤ n <;> by_cases h2 : n ≤ 1099511627776
  all_goals
    go_wp2
    go_ret
    exact ⟨ret_bool (by rw [eq_comm]; first | exact decide_eq_true (by unfold numP; omega) | exact decide_eq_false (by unfold numP; omega)), rfl⟩
/-! ### texts among texts -/
theorem str_beq_false {x s : ByteArray} (h : x ≠ s) : (x.toList == s.toList) = false := by
  rw [beq_eq_false_iff_ne]; intro e; apply h
  rw [ByteArray.toList_eq, ByteArray.toList_eq] at e
  exact ByteArray.ext (Array.toList_inj.1 e)
theorem str_beq_true {x s : ByteArray} (h : x = s) : (x.toList == s.toList) = true := by rw [h]; simp
def memB (x : ByteArray) (l : List ByteArray) : Bool := l.any fun s => decide (x = s)
theorem memB_iff {x : ByteArray} {l : List ByteArray} : memB x l = true ↔ x ∈ l := by unfold memB; simp
theorem memB_yes {x : ByteArray} {l : List ByteArray} (h : x ∈ l) : memB x l = true := memB_iff.2 h
theorem memB_no {x : ByteArray} {l : List ByteArray} (h : x ∉ l) : memB x l = false := by
  cases e : memB x l with
  | false => rfl
  | true => exact absurd (memB_iff.1 e) h
theorem ixT_mem {l : List ByteArray} {x : ByteArray} : decide (0 ≤ ixG (fun s => decide (x = s)) l) = memB x l := by
  unfold ixG
  cases h : l.findIdx? fun s => decide (x = s) with
  | none =>
    have := List.findIdx?_eq_none_iff.1 h
    rw [decide_eq_false (by simp), memB_no]
    intro hm; have := this x hm; simp at this
  | some i =>
    obtain ⟨h1, h2, _⟩ := List.findIdx?_eq_some_iff_getElem.1 h
    rw [decide_eq_true (by simp), memB_yes]
    simp at h2; rw [h2]; exact List.getElem_mem h1
set_option maxRecDepth 100000 in
set_option maxHeartbeats 2000000 in
theorem indexT_any (l : List ByteArray) (hn : l.length ≤ 1099511627776) (x : ByteArray) (A : Option Addr) (c : Nat) (w : World) (hr : Reads w w.heap.size 1 A l.length (tv l)) :
    Calls Tryz.prog 146 #[.slice A l.length c, .string x] w fun e w' => e = .returned (.int .i64 (ixG (fun s => decide (x = s)) l)) ∧ w = w' := by
  have HR := Lib.hid hr
  have HN := Lib.hid hn
  clear hr hn
  go_enter Tryz.func146, Tryz.ntmps146
  go_wp2
  go_loopg [8] l.length (fun m s8 wr => ∃ j : Nat, j + m = l.length ∧ s8 = .int .i64 j ∧ (∀ s ∈ l.take j, x ≠ s) ∧ wr = w)
  case atStart => exact ⟨0, by omega, rfl, by simp, rfl⟩
  case round =>
    obtain ⟨j, hj, rfl, hok, rfl⟩ := hrel
    by_cases h : j < l.length
    · obtain ⟨s, hs⟩ : ∃ s, l[j]? = some s := ⟨_, List.getElem?_eq_getElem h⟩
      obtain ⟨ad, rfl, q0⟩ := reads_text HR.out hs
      have hjb : (j : Int) ≤ 1099511627776 := by have := HN.out; omega
      have e1 : l.take (j + 1) = l.take j ++ [s] := by rw [List.take_add_one, hs]; rfl
      by_cases hx : x = s
      · have kk : Hid (ixG (fun s => decide (x = s)) l = (j : Int)) := Lib.hid (by
          have : (l.findIdx? fun s => decide (x = s)) = some j := by
            rw [List.findIdx?_eq_some_iff_getElem]
            have hsg := (List.getElem?_eq_some_iff.1 hs).2
            refine ⟨h, by rw [hsg]; simp [hx], fun i hi => ?_⟩
            have := hok (l[i]'(by omega)) (List.mem_take_iff_getElem.2 ⟨i, by omega, rfl⟩)
            simp [this]
          unfold ixG; rw [this])
        have k1 := str_beq_true hx
        clear hj hs hok e1 hx
        go_wp2
        go_ret
        exact ⟨by rw [kk.out]; rfl, rfl⟩
      · have hok' : Hid (∀ s ∈ l.take (j + 1), x ≠ s) := Lib.hid fun r hr => by
          rw [e1] at hr
          rcases List.mem_append.1 hr with hr | hr
          · exact hok r hr
          · rw [List.mem_singleton] at hr; subst hr; exact hx
        have k1 := str_beq_false hx
        have HJ := Lib.hid hj
        clear hj hs hok e1 hx
        go_wp2
        have hj := HJ.out
        go_roundg (gk - 1)
        case measure => omega
        case rel => exact ⟨j + 1, by omega, int_congr (by omega), hok'.out, rfl⟩
    · obtain rfl : j = l.length := by omega
      rw [List.take_length] at hok
      have kk : Hid (ixG (fun s => decide (x = s)) l = -1) := Lib.hid (by
        have : (l.findIdx? fun s => decide (x = s)) = none := List.findIdx?_eq_none_iff.2 (fun s hs => by simp [hok s hs])
        unfold ixG; rw [this])
      clear hj h hok
      go_wp2
      go_ret
      exact ⟨by rw [kk.out]; rfl, rfl⟩
theorem containsT_any (l : List ByteArray) (hn : l.length ≤ 1099511627776) (x : ByteArray) (A : Option Addr) (c : Nat) (w : World) (hr : Reads w w.heap.size 1 A l.length (tv l)) :
    Calls Tryz.prog 124 #[.slice A l.length c, .string x] w fun e w' => e = .returned (.bool (memB x l)) ∧ w = w' := by
  have c1 := indexT_any l hn x A c w hr
  have e1 := ixT_mem (l := l) (x := x)
  obtain ⟨i, hi⟩ : ∃ i, i = ixG (fun s => decide (x = s)) l := ⟨_, rfl⟩
  rw [← hi] at c1 e1
  have E1 := Lib.hid e1
  clear hr hn hi e1
  go_enter Tryz.func124, Tryz.ntmps124
  go_wp2_with (go_at_call 146; refine c1.mono ?_; clear c1; rintro e w1 ⟨rfl, rfl⟩)
  go_ret
  exact ⟨ret_bool E1.out, rfl⟩

/-! ### what may be ordered -/
def namTo (l : List ByteArray) : Prop := (∀ s ∈ l, namP s) ∧ l.Nodup
theorem namTo_succ {l : List ByteArray} {j : Nat} {s : ByteArray} (h : l[j]? = some s) : namTo (l.take (j + 1)) ↔ namTo (l.take j) ∧ namP s ∧ s ∉ l.take j := by
  rw [take_snoc h]
  unfold namTo
  rw [List.nodup_append]
  constructor
  · rintro ⟨h1, h2, h3, h4⟩
    exact ⟨⟨fun x hx => h1 x (by simp [hx]), h2⟩, h1 s (by simp), fun hm => h4 s hm s (by simp) rfl⟩
  · rintro ⟨⟨h1, h2⟩, h3, h4⟩
    refine ⟨fun x hx => ?_, h2, by simp, fun a ha b hb => ?_⟩
    · rcases List.mem_append.1 hx with hx | hx
      · exact h1 x hx
      · rw [List.mem_singleton] at hx; subst hx; exact h3
    · rw [List.mem_singleton] at hb; subst hb; intro e; subst e; exact h4 ha
theorem namTo_not {l : List ByteArray} {k : Nat} (h : ¬ namTo (l.take k)) : ¬ namesP l := fun h' => h ⟨fun s hs => h'.1 s (List.mem_of_mem_take hs), h'.2.1.sublist (List.take_sublist _ _)⟩
theorem namesP_to {l : List ByteArray} : namesP l ↔ namTo l ∧ 0 < l.length ∧ l.length ≤ 8 := by unfold namesP namTo; exact ⟨fun ⟨a, b, c, d⟩ => ⟨⟨a, b⟩, c, d⟩, fun ⟨⟨a, b⟩, c, d⟩ => ⟨a, b, c, d⟩⟩
theorem tv_take (l : List ByteArray) (j : Nat) : (tv l).take j = tv (l.take j) := by simp [tv, List.map_take]
theorem Reads.head {w : World} {B n c : Nat} {A : Option Addr} {xs : List Value} (h : Reads w B 1 A n xs) {j : Nat} (hj : j ≤ n) : Reads w B 1 A j (xs.take j) := by
  refine ⟨by rw [List.length_take, h.1]; omega, fun h0 => ?_⟩
  obtain ⟨ad, e, hb, hc⟩ := h.2 (by omega)
  refine ⟨ad, e, hb, fun i u hu => hc i u ?_⟩
  rw [List.getElem?_take] at hu
  split at hu
  · exact hu
  · cases hu
set_option maxRecDepth 100000 in
set_option maxHeartbeats 4000000 in
theorem orderable_any (l : List ByteArray) (hn : l.length ≤ 1099511627776) (hs : ∀ s ∈ l, s.size ≤ 140737488355328) (A : Option Addr) (c : Nat) (hc : l.length ≤ c) (w : World) (hr : Reads w w.heap.size 1 A l.length (tv l)) :
    Calls Tryz.prog 85 #[.slice A l.length c] w fun e w' => e = .returned (.bool (decide (namesP l))) ∧ Ext w w' := by
  have HR := Lib.hid fun (W : World) (x : Ext w W) => (hr.below x.out).more x.size
  have HN := Lib.hid hn
  have HS := Lib.hid hs
  have HC := Lib.hid hc
  clear hr hn hs hc
  go_enter Tryz.func85, Tryz.ntmps85
  go_wp2
  go_loopg [7] l.length (fun m s7 wr => ∃ j : Nat, j + m = l.length ∧ s7 = .int .i64 j ∧ namTo (l.take j) ∧ Ext w wr)
  case atStart => exact ⟨0, by omega, rfl, ⟨by simp, by simp⟩, Ext.refl w⟩
  case round =>
    obtain ⟨j, hj, rfl, hok, hx⟩ := hrel
    have hjb : (j : Int) ≤ 1099511627776 := by have := HN.out; omega
    by_cases h : j < l.length
    · obtain ⟨s, hs⟩ : ∃ s, l[j]? = some s := ⟨_, List.getElem?_eq_getElem h⟩
      obtain ⟨ad, rfl, q0⟩ := reads_text (HR.out _ hx) hs
      have c1 := nCheck_any s (HS.out s (List.mem_of_getElem? hs))
      have HT := Lib.hid (namTo_succ hs)
      have HO := Lib.hid hok
      have HX := Lib.hid hx
      have HJ := Lib.hid hj
      by_cases h1 : namP s
      · rw [show namE s = 0 from if_pos h1] at c1
        have hjc : (j : Int) ≤ (c : Int) := by have := HC.out; omega
        have ej : (l.take j).length = j := by rw [List.length_take]; omega
        have c2 : ∀ W, Ext w W → Calls Tryz.prog 124 #[.slice (some ad) j c, .string s] W fun e w' => e = .returned (.bool (memB s (l.take j))) ∧ W = w' := fun W x => by
          have := containsT_any (l.take j) (by omega) s (some ad) c W (by rw [← tv_take, ej]; exact (HR.out _ x).head (c := c) (by omega))
          rw [ej] at this; exact this
        by_cases h2 : s ∈ l.take j
        · rw [memB_yes h2] at c2
          have kk : Hid (¬ namesP l) := Lib.hid (namTo_not (k := j + 1) fun hh => (HT.out.1 hh).2.2 h2)
          clear hx hj hs hok h2 h1 ej
          go_wp2_with (first
            | (go_at_call 113; refine (c1 _).mono ?_; clear c1; rintro e w1 ⟨rfl, x1⟩)
            | (go_at_call 124; refine (c2 _ (HX.out.trans x1)).mono ?_; clear c2; rintro e w2 ⟨rfl, rfl⟩))
          go_ret
          exact ⟨ret_bool (decide_eq_false kk.out).symm, HX.out.trans x1⟩
        · rw [memB_no h2] at c2
          have hok' : Hid (namTo (l.take (j + 1))) := Lib.hid (HT.out.2 ⟨HO.out, h1, h2⟩)
          clear hx hj hs hok h2 h1 ej
          go_wp2_with (first
            | (go_at_call 113; refine (c1 _).mono ?_; clear c1; rintro e w1 ⟨rfl, x1⟩)
            | (go_at_call 124; refine (c2 _ (HX.out.trans x1)).mono ?_; clear c2; rintro e w2 ⟨rfl, rfl⟩))
          have hj := HJ.out
          go_roundg (gk - 1)
          case measure => omega
          case rel => exact ⟨j + 1, by omega, int_congr (by omega), hok'.out, HX.out.trans x1⟩
      · rw [show namE s = 110 from if_neg h1] at c1
        have kk : Hid (¬ namesP l) := Lib.hid (namTo_not (k := j + 1) fun hh => h1 (HT.out.1 hh).2.1)
        clear hx hj hs hok h1
        go_wp2_with (go_at_call 113; refine (c1 _).mono ?_; clear c1; rintro e w1 ⟨rfl, x1⟩)
        go_ret
        exact ⟨ret_bool (decide_eq_false kk.out).symm, HX.out.trans x1⟩
    · obtain rfl : j = l.length := by omega
      rw [List.take_length] at hok
      have HX := Lib.hid hx
      clear hx hj
      by_cases h1 : 0 < l.length
      · have d1 : decide (0 < l.length) = true := decide_eq_true h1
        by_cases h2 : l.length ≤ 8
        · have kk : Hid (namesP l) := Lib.hid (namesP_to.2 ⟨hok, h1, h2⟩)
          have d2 : (l.length : Int) ≤ 8 := by omega
          clear h h1 h2 hok
          go_wp2
          go_ret
          first | exact ⟨ret_bool (decide_eq_true kk.out).symm, HX.out⟩ | exact ⟨ret_bool (by simp [kk.out]), HX.out⟩
        · have kk : Hid (¬ namesP l) := Lib.hid (fun h => h2 h.2.2.2)
          have d2 : ¬ (l.length : Int) ≤ 8 := by omega
          clear h h1 h2 hok
          go_wp2
          go_ret
          first | exact ⟨ret_bool (decide_eq_false kk.out).symm, HX.out⟩ | exact ⟨ret_bool (by simp [kk.out]), HX.out⟩
      · have d1 : decide (0 < l.length) = false := decide_eq_false h1
        have kk : Hid (¬ namesP l) := Lib.hid (fun h => h1 h.2.2.1)
        clear h h1 hok
        go_wp2
        go_ret
        first | exact ⟨ret_bool (decide_eq_false kk.out).symm, HX.out⟩ | exact ⟨ret_bool (by simp [kk.out]), HX.out⟩

/-! ### tokens -/
theorem itoa_any (i : Int) (h0 : 0 ≤ i) (h1 : i < 100) (w : World) : Calls Tryz.prog 132 #[.int .i64 i] w fun e w' => e = .returned (.string ⟨(Lib.itoa i).toArray⟩) ∧ w = w' := by
  obtain ⟨n, rfl⟩ : ∃ n : Nat, i = n := ⟨i.toNat, by omega⟩
  refine (Tryz.strconv_Itoa_small n (by omega) w).mono ?_
  rintro e w' ⟨rfl, rfl⟩
  exact ⟨by rw [Lib.itoa_nonneg], rfl⟩
theorem itoa_few (i : Int) (h0 : 0 ≤ i) (h1 : i < 100) : (Lib.itoa i).length ≤ 2 := by
  obtain ⟨n, rfl⟩ : ∃ n : Nat, i = n := ⟨i.toNat, by omega⟩
  have : ∀ k < 100, (Lib.itoa (k : Nat)).length ≤ 2 := by decide +kernel
  exact this n (by omega)
theorem token_any (id acc : Int) (h1 : 0 ≤ id) (h2 : id < 100) (h3 : 0 ≤ acc) (h4 : acc < 100) (w : World) : Calls Tryz.prog 104 #[.int .i64 id, .int .i64 acc] w fun e w' => e = .returned (.string (tokS id acc)) ∧ w = w' := by
  have c1 := fun i a b W => itoa_any i a b W
  have k1 := itoa_few id h1 h2
  have k2 := itoa_few acc h3 h4
  go_enter Tryz.func104, Tryz.ntmps104
  go_wp2_with (go_at_call 132; refine (c1 _ (by assumption) (by assumption) _).mono ?_; rintro e w1 ⟨rfl, rfl⟩)
  go_ret
  refine ⟨?_, rfl⟩
  unfold tokS
  have e : (⟨(Lib.itoa id).toArray⟩ ++ ⟨#[45]⟩ ++ ⟨(Lib.itoa acc).toArray⟩ : ByteArray) = ⟨(Lib.itoa id ++ [45] ++ Lib.itoa acc).toArray⟩ := by
    apply ByteArray.ext
    rw [ByteArray.data_append, ByteArray.data_append]
    simp
  rw [← e]
  rfl
end Go.Proofs.YtbhdmfijdhcehaaGreatDoor

/- The door, walked: the door in memory, whether there is an account, whether an account may be. -/
namespace Go.Proofs.YtbhdmfijdhcehaaGreatDoor
set_option linter.unusedVariables false
set_option linter.unusedSimpArgs false
open Go.RowKit Go.Shelf Go.Maps

/-! ### a door in memory -/
/-- A door's cells, and what time it is there. -/
def DoorB (w : World) (b : Nat) (d : DoorX) (now : Int) : Prop :=
  Blk w b 92 #[.int .i64 d.next, .slice d.oA d.opn.length d.oc, .slice d.cA d.accs.length d.cc, .slice d.uA d.auts.length d.uc, .slice d.rA d.ords.length d.rc, .int .i64 d.ser, .int .i64 now]
def frontV (d : DoorX) : Value := .agg #[.int .i64 d.next, .slice d.oA d.opn.length d.oc, .slice d.cA d.accs.length d.cc, .slice d.uA d.auts.length d.uc, .slice d.rA d.ords.length d.rc, .int .i64 d.ser]
theorem arr7 {W : World} {g : Nat} {T : TypeId} {a b c d e f h : Value} (k : Blk W g T #[a, b, c, d, e, f, h]) : W.cell? ⟨g, 0, none⟩ = some a ∧ W.cell? ⟨g, 1, none⟩ = some b ∧ W.cell? ⟨g, 2, none⟩ = some c ∧ W.cell? ⟨g, 3, none⟩ = some d ∧ W.cell? ⟨g, 4, none⟩ = some e ∧ W.cell? ⟨g, 5, none⟩ = some f ∧ W.cell? ⟨g, 6, none⟩ = some h :=
  ⟨k.cell 0, k.cell 1, k.cell 2, k.cell 3, k.cell 4, k.cell 5, k.cell 6⟩
theorem DoorB.ext {w w' : World} {b : Nat} {d : DoorX} {now : Int} (h : DoorB w b d now) (x : Ext w w') : DoorB w' b d now := ext_blk x h
theorem DoorB.grown {w w' : World} {b : Nat} {d : DoorX} {now : Int} (h : DoorB w b d now) {row : Option Nat} (x : w.grownBy w' row) (hr : some b ≠ row) : DoorB w' b d now := Blk.grown h x hr
theorem grown_ext {w w' : World} (x : Ext w w') (row : Option Nat) : w.grownBy w' row := ⟨x.out.os, x.out.tape, x.out.output, x.size, fun k hk _ => x.out.block k hk⟩

/-! ### a set of keys -/
def keysU (l : List Nat) : List Lit := l.map fun (n : Nat) => Lit.int .u64 (n : Int)
theorem atKey_foldU {H : Type} (u z : DataW H) (x : Nat) : ∀ (l : List Nat) (m : DataW H), IsMap m →
    ((keysU l).foldl (fun m x => m.put x u) m).atKey (.int .u64 (x : Int)) z = if x ∈ l then u else m.atKey (.int .u64 (x : Int)) z
  | [], m, _ => by simp [keysU]
  | y :: l, m, hm => by
    show ((keysU l).foldl (fun m x => m.put x u) (m.put (.int .u64 (y : Int)) u)).atKey (.int .u64 (x : Int)) z = _
    rw [atKey_foldU u z x l _ (hm.put _ u)]
    by_cases hx : x ∈ l
    · rw [if_pos hx, if_pos (List.mem_cons_of_mem _ hx)]
    · rw [if_neg hx]
      by_cases e : x = y
      · subst e
        rw [atKey_put_same hm (by trivial) u z, if_pos List.mem_cons_self]
      · rw [atKey_put_other (by simp; omega) u z, if_neg (by simp [e, hx])]
theorem atKey_setU {H : Type} (u z : DataW H) (x : Nat) (l : List Nat) : (setOf u (keysU l)).atKey (.int .u64 (x : Int)) z = if x ∈ l then u else z := by
  have := atKey_foldU u z x l (.map []) isMap_empty
  exact this
def SetU (w : World) (b : Nat) (l : List Nat) : Prop := w.ownsMap Tryz.prog 22 (plainElem (H := Unit) Tryz.prog 4) b l.length (setOf tt (keysU l))
theorem keyU64 : Keyed Tryz.prog 22 := int_keyed Tryz.underlying22
theorem wf_u64 {n : Nat} (h : n < 18446744073709551616) : (Lit.int .u64 (n : Int)).wf = true := by
  simp [Lit.wf, IntKind.min, IntKind.max, IntKind.signed, IntKind.bits]; omega
theorem SetU.look {w : World} {b : Nat} {l : List Nat} (h : SetU w b l) (x : Nat) (hx : x < 18446744073709551616) :
    (Instr.lookup 104 (.map (some b)) (.int .u64 (x : Int)) false).run Tryz.prog w = .ok (.bool (decide (x ∈ l))) w := by
  obtain ⟨v, ps, hrun, hv⟩ := World.ownsMap.lookup h keyU64 Tryz.underlying104 (zeroB w) (zd := .lit (.bool false)) (zp := []) (plainElem_bool Tryz.underlying4 false) (keyOf_int_mk Tryz.underlying22 (wf_u64 hx))
  obtain ⟨a, rfl, e⟩ := plainElem_bool_inv Tryz.underlying4 hv
  rw [hrun]
  rw [atKey_setU] at e
  have : a = decide (x ∈ l) := by
    by_cases hm : x ∈ l
    · rw [if_pos hm] at e
      simp [tt] at e
      simp [hm, ← e.1]
    · rw [if_neg hm] at e
      simp at e
      simp [hm, ← e.1]
  rw [this]
theorem SetU.put_ {w' : World} {b : Nat} {l : List Nat} {x : Nat} (h : w'.ownsMap Tryz.prog 22 (plainElem (H := Unit) Tryz.prog 4) b (l.length + 1) ((setOf tt (keysU l)).put (.int .u64 (x : Int)) tt)) : SetU w' b (l ++ [x]) := by
  have e : setOf tt (keysU (l ++ [x])) = (setOf tt (keysU l)).put (.int .u64 (x : Int)) tt := by rw [← setOf_snoc]; simp [keysU]
  unfold SetU
  rw [e, List.length_append]
  exact h
theorem SetU.new (w : World) : SetU (w.alloc (.map #[] 0)) w.heap.size [] := World.ownsMap_made w Tryz.prog 22 _
theorem SetU.ext {w w' : World} {b : Nat} {l : List Nat} (h : SetU w b l) (x : Ext w w') : SetU w' b l := World.ownsMap.kept h (grown_ext x none) (by simp)
theorem SetIs.ext {w w' : World} {b : Nat} {l : List Int} (h : SetIs w b l) (x : Ext w w') : SetIs w' b l := World.ownsMap.kept h (grown_ext x none) (by simp)
theorem SetIs.grown {w w' : World} {b : Nat} {l : List Int} (h : SetIs w b l) {row : Option Nat} (x : w.grownBy w' row) (hr : some b ≠ row) : SetIs w' b l := World.ownsMap.kept h x hr

/-! ### accounts -/
theorem hasAcc_any (b : Nat) (d : DoorX) (now n : Int) (w : World) (h : DoorB w b d now) :
    Calls Tryz.prog 47 #[.pointer (some ⟨b, 0, none⟩), .int .i64 n] w fun e w' => e = .returned (.bool (decide (1 ≤ n ∧ n ≤ d.accs.length))) ∧ w = w' := by
  obtain ⟨a0, a1, a2, a3, a4, a5, a6⟩ := arr7 h
  go_enter Tryz.func47, Tryz.ntmps47
  by_cases h1 : 1 ≤ n <;> by_cases h2 : n ≤ (d.accs.length : Int)
  all_goals
    go_wp2
    go_ret
    exact ⟨by simp [h1, h2], rfl⟩
set_option maxRecDepth 100000 in
set_option maxHeartbeats 4000000 in
theorem mayAcc_no (b : Nat) (d : DoorX) (now : Int) (i : Nat) (x : AccR) (hi : d.accs[i]? = some x) (hk : x.key < 18446744073709551616) (m : Nat) (l : List Nat) (hno : ¬ (accP i x ∧ x.key ∉ l)) (hib : (i : Int) ≤ 1099511627776) (w : World) (h : DoorB w b d now)
    (hr : Reads w w.heap.size 2 d.cA d.accs.length (accV d.accs)) (hs : SetU w m l) :
    Calls Tryz.prog 63 #[.pointer (some ⟨b, 0, none⟩), .int .i64 (i : Int), .map (some m)] w fun e w' => e = .returned (.bool false) ∧ Ext w w' := by
  obtain ⟨a0, a1, a2, a3, a4, a5, a6⟩ := arr7 h
  have c1 := In_any x.key hk
  have hlk := SetU.look (hs.alloc (.cells #[.int .i64 x.id, .int .u64 (x.key : Int)] 75)) x.key hk
  have hil : (i : Int) < (d.accs.length : Int) := by have := (List.getElem?_eq_some_iff.1 hi).1; omega
  obtain ⟨ad, hA, hlt, q0, q1⟩ := reads_acc hr hi
  rw [hA] at a2
  unfold accP at hno
  clear h hr hs hi hA hlt
  by_cases h1 : x.id = (i : Int) + 1
  · have k1 : (x.id != (i : Int) + 1) = false := by simp [h1]
    by_cases h2 : x.key ∈ l
    · rw [decide_eq_true h2] at hlk
      clear h1 h2 hno c1
      go_enter Tryz.func63, Tryz.ntmps63
      go_wp2
      go_ret
      exact ⟨rfl, (Ext.refl w).alloc _⟩
    · have h3 : inB x.key = false := by
        cases e : inB x.key with
        | false => rfl
        | true => exact absurd ⟨⟨h1, e⟩, h2⟩ hno
      rw [decide_eq_false h2] at hlk
      rw [h3] at c1
      clear h1 h2 hno h3
      go_enter Tryz.func63, Tryz.ntmps63
      go_wp2_with (go_at_call 86; refine (c1 _).mono ?_; clear c1; rintro e w1 ⟨rfl, x1⟩)
      go_ret
      exact ⟨rfl, ((Ext.refl w).alloc _).trans x1⟩
  · have k1 : (x.id != (i : Int) + 1) = true := by simp [h1]
    clear h1 hno c1 hlk
    go_enter Tryz.func63, Tryz.ntmps63
    go_wp2
    go_ret
    exact ⟨rfl, (Ext.refl w).alloc _⟩
set_option maxRecDepth 100000 in
set_option maxHeartbeats 4000000 in
theorem mayAcc_yes (b : Nat) (d : DoorX) (now : Int) (i : Nat) (x : AccR) (hi : d.accs[i]? = some x) (hk : x.key < 18446744073709551616) (m : Nat) (l : List Nat) (hl : l.length ≤ 1099511627776) (hx : accP i x) (hm : x.key ∉ l) (hib : (i : Int) ≤ 1099511627776) (w : World) (h : DoorB w b d now)
    (hr : Reads w w.heap.size 2 d.cA d.accs.length (accV d.accs)) (hs : SetU w m l) :
    Calls Tryz.prog 63 #[.pointer (some ⟨b, 0, none⟩), .int .i64 (i : Int), .map (some m)] w fun e w' => e = .returned (.bool true) ∧ SetU w' m (l ++ [x.key]) ∧ w.grownBy w' (some m) := by
  obtain ⟨a0, a1, a2, a3, a4, a5, a6⟩ := arr7 h
  have c1 := In_any x.key hk
  have hs1 := hs.alloc (.cells #[.int .i64 x.id, .int .u64 (x.key : Int)] 75)
  have hlk := SetU.look hs1 x.key hk
  have hil : (i : Int) < (d.accs.length : Int) := by have := (List.getElem?_eq_some_iff.1 hi).1; omega
  obtain ⟨ad, hA, hlt, q0, q1⟩ := reads_acc hr hi
  rw [hA] at a2
  have HB := Lib.hid (Blk.new w 75 #[.int .i64 x.id, .int .u64 (x.key : Int)])
  have HS := Lib.hid hs1
  have k1 : (x.id != (i : Int) + 1) = false := by simp [hx.1]
  rw [hx.2] at c1
  rw [decide_eq_false hm] at hlk
  have hkI : (x.key : Int) ≤ 18446744073709551615 := by omega
  have HK := Lib.hid hk
  have HL := Lib.hid hl
  clear h hr hs hs1 hi hA hlt hx hm hkI hk hl
  go_enter Tryz.func63, Tryz.ntmps63
  go_wp2_with (first
    | (go_at_call 86; refine (c1 _).mono ?_; clear c1; rintro e w1 ⟨rfl, x1⟩; have p1 := (ext_blk x1 HB.out).cell 1; have S1 := Lib.hid (SetU.ext HS.out x1))
    | (at_mapUpdate; refine wpList_mapUpdate_own _ rfl _ _ _ 104 rfl 22 4 keyU64 Tryz.underlying104 _ m _ _ rfl S1.out (by have := HL.out; simp only [maxLen]; omega) _ _ _ rfl rfl (keyOf_int_mk Tryz.underlying22 (wf_u64 HK.out)) tt [] (plainElem_bool Tryz.underlying4 true) ?_; intro w2 hown2 hg2; have O2 := Lib.hid (SetU.put_ hown2); have HG2 := Lib.hid hg2; clear hown2 hg2))
  go_ret
  exact ⟨rfl, O2.out, (grown_ext (((Ext.refl w).alloc _).trans x1) (some m)).trans HG2.out⟩
end Go.Proofs.YtbhdmfijdhcehaaGreatDoor

/- The door, walked: whether an authorization may be. -/
namespace Go.Proofs.YtbhdmfijdhcehaaGreatDoor
set_option linter.unusedVariables false
set_option linter.unusedSimpArgs false
open Go.RowKit Go.Shelf Go.Maps

/-- The times of an authorization. -/
def timP (a : AutR) : Prop := if a.st = 3 then numP a.fr ∧ a.un = a.fr + 50 else a.fr = 0 ∧ a.un = 0
instance (a : AutR) : Decidable (timP a) := by unfold timP; infer_instance
theorem wrap50 {a b : Int} (ha : numP a) (hb : wf64 b) : wrap64 (b - a) = 50 ↔ b = a + 50 := by
  obtain ⟨h1, h2⟩ := ha
  obtain ⟨h3, h4⟩ := wf64_out hb
  unfold wrap64
  omega
set_option maxRecDepth 100000 in
set_option maxHeartbeats 4000000 in
theorem mayAut_any (b : Nat) (d : DoorX) (now : Int) (i : Nat) (x : AutR) (hi : d.auts[i]? = some x) (xw : AutW x) (hi9 : i < 99) (ha9 : d.accs.length < 100) (w : World) (h : DoorB w b d now)
    (hr : Reads w w.heap.size 7 d.uA d.auts.length (autV d.auts)) :
    Calls Tryz.prog 64 #[.pointer (some ⟨b, 0, none⟩), .int .i64 (i : Int)] w fun e w' => e = .returned (.bool (decide (autP d.accs.length i x))) ∧ Ext w w' := by
  obtain ⟨a0, a1, a2, a3, a4, a5, a6⟩ := arr7 h
  have hib : (i : Int) ≤ 1000 := by omega
  have hil : (i : Int) < (d.auts.length : Int) := by have := (List.getElem?_eq_some_iff.1 hi).1; omega
  obtain ⟨ad, hA, hlt, q0, q1, q2, q3, q4, q5, q6⟩ := reads_aut hr hi
  rw [hA] at a3
  have HB := Lib.hid (Blk.new w 69 #[.int .i64 x.id, .int .i64 x.acc, .string x.name, .string x.tok, .int .i64 x.st, .int .i64 x.fr, .int .i64 x.un])
  have HD := Lib.hid h
  have HXW := Lib.hid xw
  have HI9 := Lib.hid hi9
  have HA9 := Lib.hid ha9
  clear h hr hi hA hlt xw hi9 ha9
  go_enter Tryz.func64, Tryz.ntmps64
  go_upto_region 2 with (fail)
  obtain ⟨W1, e1⟩ : ∃ W, W = w.alloc (.cells #[.int .i64 x.id, .int .i64 x.acc, .string x.name, .string x.tok, .int .i64 x.st, .int .i64 x.fr, .int .i64 x.un] 69) := ⟨_, rfl⟩
  rw [← e1] at HB ⊢
  have X1 : Ext w W1 := by rw [e1]; exact (Ext.refl w).alloc _
  have HX1 := Lib.hid X1
  have HDB := Lib.hid (DoorB.ext HD.out X1)
  clear e1 X1 a0 a1 a2 a3 a4 a5 a6 q0 q1 q2 q3 q4 q5 q6
  obtain ⟨k0, k1, k2, k3, k4, k5, k6⟩ := arr7 HB.out
  go_cut [6] (fun s6 wx => wx = W1 ∧ s6 = .bool (decide (x.fr = 0 ∧ x.un = 0)))
  case first =>
    by_cases h1 : x.fr = 0
    · have d1 : (x.fr == 0) = true := by simp [h1]
      by_cases h2 : x.un = 0
      · have d2 : (x.un == 0) = true := by simp [h2]
        have HH : Hid (x.fr = 0 ∧ x.un = 0) := Lib.hid ⟨h1, h2⟩
        clear h1 h2
        go_wp2
        go_meet
        exact ⟨rfl, by rw [decide_eq_true HH.out]⟩
      · have d2 : (x.un == 0) = false := by simp [h2]
        have HH : Hid (¬ (x.fr = 0 ∧ x.un = 0)) := Lib.hid (fun h => h2 h.2)
        clear h1 h2
        go_wp2
        go_meet
        exact ⟨rfl, by rw [decide_eq_false HH.out]⟩
    · have d1 : (x.fr == 0) = false := by simp [h1]
      have HH : Hid (¬ (x.fr = 0 ∧ x.un = 0)) := Lib.hid (fun h => h1 h.1)
      clear h1
      go_wp2
      go_meet
      exact ⟨rfl, by rw [decide_eq_false HH.out]⟩
  case rest =>
    obtain ⟨hw, rfl⟩ := hcut
    rw [hw]
    clear hw
    obtain ⟨T0, hT0⟩ : ∃ T, T = decide (x.fr = 0 ∧ x.un = 0) := ⟨_, rfl⟩
    rw [← hT0]
    have HT0 := Lib.hid hT0
    clear hT0
    go_upto_if 25 with (fail)
    go_cut [6] (fun s6 wx => wx = W1 ∧ s6 = .bool (decide (timP x)))
    case first =>
      have cN := onum_any x.fr
      by_cases h1 : x.st = 3
      · have d1 : (x.st == 3) = true := by simp [h1]
        by_cases h2 : numP x.fr
        · rw [decide_eq_true h2] at cN
          have hw := wrap50 h2 HXW.out.un
          by_cases h3 : x.un = x.fr + 50
          · have d2 : (wrap64 (x.un - x.fr) == 50) = true := by rw [beq_iff_eq]; exact hw.2 h3
            have HH : Hid (timP x) := Lib.hid (by unfold timP; rw [if_pos h1]; exact ⟨h2, h3⟩)
            clear h1 h2 h3 hw
            go_wp2_with (go_at_call 42; refine (cN _).mono ?_; clear cN; rintro e w2 ⟨rfl, rfl⟩)
            go_meet
            exact ⟨rfl, by rw [decide_eq_true HH.out]⟩
          · have d2 : (wrap64 (x.un - x.fr) == 50) = false := by rw [beq_eq_false_iff_ne]; exact fun h => h3 (hw.1 h)
            have HH : Hid (¬ timP x) := Lib.hid (by unfold timP; rw [if_pos h1]; exact fun h => h3 h.2)
            clear h1 h2 h3 hw
            go_wp2_with (go_at_call 42; refine (cN _).mono ?_; clear cN; rintro e w2 ⟨rfl, rfl⟩)
            go_meet
            exact ⟨rfl, by rw [decide_eq_false HH.out]⟩
        · rw [decide_eq_false h2] at cN
          have HH : Hid (¬ timP x) := Lib.hid (by unfold timP; rw [if_pos h1]; exact fun h => h2 h.1)
          clear h1 h2
          go_wp2_with (go_at_call 42; refine (cN _).mono ?_; clear cN; rintro e w2 ⟨rfl, rfl⟩)
          go_meet
          exact ⟨rfl, by rw [decide_eq_false HH.out]⟩
      · have d1 : (x.st == 3) = false := by simp [h1]
        have HH : Hid (T0 = decide (timP x)) := Lib.hid (by rw [HT0.out, decide_eq_decide]; unfold timP; rw [if_neg h1])
        clear h1 cN
        go_wp2
        go_meet
        exact ⟨rfl, by rw [HH.out]⟩
    case rest =>
      obtain ⟨hw, rfl⟩ := hcut
      rw [hw]
      clear hw HT0
      obtain ⟨T, hT⟩ : ∃ T, T = decide (timP x) := ⟨_, rfl⟩
      rw [← hT]
      have HT := Lib.hid hT
      clear hT
      have cA := fun (j : Later W1) => hasAcc_any b d now x.acc j.W (DoorB.ext HDB.out j.ext)
      have cN := nCheck_any x.name HXW.out.name
      have j0 := fun j : Later W1 => j.cell k0
      have j1 := fun j : Later W1 => j.cell k1
      have j2 := fun j : Later W1 => j.cell k2
      have j3 := fun j : Later W1 => j.cell k3
      have j4 := fun j : Later W1 => j.cell k4
      have j5 := fun j : Later W1 => j.cell k5
      have j6 := fun j : Later W1 => j.cell k6
      clear k0 k1 k2 k3 k4 k5 k6
      by_cases h1 : x.id = (i : Int) + 1
      case neg =>
        have HP : Hid (¬ autP d.accs.length i x) := Lib.hid fun h => h1 (h.1)
        have d1 : (x.id == (i : Int) + 1) = false := by simp [h1]
        clear h1 cA cN
        go_wp2
        refine wp_region_later (by kernel_rfl) (by kernel_rfl) ?_
        repeat (go_big_quiet_step ((fail)))
        refine wpQuiet_nil ?_
        rintro W2 ⟨q, hq⟩
        have x5 : Ext w W2 := by rw [hq]; exact HX1.out.trans q.ext
        clear hq q j0 j1 j2 j3 j4 j5 j6
        go_wp2
        go_ret
        exact ⟨ret_bool (decide_eq_false HP.out).symm, x5⟩
      have d1 : (x.id == (i : Int) + 1) = true := by simp [h1]
      by_cases h2 : 1 ≤ x.acc ∧ x.acc ≤ (d.accs.length : Int)
      case neg =>
        have HP : Hid (¬ autP d.accs.length i x) := Lib.hid fun h => h2 (⟨h.2.1, h.2.2.1⟩)
        rw [show decide (1 ≤ x.acc ∧ x.acc ≤ (d.accs.length : Int)) = false from decide_eq_false h2] at cA
        clear h1 h2 cN
        go_wp2
        refine wp_region_later (by kernel_rfl) (by kernel_rfl) ?_
        repeat (go_big_quiet_step (((go_at_call 47; exact Later.same (cA _)))))
        refine wpQuiet_nil ?_
        rintro W2 ⟨q, hq⟩
        have x5 : Ext w W2 := by rw [hq]; exact HX1.out.trans q.ext
        clear hq q j0 j1 j2 j3 j4 j5 j6
        go_wp2
        go_ret
        exact ⟨ret_bool (decide_eq_false HP.out).symm, x5⟩
      rw [show decide (1 ≤ x.acc ∧ x.acc ≤ (d.accs.length : Int)) = true from decide_eq_true h2] at cA
      by_cases h3 : namP x.name
      case neg =>
        have HP : Hid (¬ autP d.accs.length i x) := Lib.hid fun h => h3 (h.2.2.2.1)
        rw [show namE x.name = 110 from if_neg h3] at cN
        clear h1 h2 h3
        go_wp2
        refine wp_region_later (by kernel_rfl) (by kernel_rfl) ?_
        repeat (go_big_quiet_step ((first | (go_at_call 47; exact Later.same (cA _)) | (go_at_call 113; exact Later.calls (cN _)))))
        refine wpQuiet_nil ?_
        rintro W2 ⟨q, hq⟩
        have x5 : Ext w W2 := by rw [hq]; exact HX1.out.trans q.ext
        clear hq q j0 j1 j2 j3 j4 j5 j6
        go_wp2
        go_ret
        exact ⟨ret_bool (decide_eq_false HP.out).symm, x5⟩
      rw [show namE x.name = 0 from if_pos h3] at cN
      by_cases h4 : x.tok = tokS x.id x.acc
      case neg =>
        have HP : Hid (¬ autP d.accs.length i x) := Lib.hid fun h => h4 (h.2.2.2.2.1)
        have d4 : (x.tok.toList == (tokS x.id x.acc).toList) = false := str_beq_false h4
        have cK := fun W => token_any x.id x.acc (by omega) (by have := HI9.out; omega) (by omega) (by have := HA9.out; omega) W
        clear h1 h2 h3 h4
        go_wp2
        refine wp_region_later (by kernel_rfl) (by kernel_rfl) ?_
        repeat (go_big_quiet_step ((first | (go_at_call 47; exact Later.same (cA _)) | (go_at_call 113; exact Later.calls (cN _)) | (go_at_call 104; exact Later.same (cK _)))))
        refine wpQuiet_nil ?_
        rintro W2 ⟨q, hq⟩
        have x5 : Ext w W2 := by rw [hq]; exact HX1.out.trans q.ext
        clear hq q j0 j1 j2 j3 j4 j5 j6
        go_wp2
        go_ret
        exact ⟨ret_bool (decide_eq_false HP.out).symm, x5⟩
      have d4 : (x.tok.toList == (tokS x.id x.acc).toList) = true := str_beq_true h4
      by_cases h5 : 1 ≤ x.st
      case neg =>
        have HP : Hid (¬ autP d.accs.length i x) := Lib.hid fun h => h5 (h.2.2.2.2.2.1)
        have d5 : decide (1 ≤ x.st) = false := decide_eq_false h5
        have cK := fun W => token_any x.id x.acc (by omega) (by have := HI9.out; omega) (by omega) (by have := HA9.out; omega) W
        clear h1 h2 h3 h4 h5
        go_wp2
        refine wp_region_later (by kernel_rfl) (by kernel_rfl) ?_
        repeat (go_big_quiet_step ((first | (go_at_call 47; exact Later.same (cA _)) | (go_at_call 113; exact Later.calls (cN _)) | (go_at_call 104; exact Later.same (cK _)))))
        refine wpQuiet_nil ?_
        rintro W2 ⟨q, hq⟩
        have x5 : Ext w W2 := by rw [hq]; exact HX1.out.trans q.ext
        clear hq q j0 j1 j2 j3 j4 j5 j6
        go_wp2
        go_ret
        exact ⟨ret_bool (decide_eq_false HP.out).symm, x5⟩
      have d5 : decide (1 ≤ x.st) = true := decide_eq_true h5
      by_cases h6 : x.st ≤ 4
      case neg =>
        have HP : Hid (¬ autP d.accs.length i x) := Lib.hid fun h => h6 (h.2.2.2.2.2.2.1)
        have d6 : decide (x.st ≤ 4) = false := decide_eq_false h6
        have cK := fun W => token_any x.id x.acc (by omega) (by have := HI9.out; omega) (by omega) (by have := HA9.out; omega) W
        clear h1 h2 h3 h4 h5 h6
        go_wp2
        refine wp_region_later (by kernel_rfl) (by kernel_rfl) ?_
        repeat (go_big_quiet_step ((first | (go_at_call 47; exact Later.same (cA _)) | (go_at_call 113; exact Later.calls (cN _)) | (go_at_call 104; exact Later.same (cK _)))))
        refine wpQuiet_nil ?_
        rintro W2 ⟨q, hq⟩
        have x5 : Ext w W2 := by rw [hq]; exact HX1.out.trans q.ext
        clear hq q j0 j1 j2 j3 j4 j5 j6
        go_wp2
        go_ret
        exact ⟨ret_bool (decide_eq_false HP.out).symm, x5⟩
      have d6 : decide (x.st ≤ 4) = true := decide_eq_true h6
      by_cases h7 : timP x
      case neg =>
        have HP : Hid (¬ autP d.accs.length i x) := Lib.hid fun h => h7 (h.2.2.2.2.2.2.2)
        obtain rfl : T = false := by rw [HT.out]; exact decide_eq_false h7
        have cK := fun W => token_any x.id x.acc (by omega) (by have := HI9.out; omega) (by omega) (by have := HA9.out; omega) W
        clear h1 h2 h3 h4 h5 h6 h7
        go_wp2
        refine wp_region_later (by kernel_rfl) (by kernel_rfl) ?_
        repeat (go_big_quiet_step ((first | (go_at_call 47; exact Later.same (cA _)) | (go_at_call 113; exact Later.calls (cN _)) | (go_at_call 104; exact Later.same (cK _)))))
        refine wpQuiet_nil ?_
        rintro W2 ⟨q, hq⟩
        have x5 : Ext w W2 := by rw [hq]; exact HX1.out.trans q.ext
        clear hq q j0 j1 j2 j3 j4 j5 j6
        go_wp2
        go_ret
        exact ⟨ret_bool (decide_eq_false HP.out).symm, x5⟩
      have HP : Hid (autP d.accs.length i x) := Lib.hid ⟨h1, h2.1, h2.2, h3, h4, h5, h6, h7⟩
      obtain rfl : T = true := by rw [HT.out]; exact decide_eq_true h7
      have cK := fun W => token_any x.id x.acc (by omega) (by have := HI9.out; omega) (by omega) (by have := HA9.out; omega) W
      clear h1 h2 h3 h4 h5 h6 h7
      go_wp2
      refine wp_region_later (by kernel_rfl) (by kernel_rfl) ?_
      repeat (go_big_quiet_step ((first | (go_at_call 47; exact Later.same (cA _)) | (go_at_call 113; exact Later.calls (cN _)) | (go_at_call 104; exact Later.same (cK _)))))
      refine wpQuiet_nil ?_
      rintro W2 ⟨q, hq⟩
      have x5 : Ext w W2 := by rw [hq]; exact HX1.out.trans q.ext
      clear hq q j0 j1 j2 j3 j4 j5 j6
      go_wp2
      go_ret
      exact ⟨ret_bool (decide_eq_true HP.out).symm, x5⟩
end Go.Proofs.YtbhdmfijdhcehaaGreatDoor

/- Whether two structs are the same, field by field: nonces, accounts, authorizations. -/
namespace Go.Proofs.YtbhdmfijdhcehaaGreatDoor
set_option linter.unusedVariables false
set_option linter.unusedSimpArgs false
open Go.RowKit Go.Shelf Go.Maps

structure FRow where
  (ty : TypeId) (off : Nat) (x y : Value) (b : Bool)
theorem eqFields_rows {P : Program} (d : Nat) (cs ds : Array Value) (w : World) : ∀ (rows : List FRow) (fs : List Field), fs.map (fun f => (f.name != "_", f.type, f.offset)) = rows.map (fun r => (true, r.ty, r.off)) →
    (∀ r ∈ rows, (part r.ty cs r.off).run P w = .ok r.x w ∧ (part r.ty ds r.off).run P w = .ok r.y w ∧ (Op.equalIn d r.ty r.x r.y).run P w = .ok r.b w) → (Op.eqFields d cs ds fs).run P w = .ok (rows.all (·.b)) w
  | [], [], _, _ => by simp [Op.eqFields]
  | [], f :: fs, h, _ => by simp at h
  | r :: rows, [], h, _ => by simp at h
  | r :: rows, f :: fs, h, hr => by
    simp only [List.map_cons, List.cons.injEq, Prod.mk.injEq, bne_iff_ne, ne_eq] at h
    obtain ⟨⟨f1, f2, f3⟩, h'⟩ := h
    obtain ⟨p1, p2, p3⟩ := hr r List.mem_cons_self
    have ih := eqFields_rows d cs ds w rows fs h' (fun r' hr' => hr r' (List.mem_cons_of_mem _ hr'))
    simp only [Op.eqFields, ne_eq, f1, not_false_eq_true, if_true, f2, f3, Sem.run_bind, p1, p2, p3, Result.andThen_ok, List.all_cons]
    cases r.b
    · simp
    · simp [ih]
theorem eqS_beq (a b : ByteArray) : (a.toList == b.toList) = decide (a = b) := by
  rw [ByteArray.toList_eq, ByteArray.toList_eq, Bool.eq_iff_iff]
  simp only [beq_iff_eq, decide_eq_true_eq]
  exact ⟨fun h => ByteArray.ext (Array.toList_inj.1 h), fun h => by rw [h]⟩
theorem eqNon (x y : NonR) (w : World) : (Op.equalIn 10000 102 (.agg #[.int .i64 x.n, .int .i64 x.u]) (.agg #[.int .i64 y.n, .int .i64 y.u])).run Tryz.prog w = .ok (decide (x = y)) w := by
  have p0 : ∀ (a b : Value) (w : World), (part 3 #[a, b] 0).run Tryz.prog w = .ok a w := fun a b w => by kernel_rfl
  have p1 : ∀ (a b : Value) (w : World), (part 3 #[a, b] 1).run Tryz.prog w = .ok b w := fun a b w => by kernel_rfl
  have e := fun a b => run_equalIn_int (P := Tryz.prog) w 9998 3 .i64 .i64 a b Tryz.underlying3
  rw [run_equalIn_struct w 9999 102 _ _ (by kernel_rfl) (by kernel_rfl),
    eqFields_rows 9999 _ _ w [⟨3, 0, .int .i64 x.n, .int .i64 y.n, x.n == y.n⟩, ⟨3, 1, .int .i64 x.u, .int .i64 y.u, x.u == y.u⟩] _ (by kernel_rfl) (fun r hr => ?_)]
  · congr 1
    obtain ⟨a, b⟩ := x; obtain ⟨c, d⟩ := y
    rw [Bool.eq_iff_iff]; simp
  · simp only [List.mem_cons, List.not_mem_nil, or_false] at hr
    rcases hr with rfl | rfl
    · exact ⟨p0 _ _ _, p0 _ _ _, e _ _⟩
    · exact ⟨p1 _ _ _, p1 _ _ _, e _ _⟩
theorem eqAcc (x y : AccR) (w : World) : (Op.equalIn 10000 75 (.agg #[.int .i64 x.id, .int .u64 (x.key : Int)]) (.agg #[.int .i64 y.id, .int .u64 (y.key : Int)])).run Tryz.prog w = .ok (decide (x = y)) w := by
  have p0 : ∀ (a b : Value) (w : World), (part 3 #[a, b] 0).run Tryz.prog w = .ok a w := fun a b w => by kernel_rfl
  have p1 : ∀ (a b : Value) (w : World), (part 22 #[a, b] 1).run Tryz.prog w = .ok b w := fun a b w => by kernel_rfl
  have e := fun a b => run_equalIn_int (P := Tryz.prog) w 9998 3 .i64 .i64 a b Tryz.underlying3
  have e' := fun a b => run_equalIn_int (P := Tryz.prog) w 9998 22 .u64 .u64 a b Tryz.underlying22
  rw [run_equalIn_struct w 9999 75 _ _ (by kernel_rfl) (by kernel_rfl),
    eqFields_rows 9999 _ _ w [⟨3, 0, .int .i64 x.id, .int .i64 y.id, x.id == y.id⟩, ⟨22, 1, .int .u64 x.key, .int .u64 y.key, (x.key : Int) == (y.key : Int)⟩] _ (by kernel_rfl) (fun r hr => ?_)]
  · congr 1
    obtain ⟨a, b⟩ := x; obtain ⟨c, d⟩ := y
    rw [Bool.eq_iff_iff]; simp
    intro _; omega
  · simp only [List.mem_cons, List.not_mem_nil, or_false] at hr
    rcases hr with rfl | rfl
    · exact ⟨p0 _ _ _, p0 _ _ _, e _ _⟩
    · exact ⟨p1 _ _ _, p1 _ _ _, e' _ _⟩
set_option maxRecDepth 100000 in
theorem eqAut (x y : AutR) (w : World) : (Op.equalIn 10000 69 (.agg #[.int .i64 x.id, .int .i64 x.acc, .string x.name, .string x.tok, .int .i64 x.st, .int .i64 x.fr, .int .i64 x.un]) (.agg #[.int .i64 y.id, .int .i64 y.acc, .string y.name, .string y.tok, .int .i64 y.st, .int .i64 y.fr, .int .i64 y.un])).run Tryz.prog w = .ok (decide (x = y)) w := by
  have p0 : ∀ (a b c d e f g : Value) (w : World), (part 3 #[a, b, c, d, e, f, g] 0).run Tryz.prog w = .ok a w := fun a b c d e f g w => by kernel_rfl
  have p1 : ∀ (a b c d e f g : Value) (w : World), (part 3 #[a, b, c, d, e, f, g] 1).run Tryz.prog w = .ok b w := fun a b c d e f g w => by kernel_rfl
  have p2 : ∀ (a b c d e f g : Value) (w : World), (part 9 #[a, b, c, d, e, f, g] 2).run Tryz.prog w = .ok c w := fun a b c d e f g w => by kernel_rfl
  have p3 : ∀ (a b c d e f g : Value) (w : World), (part 9 #[a, b, c, d, e, f, g] 3).run Tryz.prog w = .ok d w := fun a b c d e f g w => by kernel_rfl
  have p4 : ∀ (a b c d e f g : Value) (w : World), (part 3 #[a, b, c, d, e, f, g] 4).run Tryz.prog w = .ok e w := fun a b c d e f g w => by kernel_rfl
  have p5 : ∀ (a b c d e f g : Value) (w : World), (part 3 #[a, b, c, d, e, f, g] 5).run Tryz.prog w = .ok f w := fun a b c d e f g w => by kernel_rfl
  have p6 : ∀ (a b c d e f g : Value) (w : World), (part 3 #[a, b, c, d, e, f, g] 6).run Tryz.prog w = .ok g w := fun a b c d e f g w => by kernel_rfl
  have e := fun a b => run_equalIn_int (P := Tryz.prog) w 9998 3 .i64 .i64 a b Tryz.underlying3
  have e' := fun a b => run_equalIn_string (P := Tryz.prog) w 9998 9 a b Tryz.underlying9
  rw [run_equalIn_struct w 9999 69 _ _ (by kernel_rfl) (by kernel_rfl),
    eqFields_rows 9999 _ _ w [⟨3, 0, .int .i64 x.id, .int .i64 y.id, x.id == y.id⟩, ⟨3, 1, .int .i64 x.acc, .int .i64 y.acc, x.acc == y.acc⟩, ⟨9, 2, .string x.name, .string y.name, x.name.toList == y.name.toList⟩, ⟨9, 3, .string x.tok, .string y.tok, x.tok.toList == y.tok.toList⟩, ⟨3, 4, .int .i64 x.st, .int .i64 y.st, x.st == y.st⟩, ⟨3, 5, .int .i64 x.fr, .int .i64 y.fr, x.fr == y.fr⟩, ⟨3, 6, .int .i64 x.un, .int .i64 y.un, x.un == y.un⟩] _ (by kernel_rfl) (fun r hr => ?_)]
  · congr 1
    obtain ⟨a1, a2, a3, a4, a5, a6, a7⟩ := x; obtain ⟨b1, b2, b3, b4, b5, b6, b7⟩ := y
    rw [Bool.eq_iff_iff]; simp only [List.all_cons, List.all_nil, eqS_beq, Bool.and_true, Bool.and_eq_true, beq_iff_eq, decide_eq_true_eq, AutR.mk.injEq]
  · simp only [List.mem_cons, List.not_mem_nil, or_false] at hr
    rcases hr with rfl | rfl | rfl | rfl | rfl | rfl | rfl
    · exact ⟨p0 _ _ _ _ _ _ _ _, p0 _ _ _ _ _ _ _ _, e _ _⟩
    · exact ⟨p1 _ _ _ _ _ _ _ _, p1 _ _ _ _ _ _ _ _, e _ _⟩
    · exact ⟨p2 _ _ _ _ _ _ _ _, p2 _ _ _ _ _ _ _ _, e' _ _⟩
    · exact ⟨p3 _ _ _ _ _ _ _ _, p3 _ _ _ _ _ _ _ _, e' _ _⟩
    · exact ⟨p4 _ _ _ _ _ _ _ _, p4 _ _ _ _ _ _ _ _, e _ _⟩
    · exact ⟨p5 _ _ _ _ _ _ _ _, p5 _ _ _ _ _ _ _ _, e _ _⟩
    · exact ⟨p6 _ _ _ _ _ _ _ _, p6 _ _ _ _ _ _ _ _, e _ _⟩
end Go.Proofs.YtbhdmfijdhcehaaGreatDoor

/- What comes in, opened: whatever nests, a type at a time. -/
namespace Go.Proofs.YtbhdmfijdhcehaaGreatDoor
set_option linter.unusedVariables false
set_option linter.unusedSimpArgs false
open Go.ChangeShapes Go.WideShapes Go.ChangeAt Go.RowKit

section
variable {H : Type} (enc : TypeId × Value → H) (P : Program) (W : World)
/-- Cells that read as something of a type, that is no greater than a machine's memory. -/
def Tw (t : TypeId) (cs : List Value) (d : DataW H) : Prop := (∃ fuel p, DataW.trod enc P W 0 (fun _ => true) true fuel t cs = some (d, p)) ∧ ∀ m ∈ d.weights P t, m ≤ reachBytes
/-- Whatever reads so is one of these. -/
def Dec {α : Type} (t : TypeId) (en : α → List Value) (wf : α → Prop) : Prop := ∀ cs d, Tw enc P W t cs d → ∃ a, cs = en a ∧ wf a
variable {enc P W}
theorem tw_int {t : TypeId} {k : IntKind} {cs : List Value} {d : DataW H} (ht : P.underlying t = some (.int k)) (h : Tw enc P W t cs d) : ∃ n, cs = [.int k n] ∧ (Lit.int k n).wf = true := by
  obtain ⟨⟨fuel, p, hf⟩, _⟩ := h
  obtain ⟨n, h1, _, h3⟩ := DataW.trod_int ht hf
  exact ⟨n, h1, h3⟩
theorem tw_u64 {t : TypeId} {cs : List Value} {d : DataW H} (ht : P.underlying t = some (.int .u64)) (h : Tw enc P W t cs d) : ∃ n : Nat, cs = [.int .u64 (n : Int)] ∧ n < 18446744073709551616 := by
  obtain ⟨n, e, hw⟩ := tw_int ht h
  obtain ⟨h1, h2⟩ := word_of_wf hw
  exact ⟨n.toNat, by rw [← h1]; exact e, h2⟩
theorem tw_u8 {t : TypeId} {cs : List Value} {d : DataW H} (ht : P.underlying t = some (.int .u8)) (h : Tw enc P W t cs d) : ∃ n : Nat, cs = [.int .u8 (n : Int)] ∧ n < 256 := by
  obtain ⟨n, e, hw⟩ := tw_int ht h
  obtain ⟨h1, h2⟩ := byte_of_wf hw
  exact ⟨n.toNat, by rw [← h1]; exact e, h2⟩
theorem tw_bool {t : TypeId} {cs : List Value} {d : DataW H} (ht : P.underlying t = some .bool) (h : Tw enc P W t cs d) : ∃ b, cs = [.bool b] := by
  obtain ⟨⟨fuel, p, hf⟩, _⟩ := h
  obtain ⟨b, h1, _⟩ := DataW.trod_bool ht hf
  exact ⟨b, h1⟩
theorem tw_string {t : TypeId} {cs : List Value} {d : DataW H} (ht : P.underlying t = some .string) (h : Tw enc P W t cs d) : ∃ s : ByteArray, cs = [.string s] ∧ s.size ≤ 140737488351232 := by
  obtain ⟨⟨fuel, p, hf⟩, hw⟩ := h
  obtain ⟨s, h1, h2, _⟩ := DataW.trod_string ht hf
  simp only [Prod.mk.injEq] at h2
  refine ⟨s, h1, ?_⟩
  have := hw s.data.toList.length (by rw [h2.1]; simp [DataW.weights])
  simpa [reachBytes] using this
theorem tw_struct {t : TypeId} {fs : Array Field} {cs : List Value} {d : DataW H} (ht : P.underlying t = some (.struct fs)) (h : Tw enc P W t cs d) :
    cs.length = P.cellsOf t ∧ ∀ (i : Nat) (f : Field), fs[i]? = some f → ∃ d', Tw enc P W f.type ((cs.drop f.offset).take (P.cellsOf f.type)) d' := by
  obtain ⟨⟨fuel, p, hf⟩, hw⟩ := h
  obtain ⟨xs, n, _, hx, hl, hlen, hall⟩ := DataW.trod_struct ht hf
  simp only [Prod.mk.injEq] at hx
  refine ⟨hl, fun i f hi => ?_⟩
  have hi' : i < xs.length := by rw [hlen]; exact (Array.getElem?_eq_some_iff.1 hi).1
  have h1 := hall i f hi
  rw [List.getElem?_eq_getElem hi'] at h1
  refine ⟨xs[i].1, ⟨n, xs[i].2, h1⟩, fun m hm => hw m ?_⟩
  rw [hx.1, DataW.weights]
  simp only [ht]
  exact DataW.weights_mem_each (j := i) (by simp [hi]) (by simp [hi']) m hm
theorem tw_field {t : TypeId} {fs : Array Field} {cs : List Value} {d : DataW H} (ht : P.underlying t = some (.struct fs)) (h : Tw enc P W t cs d) (i : Nat) {f : Field} (hi : fs[i]? = some f) (ty : TypeId) (o c : Nat)
    (e1 : f.type = ty) (e2 : f.offset = o) (e3 : P.cellsOf ty = c) : ∃ d', Tw enc P W ty ((cs.drop o).take c) d' := by
  obtain ⟨d', h'⟩ := (tw_struct ht h).2 i f hi
  rw [e1, e2, e3] at h'
  exact ⟨d', h'⟩
theorem tw_slice {t e : TypeId} {cs : List Value} {d : DataW H} (ht : P.underlying t = some (.slice e)) (h : Tw enc P W t cs d) : ∃ (A : Option Addr) (n c : Nat), cs = [.slice A n c] ∧ n ≤ c ∧ c * P.bytesOf e ≤ 140737488351232 ∧
    ∀ i, i < n → ∃ ad cs' d', A = some ad ∧ Tw enc P W e cs' d' ∧ cs'.length = P.cellsOf e ∧ ∀ (j : Nat) (u : Value), cs'[j]? = some u → W.cell? (ad.add (i * P.cellsOf e + j)) = some u := by
  obtain ⟨⟨fuel, p, hf⟩, hw⟩ := h
  rcases Go.Deep.open_slice ht hf with ⟨rfl, hx⟩ | ⟨a, len, cap, m, n, D, Pl, rfl, _, hl, _, hm, hx, hr⟩
  · exact ⟨none, 0, 0, rfl, Nat.le_refl _, by simp, fun i hi => absurd hi (by omega)⟩
  · simp only [Prod.mk.injEq, if_true] at hx hm
    subst hm
    have hwd : d.weights P t = (len + (m - len)) * P.bytesOf e :: (DataW.weightsAll P e ((List.range len).map D) ++ DataW.weightsAll P e ((List.range (m - len)).map fun j => D (len + j))) := by
      rw [hx.1, DataW.weights]
      simp only [ht, List.length_map, List.length_range]
    refine ⟨some a, len, m, rfl, hl, ?_, fun i hi => ?_⟩
    · have := hw _ (by rw [hwd]; exact List.mem_cons_self)
      rw [show len + (m - len) = m by omega] at this
      exact this
    · obtain ⟨cs', h1, h2⟩ := hr i (by omega)
      obtain ⟨_, h3, h4⟩ := World.cells?_some h1
      refine ⟨a, cs', D i, rfl, ⟨⟨n, Pl i, h2⟩, fun k hk => hw k ?_⟩, h3, fun j u hu => ?_⟩
      · rw [hwd]
        exact List.mem_cons_of_mem _ (List.mem_append.2 (.inl (mem_weightsAll (List.mem_map.2 ⟨i, by simpa using hi, rfl⟩) k hk)))
      · have hj := (List.getElem?_eq_some_iff.1 hu).1
        rw [← add_of_add, h4 j (by omega)]
        exact hu
theorem list_of {α : Type} {p : Nat → α → Prop} : ∀ n : Nat, (∀ i, i < n → ∃ a, p i a) → ∃ l : List α, l.length = n ∧ ∀ i a, l[i]? = some a → p i a
  | 0, _ => ⟨[], rfl, fun i a h => by simp at h⟩
  | n + 1, h => by
    obtain ⟨l, h1, h2⟩ := list_of n (fun i hi => h i (by omega))
    obtain ⟨a, ha⟩ := h n (by omega)
    refine ⟨l ++ [a], by simp [h1], fun i b hb => ?_⟩
    by_cases hi : i < l.length
    · rw [List.getElem?_append_left hi] at hb; exact h2 i b hb
    · have hlt := (List.getElem?_eq_some_iff.1 hb).1
      simp only [List.length_append, List.length_singleton] at hlt
      have : i = l.length := by omega
      subst this
      simp at hb
      subst hb
      rw [h1]; exact ha
theorem dec_slice {α : Type} {en : α → List Value} {wf : α → Prop} {t e : TypeId} {cs : List Value} {d : DataW H} {k : Nat} (ht : P.underlying t = some (.slice e)) (hk : P.cellsOf e = k) (h0 : 0 < k) (hen : ∀ a, (en a).length = k) (hd : Dec enc P W e en wf)
    (h : Tw enc P W t cs d) : ∃ (A : Option Addr) (c : Nat) (l : List α), cs = [.slice A l.length c] ∧ l.length ≤ c ∧ c * P.bytesOf e ≤ 140737488351232 ∧ (∀ a ∈ l, wf a) ∧ Reads W W.heap.size k A l.length (l.flatMap en) := by
  obtain ⟨A, n, c, rfl, hnc, hcb, hall⟩ := tw_slice ht h
  rw [hk] at hall
  obtain ⟨l, hl, hp⟩ := list_of (p := fun i a => wf a ∧ ∃ ad, A = some ad ∧ ∀ (j : Nat) (u : Value), (en a)[j]? = some u → W.cell? (ad.add (i * k + j)) = some u) n (fun i hi => by
    obtain ⟨ad, cs', d', hA, htw, _, hc⟩ := hall i hi
    obtain ⟨a, rfl, ha⟩ := hd cs' d' htw
    exact ⟨a, ha, ad, hA, hc⟩)
  subst hl
  refine ⟨A, c, l, rfl, hnc, hcb, fun a ha => ?_, fm_length en hen l, fun hn => ?_⟩
  · obtain ⟨i, hi⟩ := List.mem_iff_getElem?.1 ha
    exact (hp i a hi).1
  · obtain ⟨x, hx⟩ : ∃ x, l[0]? = some x := ⟨_, List.getElem?_eq_getElem hn⟩
    obtain ⟨_, ad, hA, hc0⟩ := hp 0 x hx
    refine ⟨ad, hA, ?_, fun j u hu => ?_⟩
    · have hx0 : 0 < (en x).length := by rw [hen]; exact h0
      have := cell_lt (hc0 0 _ (List.getElem?_eq_getElem hx0))
      rwa [block_of_add] at this
    · have hj := (List.getElem?_eq_some_iff.1 hu).1
      rw [fm_length en hen] at hj
      have hi : j / k < l.length := Nat.div_lt_of_lt_mul (by rw [Nat.mul_comm]; exact hj)
      obtain ⟨y, hy⟩ : ∃ y, l[j / k]? = some y := ⟨_, List.getElem?_eq_getElem hi⟩
      obtain ⟨_, ad', hA', hc⟩ := hp _ y hy
      rw [hA] at hA'
      cases hA'
      have hjk : j / k * k + j % k = j := Nat.div_add_mod' j k
      have := fm_at en hen hy (Nat.mod_lt j h0)
      rw [hjk, hu] at this
      have h2 := hc (j % k) u this.symm
      rwa [hjk] at h2
theorem dec_int {t : TypeId} {k : IntKind} (ht : P.underlying t = some (.int k)) : Dec enc P W t (fun n => [Value.int k n]) (fun n => (Lit.int k n).wf = true) := fun cs d h => tw_int ht h
theorem dec_string {t : TypeId} (ht : P.underlying t = some .string) : Dec enc P W t (fun s => [Value.string s]) (fun s => s.size ≤ 140737488351232) := fun cs d h => tw_string ht h
theorem fm_single {α : Type} (f : α → Value) : ∀ l : List α, l.flatMap (fun a => [f a]) = l.map f
  | [] => rfl
  | a :: l => by rw [List.flatMap_cons, fm_single f l]; rfl
theorem open_strs {t e : TypeId} {cs : List Value} {d : DataW H} (ht : P.underlying t = some (.slice e)) (he : P.underlying e = some .string) (ce : P.cellsOf e = 1) (be : P.bytesOf e = 16) (h : Tw enc P W t cs d) :
    ∃ (A : Option Addr) (c : Nat) (l : List ByteArray), cs = [.slice A l.length c] ∧ l.length ≤ c ∧ c ≤ 140737488351232 ∧ (∀ s ∈ l, s.size ≤ 140737488351232) ∧ Reads W W.heap.size 1 A l.length (tv l) := by
  obtain ⟨A, c, l, h1, h2, h3, h4, h5⟩ := dec_slice ht ce (by decide) (fun _ => rfl) (dec_string he) h
  rw [be] at h3
  refine ⟨A, c, l, h1, h2, by omega, h4, ?_⟩
  have e : (l.flatMap fun s => [Value.string s]) = tv l := fm_single _ l
  rwa [e] at h5
theorem open_nums {t e : TypeId} {cs : List Value} {d : DataW H} (ht : P.underlying t = some (.slice e)) (he : P.underlying e = some (.int .i64)) (ce : P.cellsOf e = 1) (be : P.bytesOf e = 8) (h : Tw enc P W t cs d) :
    ∃ (A : Option Addr) (c : Nat) (l : List Int), cs = [.slice A l.length c] ∧ l.length ≤ c ∧ c ≤ 140737488351232 ∧ (∀ n ∈ l, wf64 n) ∧ Reads W W.heap.size 1 A l.length (iv l) := by
  obtain ⟨A, c, l, h1, h2, h3, h4, h5⟩ := dec_slice ht ce (by decide) (fun _ => rfl) (dec_int he) h
  rw [be] at h3
  refine ⟨A, c, l, h1, h2, by omega, h4, ?_⟩
  have e : (l.flatMap fun n => [Value.int .i64 n]) = iv l := fm_single _ l
  rwa [e] at h5
end
end Go.Proofs.YtbhdmfijdhcehaaGreatDoor
