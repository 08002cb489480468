/- Parts of the proofs, put together: Open, Open2, Or, Or2, Or3, Or4, OrM, Or5, EqS. -/
import Derived.ProofKit
import Derived.OpenShut
import Derived.ShutString
import Derived.ChangeOld
import Derived.SizedLaws
import Derived.Lib.SmallJoins
import Derived.Deep.Matrix
import Derived.ChangeSame
import Derived.Laws.RangeAny
import Derived.Test.YtfpmfegmehbfbaaGreatDoorShelf
import Derived.Lib.IndexLaws
import Derived.RangeFuncNested
import Derived.RangeFuncBound
import Derived.RangeFuncCalls
import Derived.RangeFuncLeaves
import Derived.Shelf.Abstract
import Derived.Shelf.RegionOpen
import Derived.OwnWalkIn
import Derived.TacticsInMore
import Derived.LoopNIn
import Derived.LoopIn
import Derived.Test.YtfpmfegmehbfbaaGreatDoorD2
import Derived.Test.YtfpmfegmehbfbaaGreatDoorD10
import Derived.Test.YtfpmfegmehbfbaaGreatDoorD12
import Derived.Test.YtfpmfegmehbfbaaGreatDoorD14
/- What comes in, opened: bytes, lists of bytes, arrays and structs of numbers; and how great it is at most. -/
namespace Go.Proofs.YtfpmfegmehbfbaaGreatDoor
set_option linter.unusedVariables false
set_option linter.unusedSimpArgs false
open Go.ChangeShapes Go.WideShapes Go.ChangeAt Go.RowKit

section
variable {H : Type} {enc : TypeId × Value → H} {P : Program} {W : World}

theorem cell_lt {w : World} {p : Addr} {v : Value} (hc : w.cell? p = some v) : p.block < w.heap.size := by
  refine Nat.lt_of_not_le fun hle => ?_
  have : w.heap[p.block]? = none := Array.getElem?_eq_none hle
  unfold World.cell? at hc
  simp [this] at hc

/-- How many places a slice that came in has. -/
def CapOf (d : DataW H) (c : Nat) : Prop := (d = .nil ∧ c = 0) ∨ ∃ es sp, d = .slice es sp ∧ es.length + sp.length = c

theorem cap_reach {ts : List TypeId} {ds : List (DataW H)} (hsz : (DataW.weightsEach P ts ds).all (· ≤ reachBytes) = true) {j : Nat} {t e : TypeId} {d : DataW H} {c B : Nat} (ht : ts[j]? = some t) (hd : ds[j]? = some d)
    (hu : P.underlying t = some (.slice e)) (hB : P.bytesOf e = B) (h : CapOf d c) : c * B ≤ 140737488351232 := by
  rcases h with ⟨rfl, rfl⟩ | ⟨es, sp, rfl, rfl⟩
  · omega
  · have := sized_slice hsz ht hd hu
    rw [hB] at this
    simp only [reachBytes] at this
    exact this
theorem byte_of_wf {n : Int} (h : (Lit.int .u8 n).wf = true) : n = ((n.toNat : Nat) : Int) ∧ n.toNat < 256 := by
  simp [Lit.wf, IntKind.min, IntKind.max, IntKind.signed, IntKind.bits] at h
  omega
/-- Numbers that lie from a place on, as a slice that reads. -/
theorem reads_of {k : IntKind} {a : Addr} {n : Nat} {zs : List Int} (hn : n ≤ zs.length) (hc : ∀ i, i < zs.length → W.cell? (a.add i) = some (.int k (zs.getD i 0))) :
    Reads W W.heap.size 1 (some a) n ((zs.take n).map (Value.int k)) := by
  refine ⟨by simp [hn], fun h0 => ⟨a, rfl, ?_, fun j u hj => ?_⟩⟩
  · have := cell_lt (hc 0 (by omega))
    rwa [block_of_add] at this
  · rw [List.getElem?_map, List.getElem?_take] at hj
    split at hj
    · rename_i hjn
      have hjl : j < zs.length := by omega
      rw [List.getElem?_eq_getElem hjl] at hj
      simp at hj
      subst hj
      rw [hc j hjl]
      simp [hjl]
    · cases hj
theorem bv_of {zs : List Int} (hw : ∀ n ∈ zs, (Lit.int .u8 n).wf = true) : zs.map (Value.int .u8) = bv (zs.map Int.toNat) ∧ ∀ x ∈ zs.map Int.toNat, x < 256 := by
  refine ⟨?_, fun x hx => ?_⟩
  · unfold bv
    rw [List.map_map]
    refine List.map_congr_left fun n hn => ?_
    show Value.int .u8 n = Value.int .u8 ((n.toNat : Nat) : Int)
    rw [← (byte_of_wf (hw n hn)).1]
  · obtain ⟨n, hn, rfl⟩ := List.mem_map.1 hx
    exact (byte_of_wf (hw n hn)).2

/-- Bytes that came in. -/
theorem open_bytes {t e : TypeId} {A : Option Addr} {n c : Nat} {d : DataW H} {p : List MemPlace} (ht : P.underlying t = some (.slice e)) (he : P.underlying e = some (.int .u8)) (hc : P.cellsOf e = 1)
    (h : DataW.Trod enc P W 0 (fun _ => true) true t (.slice A n c) d p) :
    ∃ l : List Nat, l.length = n ∧ n ≤ c ∧ (∀ x ∈ l, x < 256) ∧ Reads W W.heap.size 1 A n (bv l) ∧ CapOf d c := by
  obtain ⟨fuel, hf⟩ := h
  rcases open_ints ht he hc hf with ⟨hcs, hx⟩ | ⟨a, n', c', zs, hcs, _, hl, _, hz, hx, hcell, hwz⟩
  · simp [Value.cells] at hcs
    obtain ⟨rfl, rfl, rfl⟩ := hcs
    simp only [Prod.mk.injEq] at hx
    exact ⟨[], rfl, Nat.le_refl _, by simp, Reads.none_, .inl ⟨hx.1, rfl⟩⟩
  · simp [Value.cells] at hcs
    obtain ⟨rfl, rfl, rfl⟩ := hcs
    simp only [Prod.mk.injEq, if_true] at hx hz
    obtain ⟨e1, e2⟩ := bv_of (zs := zs.take n) (fun m hm => hwz m (List.mem_of_mem_take hm))
    have hr := reads_of (n := n) (by omega) hcell
    rw [e1] at hr
    exact ⟨(zs.take n).map Int.toNat, by simp; omega, hl, e2, hr, .inr ⟨_, _, hx.1, by simp [lits]; omega⟩⟩

theorem mem_weightsAll {e : TypeId} {d : DataW H} : ∀ {l : List (DataW H)}, d ∈ l → ∀ n ∈ d.weights P e, n ∈ DataW.weightsAll P e l
  | x :: l, hd, n, hn => by
    rw [DataW.weightsAll, List.mem_append]
    rcases List.mem_cons.1 hd with rfl | hd
    · exact .inl hn
    · exact .inr (mem_weightsAll hd n hn)

end
end Go.Proofs.YtfpmfegmehbfbaaGreatDoor

/- Opening an argument that is a struct of two words. -/
namespace Go.Proofs.YtfpmfegmehbfbaaGreatDoor
set_option linter.unusedVariables false
set_option linter.unusedSimpArgs false
open Go.RowKit Go.WideShapes Go.ChangeShapes

section
variable {P : Program} {H : Type} {enc : TypeId × Value → H} {W : World}
end
end Go.Proofs.YtfpmfegmehbfbaaGreatDoor

/- Names, walked: edge, inner, label, told. -/
namespace Go.Proofs.YtfpmfegmehbfbaaGreatDoor
set_option linter.unusedVariables false
set_option linter.unusedSimpArgs false
open Go.RowKit Go.Shelf

def edgeB (c : Int) : Bool := decide (97 ≤ c ∧ c ≤ 122 ∨ 48 ≤ c ∧ c ≤ 57)
theorem edge_any (c : Int) (w : World) : Calls Tryz.prog 300 #[.int .i32 c] w fun e w' => e = .returned (.bool (edgeB c)) ∧ w' = w := by
  go_enter Tryz.func300, Tryz.ntmps300
  by_cases h1 : 97 ≤ c <;> by_cases h2 : c ≤ 122 <;> by_cases h3 : 48 ≤ c <;> by_cases h4 : c ≤ 57
  all_goals
    first
    | (exfalso; omega)
    | (go_wp2
       go_ret
       exact ⟨by simp [edgeB, *], rfl⟩)
theorem inner_any (c : Int) (w : World) : Calls Tryz.prog 301 #[.int .i32 c] w fun e w' => e = .returned (.bool (decide (c = 45) || edgeB c)) ∧ w' = w := by
  have c1 := edge_any c
  go_enter Tryz.func301, Tryz.ntmps301
  by_cases h1 : c = 45
  · go_wp2
    go_ret
    exact ⟨by simp [h1], rfl⟩
  · go_wp2_with (go_at_call 300; refine (c1 _).mono ?_; clear c1; rintro e w1 ⟨rfl, rfl⟩)
    go_ret
    exact ⟨by simp [h1], rfl⟩
theorem told_any (b : Bool) (w : World) : Calls Tryz.prog 252 #[.bool b] w fun e w' => e = .returned (.int .i64 (if b = true then 0 else 110)) ∧ w' = w := by
  go_enter Tryz.func252, Tryz.ntmps252
  cases b
  · go_wp2
    go_ret
    exact ⟨rfl, rfl⟩
  · go_wp2
    go_ret
    exact ⟨rfl, rfl⟩
end Go.Proofs.YtfpmfegmehbfbaaGreatDoor

/- Names, walked: label. -/
namespace Go.Proofs.YtfpmfegmehbfbaaGreatDoor
set_option linter.unusedVariables false
set_option linter.unusedSimpArgs false
open Go.RowKit Go.Shelf

theorem txN_get (s : ByteArray) (i : Nat) (h : i < s.size) (h' : i < (txN s).length) : (txN s)[i] = (s[i]'h).toNat := by
  simp only [txN, List.getElem_map]
  rfl
theorem txN_len (s : ByteArray) : (txN s).length = s.size := by unfold txN; rw [List.length_map, Array.length_toList]; rfl
/-- So many bytes are right. -/
def labTo (s : ByteArray) (pos : Nat) : Prop := ∀ i (h : i < s.size), i < pos → okAt s.size i (s[i]'h).toNat
theorem labTo_succ {s : ByteArray} {pos : Nat} (h : pos < s.size) (k : labTo s pos) (o : okAt s.size pos (s[pos]'h).toNat) : labTo s (pos + 1) := fun i hi hp => by
  by_cases e : i = pos
  · subst e; exact o
  · exact k i hi (by omega)
theorem lab_yes {s : ByteArray} (h1 : 0 < s.size) (h2 : s.size ≤ 16) (k : labTo s s.size) : labP (txN s) := by
  refine ⟨by rw [txN_len]; exact h1, by rw [txN_len]; exact h2, fun i hi => ?_⟩
  rw [txN_len] at hi
  rw [txN_get s i hi, txN_len]
  exact k i hi hi
theorem lab_no {s : ByteArray} {pos : Nat} (h : pos < s.size) (o : ¬ okAt s.size pos (s[pos]'h).toNat) : ¬ labP (txN s) := fun hl => by
  have := hl.2.2 pos (by rw [txN_len]; exact h)
  rw [txN_get s pos h, txN_len] at this
  exact o this
theorem edge_word (c : Nat) : edgeB (c : Int) = decide (wordP c) := by unfold edgeB wordP; congr 1; apply propext; omega
theorem ok_ascii {n i c : Nat} (h : okAt n i c) : c < 128 := by
  unfold okAt wordP at h
  repeat' split at h
  all_goals omega

theorem edge_iff {c : Nat} : edgeB (c : Int) = true ↔ wordP c := by rw [edge_word]; simp
theorem edge_no {c : Nat} (h : edgeB (c : Int) = false) : ¬ wordP c := by rw [edge_word] at h; simpa using h
theorem edge_high {c : Nat} (h : 128 ≤ c) : edgeB (c : Int) = false := by unfold edgeB; rw [decide_eq_false]; omega
set_option maxRecDepth 100000 in
set_option maxHeartbeats 4000000 in
theorem label_any (s : ByteArray) (w : World) : Calls Tryz.prog 260 #[.string s] w fun e w' => e = .returned (.bool (decide (labP (txN s)))) ∧ Ext w w' := by
  have c1 := edge_any
  have c2 := inner_any
  go_enter Tryz.func260, Tryz.ntmps260
  by_cases hn : s = ByteArray.empty
  · subst hn
    go_wp2
    go_ret
    exact ⟨rfl, Ext.refl w⟩
  have hpos : 0 < s.size := Nat.pos_of_ne_zero fun h => hn (ByteArray.size_eq_zero_iff.1 h)
  have hE : s.toList.isEmpty = false := by
    rw [ByteArray.toList_eq]
    cases hl : s.data.toList with
    | nil => exact absurd (by rw [← Array.length_toList, hl]; rfl : s.data.size = 0) (Nat.pos_iff_ne_zero.1 hpos)
    | cons _ _ => rfl
  have hE2 : ¬ s.toList = [] := fun h => by rw [h] at hE; cases hE
  clear hn
  by_cases hl : ¬ s.size ≤ 16
  · have h16 : (16 : Int) < s.size := by omega
    go_wp2
    go_ret
    exact ⟨ret_bool (by rw [decide_eq_false]; intro h; have := h.2.1; rw [txN_len] at this; omega), Ext.refl w⟩
  replace hl := Decidable.not_not.1 hl
  have h16 : ¬ (16 : Int) < s.size := by omega
  go_wp2
  go_loopg [3, 4] s.size (fun g s3 s4 wr => ∃ pos : Nat, pos + g = s.size ∧ wr = w.iter s pos ∧ labTo s pos)
  case atStart => exact ⟨0, by omega, rfl, fun i h h' => by omega⟩
  case round =>
    obtain ⟨pos, hp, rfl, hk⟩ := hrel
    by_cases h : pos < s.size
    · have hlab := fun o => labTo_succ h hk o
      have hno := fun o => lab_no h o
      by_cases ha : (s[pos]'h).toNat < 128
      · have hnx := fun ty => run_next_ascii (P := Tryz.prog) w s pos ty h ha
        generalize (s[pos]'h).toNat = c at *
        have HLAB := Lib.hid hlab
        have HNO := Lib.hid hno
        clear hlab hno ha hk
        by_cases hL : (pos : Int) = (s.size : Int) - 1
        · have HOK : Hid (okAt s.size pos c ↔ wordP c) := Lib.hid (by unfold okAt; rw [if_pos (by omega)])
          by_cases he : edgeB (c : Int) = true
          · go_wp2_with (first | (go_at_call 300; refine (c1 _ _).mono ?_; rintro e w1 ⟨rfl, rfl⟩) | (go_at_call 301; refine (c2 _ _).mono ?_; rintro e w1 ⟨rfl, rfl⟩))
            go_roundg (gk - 1)
            case measure => omega
            case rel => exact ⟨pos + 1, by omega, rfl, HLAB.out (HOK.out.2 (edge_iff.1 he))⟩
          · replace he : edgeB (c : Int) = false := by simpa using he
            go_wp2_with (first | (go_at_call 300; refine (c1 _ _).mono ?_; rintro e w1 ⟨rfl, rfl⟩) | (go_at_call 301; refine (c2 _ _).mono ?_; rintro e w1 ⟨rfl, rfl⟩))
            go_ret
            exact ⟨ret_bool (by rw [decide_eq_false]; exact HNO.out (fun o => edge_no he (HOK.out.1 o))), (Ext.refl w).alloc _⟩
        · by_cases h0 : (pos : Int) = 0
          · have HOK : Hid (okAt s.size pos c ↔ wordP c ∨ c = 95) := Lib.hid (by unfold okAt; rw [if_neg (by omega), if_pos (by omega)])
            by_cases he : edgeB (c : Int) = true
            · go_wp2_with (first | (go_at_call 300; refine (c1 _ _).mono ?_; rintro e w1 ⟨rfl, rfl⟩) | (go_at_call 301; refine (c2 _ _).mono ?_; rintro e w1 ⟨rfl, rfl⟩))
              go_roundg (gk - 1)
              case measure => omega
              case rel => exact ⟨pos + 1, by omega, rfl, HLAB.out (HOK.out.2 (.inl (edge_iff.1 he)))⟩
            · replace he : edgeB (c : Int) = false := by simpa using he
              by_cases h95 : (c : Int) = 95
              · go_wp2_with (first | (go_at_call 300; refine (c1 _ _).mono ?_; rintro e w1 ⟨rfl, rfl⟩) | (go_at_call 301; refine (c2 _ _).mono ?_; rintro e w1 ⟨rfl, rfl⟩))
                go_roundg (gk - 1)
                case measure => omega
                case rel => exact ⟨pos + 1, by omega, rfl, HLAB.out (HOK.out.2 (.inr (by omega)))⟩
              · go_wp2_with (first | (go_at_call 300; refine (c1 _ _).mono ?_; rintro e w1 ⟨rfl, rfl⟩) | (go_at_call 301; refine (c2 _ _).mono ?_; rintro e w1 ⟨rfl, rfl⟩))
                go_ret
                exact ⟨ret_bool (by rw [decide_eq_false]; exact HNO.out (fun o => (HOK.out.1 o).elim (edge_no he) (fun h => h95 (by omega)))), (Ext.refl w).alloc _⟩
          · have HOK : Hid (okAt s.size pos c ↔ wordP c ∨ c = 45) := Lib.hid (by unfold okAt; rw [if_neg (by omega), if_neg (by omega)])
            by_cases he : edgeB (c : Int) = true
            · go_wp2_with (first | (go_at_call 300; refine (c1 _ _).mono ?_; rintro e w1 ⟨rfl, rfl⟩) | (go_at_call 301; refine (c2 _ _).mono ?_; rintro e w1 ⟨rfl, rfl⟩))
              go_roundg (gk - 1)
              case measure => omega
              case rel => exact ⟨pos + 1, by omega, rfl, HLAB.out (HOK.out.2 (.inl (edge_iff.1 he)))⟩
            · replace he : edgeB (c : Int) = false := by simpa using he
              by_cases h45 : (c : Int) = 45
              · go_wp2_with (first | (go_at_call 300; refine (c1 _ _).mono ?_; rintro e w1 ⟨rfl, rfl⟩) | (go_at_call 301; refine (c2 _ _).mono ?_; rintro e w1 ⟨rfl, rfl⟩))
                go_roundg (gk - 1)
                case measure => omega
                case rel => exact ⟨pos + 1, by omega, rfl, HLAB.out (HOK.out.2 (.inr (by omega)))⟩
              · go_wp2_with (first | (go_at_call 300; refine (c1 _ _).mono ?_; rintro e w1 ⟨rfl, rfl⟩) | (go_at_call 301; refine (c2 _ _).mono ?_; rintro e w1 ⟨rfl, rfl⟩))
                go_ret
                exact ⟨ret_bool (by rw [decide_eq_false]; exact HNO.out (fun o => (HOK.out.1 o).elim (edge_no he) (fun h => h45 (by omega)))), (Ext.refl w).alloc _⟩
      · have hnx := fun ty => run_next_any (P := Tryz.prog) w s pos ty h
        have hd := (decode_high s pos h (by omega)).1
        have hbad : ¬ labP (txN s) := hno (fun o => ha (ok_ascii o))
        generalize (Utf8.decode s pos).1 = c at *
        generalize pos + (Utf8.decode s pos).2 = pos' at *
        have he := edge_high hd
        have h45 : ¬ (c : Int) = 45 := by omega
        have h95 : ¬ (c : Int) = 95 := by omega
        have HB := Lib.hid hbad
        clear hlab hno ha hk hbad hd
        by_cases hL : (pos : Int) = (s.size : Int) - 1
        · go_wp2_with (first | (go_at_call 300; refine (c1 _ _).mono ?_; rintro e w1 ⟨rfl, rfl⟩) | (go_at_call 301; refine (c2 _ _).mono ?_; rintro e w1 ⟨rfl, rfl⟩))
          go_ret
          exact ⟨ret_bool (by rw [decide_eq_false]; exact HB.out), (Ext.refl w).alloc _⟩
        · by_cases h0 : (pos : Int) = 0
          · go_wp2_with (first | (go_at_call 300; refine (c1 _ _).mono ?_; rintro e w1 ⟨rfl, rfl⟩) | (go_at_call 301; refine (c2 _ _).mono ?_; rintro e w1 ⟨rfl, rfl⟩))
            go_ret
            exact ⟨ret_bool (by rw [decide_eq_false]; exact HB.out), (Ext.refl w).alloc _⟩
          · go_wp2_with (first | (go_at_call 300; refine (c1 _ _).mono ?_; rintro e w1 ⟨rfl, rfl⟩) | (go_at_call 301; refine (c2 _ _).mono ?_; rintro e w1 ⟨rfl, rfl⟩))
            go_ret
            exact ⟨ret_bool (by rw [decide_eq_false]; exact HB.out), (Ext.refl w).alloc _⟩
    · have hnx := fun ty => run_next_end (P := Tryz.prog) w s pos ty h
      have hy : labP (txN s) := lab_yes hpos hl (fun i hi _ => hk i hi (by omega))
      go_wp2
      go_ret
      exact ⟨ret_bool (by simp [hy]), (Ext.refl w).alloc _⟩
end Go.Proofs.YtfpmfegmehbfbaaGreatDoor

/- Names, walked: the document's word and label. -/
namespace Go.Proofs.YtfpmfegmehbfbaaGreatDoor
set_option linter.unusedVariables false
set_option linter.unusedSimpArgs false
open Go.RowKit Go.Shelf

end Go.Proofs.YtfpmfegmehbfbaaGreatDoor

/- Names, walked: the document's cut. -/
namespace Go.Proofs.YtfpmfegmehbfbaaGreatDoor
set_option linter.unusedVariables false
set_option linter.unusedSimpArgs false
open Go.RowKit Go.Shelf

/-- Texts as cells. -/
def tv (l : List ByteArray) : List Value := l.map Value.string
theorem tv_length (l : List ByteArray) : (tv l).length = l.length := by simp [tv]
theorem tv_at {l : List ByteArray} {k : Nat} {x : ByteArray} (h : l[k]? = some x) : (tv l)[k]? = some (.string x) := by simp [tv, h]
theorem reads_text {w : World} {B n : Nat} {A : Option Addr} {l : List ByteArray} (h : Reads w B 1 A n (tv l)) {k : Nat} {x : ByteArray} (hk : l[k]? = some x) : ∃ ad, A = some ad ∧ w.cell? (ad.add k) = some (.string x) := by
  have hl := (List.getElem?_eq_some_iff.1 hk).1
  have h1 := h.1
  rw [tv_length] at h1
  obtain ⟨ad, e, _, hc⟩ := h.2 (by omega)
  exact ⟨ad, e, hc _ _ (tv_at hk)⟩
theorem Tryz.infoStr : (Tryz.prog.info? 9).map (fun i => (i.zero, i.size, i.bytes)) = some (some (.string ⟨#[]⟩), 1, 16) := by kernel_rfl
end Go.Proofs.YtfpmfegmehbfbaaGreatDoor

/- The door in memory: nonces, accounts, authorizations, orders as cells. -/
namespace Go.Proofs.YtfpmfegmehbfbaaGreatDoor
set_option linter.unusedVariables false
set_option linter.unusedSimpArgs false
open Go.RowKit Go.Shelf

/-! ### lists of structs as cells -/
section
variable {α : Type} (enc : α → List Value) {k : Nat}
theorem fm_length (hk : ∀ x, (enc x).length = k) : ∀ l : List α, (l.flatMap enc).length = l.length * k
  | [] => by simp
  | a :: l => by rw [List.flatMap_cons, List.length_append, hk, fm_length hk l, List.length_cons, Nat.add_mul, Nat.one_mul, Nat.add_comm]
theorem fm_at (hk : ∀ x, (enc x).length = k) : ∀ {l : List α} {j : Nat} {x : α}, l[j]? = some x → ∀ {i : Nat}, i < k → (l.flatMap enc)[j * k + i]? = (enc x)[i]?
  | [], j, x, h, i, hi => by simp at h
  | a :: l, 0, x, h, i, hi => by
    simp at h; subst h
    rw [List.flatMap_cons, Nat.zero_mul, Nat.zero_add, List.getElem?_append_left (by rw [hk]; exact hi)]
  | a :: l, j + 1, x, h, i, hi => by
    simp at h
    rw [List.flatMap_cons, List.getElem?_append_right (by rw [hk, Nat.add_mul]; omega), hk, show (j + 1) * k + i - k = j * k + i by rw [Nat.add_mul]; omega]
    exact fm_at hk h hi
theorem fm_append (l m : List α) : (l ++ m).flatMap enc = l.flatMap enc ++ m.flatMap enc := List.flatMap_append
variable {w : World} {B n : Nat} {A : Option Addr}
theorem reads_fm (hk : ∀ x, (enc x).length = k) {l : List α} (h : Reads w B k A n (l.flatMap enc)) {j : Nat} {x : α} (hj : l[j]? = some x) (h0 : 0 < k) :
    ∃ ad, A = some ad ∧ ad.block < B ∧ ∀ i u, (enc x)[i]? = some u → w.cell? ((ad.add (j * k)).add i) = some u := by
  have hl := (List.getElem?_eq_some_iff.1 hj).1
  have h1 := h.1
  rw [fm_length enc hk] at h1
  have : l.length = n := Nat.eq_of_mul_eq_mul_right h0 h1
  obtain ⟨ad, e, hb, hc⟩ := h.2 (by omega)
  refine ⟨ad, e, hb, fun i u hu => ?_⟩
  have hi : i < k := by rw [← hk x]; exact (List.getElem?_eq_some_iff.1 hu).1
  rw [add_of_add]
  exact hc _ u (by rw [fm_at enc hk hj hi]; exact hu)
end
theorem add_succ_eq (a : Addr) (i : Nat) : a.add (i + 1) = ⟨a.block, a.off + (i + 1), none⟩ := by unfold Addr.add; simp

def nonC (x : NonR) : List Value := [.int .i64 x.n, .int .i64 x.u]
def nonV (l : List NonR) : List Value := l.flatMap nonC
def accC (x : AccR) : List Value := [.int .i64 x.id, .int .u64 (x.key : Int)]
def accV (l : List AccR) : List Value := l.flatMap accC
def autC (x : AutR) : List Value := [.int .i64 x.id, .int .i64 x.acc, .string x.name, .string x.tok, .int .i64 x.st, .int .i64 x.fr, .int .i64 x.un]
def autV (l : List AutR) : List Value := l.flatMap autC
/-- An order, and where its names and its authorizations lie. -/
structure OrdX where
  (o : OrdR) (nA : Option Addr) (nc : Nat) (aA : Option Addr) (ac : Nat)
def ordC (x : OrdX) : List Value := [.int .i64 x.o.id, .int .i64 x.o.acc, .slice x.nA x.o.names.length x.nc, .int .u64 (x.o.key : Int), .int .i64 x.o.life, .slice x.aA x.o.auths.length x.ac, .int .i64 x.o.st, .int .i64 x.o.ser]
def ordV (l : List OrdX) : List Value := l.flatMap ordC
theorem nonV_length (l : List NonR) : (nonV l).length = l.length * 2 := fm_length nonC (fun _ => rfl) l
theorem nonV_append (l m : List NonR) : nonV (l ++ m) = nonV l ++ nonV m := fm_append nonC l m
theorem accV_append (l m : List AccR) : accV (l ++ m) = accV l ++ accV m := fm_append accC l m
theorem autV_append (l m : List AutR) : autV (l ++ m) = autV l ++ autV m := fm_append autC l m
theorem ordV_append (l m : List OrdX) : ordV (l ++ m) = ordV l ++ ordV m := fm_append ordC l m
theorem fm_one {α : Type} (enc : α → List Value) (h : ∀ x, ∀ u ∈ enc x, u.oneCell' = true) (l : List α) : ∀ u ∈ l.flatMap enc, u.oneCell' = true := by
  intro u hu; obtain ⟨a, _, ha⟩ := List.mem_flatMap.1 hu; exact h a u ha
theorem nonV_one (l : List NonR) : ∀ u ∈ nonV l, u.oneCell' = true := fm_one nonC (fun x u hu => by simp [nonC] at hu; rcases hu with rfl | rfl <;> rfl) l
theorem accV_one (l : List AccR) : ∀ u ∈ accV l, u.oneCell' = true := fm_one accC (fun x u hu => by simp [accC] at hu; rcases hu with rfl | rfl <;> rfl) l
theorem autV_one (l : List AutR) : ∀ u ∈ autV l, u.oneCell' = true := fm_one autC (fun x u hu => by simp [autC] at hu; rcases hu with rfl | rfl | rfl | rfl | rfl | rfl | rfl <;> rfl) l
theorem ordV_one (l : List OrdX) : ∀ u ∈ ordV l, u.oneCell' = true := fm_one ordC (fun x u hu => by simp [ordC] at hu; rcases hu with rfl | rfl | rfl | rfl | rfl | rfl | rfl | rfl <;> rfl) l
theorem tv_one (l : List ByteArray) : ∀ u ∈ tv l, u.oneCell' = true := by
  intro u hu; obtain ⟨a, _, rfl⟩ := List.mem_map.1 hu; rfl

section
variable {w : World} {B n : Nat} {A : Option Addr}
theorem reads_non {l : List NonR} (h : Reads w B 2 A n (nonV l)) {j : Nat} {x : NonR} (hj : l[j]? = some x) :
    ∃ ad, A = some ad ∧ ad.block < B ∧ w.cell? (ad.add (j * 2)) = some (.int .i64 x.n) ∧ w.cell? ⟨(ad.add (j * 2)).block, (ad.add (j * 2)).off + 1, none⟩ = some (.int .i64 x.u) := by
  obtain ⟨ad, e, hb, hc⟩ := reads_fm nonC (fun _ => rfl) h hj (by decide)
  refine ⟨ad, e, hb, ?_, ?_⟩
  · have := hc 0 _ rfl; rwa [add_of_add, Nat.add_zero] at this
  · rw [← add_succ_eq _ 0]; exact hc 1 _ rfl
theorem reads_acc {l : List AccR} (h : Reads w B 2 A n (accV l)) {j : Nat} {x : AccR} (hj : l[j]? = some x) :
    ∃ ad, A = some ad ∧ ad.block < B ∧ w.cell? (ad.add (j * 2)) = some (.int .i64 x.id) ∧ w.cell? ⟨(ad.add (j * 2)).block, (ad.add (j * 2)).off + 1, none⟩ = some (.int .u64 (x.key : Int)) := by
  obtain ⟨ad, e, hb, hc⟩ := reads_fm accC (fun _ => rfl) h hj (by decide)
  refine ⟨ad, e, hb, ?_, ?_⟩
  · have := hc 0 _ rfl; rwa [add_of_add, Nat.add_zero] at this
  · rw [← add_succ_eq _ 0]; exact hc 1 _ rfl
/-- An authorization's seven cells. -/
def AutAt (w : World) (p : Addr) (x : AutR) : Prop :=
  w.cell? p = some (.int .i64 x.id) ∧ w.cell? ⟨p.block, p.off + 1, none⟩ = some (.int .i64 x.acc) ∧ w.cell? ⟨p.block, p.off + 2, none⟩ = some (.string x.name) ∧
  w.cell? ⟨p.block, p.off + 3, none⟩ = some (.string x.tok) ∧ w.cell? ⟨p.block, p.off + 4, none⟩ = some (.int .i64 x.st) ∧ w.cell? ⟨p.block, p.off + 5, none⟩ = some (.int .i64 x.fr) ∧ w.cell? ⟨p.block, p.off + 6, none⟩ = some (.int .i64 x.un)
theorem reads_aut {l : List AutR} (h : Reads w B 7 A n (autV l)) {j : Nat} {x : AutR} (hj : l[j]? = some x) : ∃ ad, A = some ad ∧ ad.block < B ∧ AutAt w (ad.add (j * 7)) x := by
  obtain ⟨ad, e, hb, hc⟩ := reads_fm autC (fun _ => rfl) h hj (by decide)
  refine ⟨ad, e, hb, ?_, ?_, ?_, ?_, ?_, ?_, ?_⟩
  · have := hc 0 _ rfl; rwa [add_of_add, Nat.add_zero] at this
  · rw [← add_succ_eq _ 0]; exact hc 1 _ rfl
  · rw [← add_succ_eq _ 1]; exact hc 2 _ rfl
  · rw [← add_succ_eq _ 2]; exact hc 3 _ rfl
  · rw [← add_succ_eq _ 3]; exact hc 4 _ rfl
  · rw [← add_succ_eq _ 4]; exact hc 5 _ rfl
  · rw [← add_succ_eq _ 5]; exact hc 6 _ rfl
/-- An order's eight cells. -/
def OrdAt (w : World) (p : Addr) (x : OrdX) : Prop :=
  w.cell? p = some (.int .i64 x.o.id) ∧ w.cell? ⟨p.block, p.off + 1, none⟩ = some (.int .i64 x.o.acc) ∧ w.cell? ⟨p.block, p.off + 2, none⟩ = some (.slice x.nA x.o.names.length x.nc) ∧
  w.cell? ⟨p.block, p.off + 3, none⟩ = some (.int .u64 (x.o.key : Int)) ∧ w.cell? ⟨p.block, p.off + 4, none⟩ = some (.int .i64 x.o.life) ∧ w.cell? ⟨p.block, p.off + 5, none⟩ = some (.slice x.aA x.o.auths.length x.ac) ∧
  w.cell? ⟨p.block, p.off + 6, none⟩ = some (.int .i64 x.o.st) ∧ w.cell? ⟨p.block, p.off + 7, none⟩ = some (.int .i64 x.o.ser)
theorem reads_ord {l : List OrdX} (h : Reads w B 8 A n (ordV l)) {j : Nat} {x : OrdX} (hj : l[j]? = some x) : ∃ ad, A = some ad ∧ ad.block < B ∧ OrdAt w (ad.add (j * 8)) x := by
  obtain ⟨ad, e, hb, hc⟩ := reads_fm ordC (fun _ => rfl) h hj (by decide)
  refine ⟨ad, e, hb, ?_, ?_, ?_, ?_, ?_, ?_, ?_, ?_⟩
  · have := hc 0 _ rfl; rwa [add_of_add, Nat.add_zero] at this
  · rw [← add_succ_eq _ 0]; exact hc 1 _ rfl
  · rw [← add_succ_eq _ 1]; exact hc 2 _ rfl
  · rw [← add_succ_eq _ 2]; exact hc 3 _ rfl
  · rw [← add_succ_eq _ 3]; exact hc 4 _ rfl
  · rw [← add_succ_eq _ 4]; exact hc 5 _ rfl
  · rw [← add_succ_eq _ 5]; exact hc 6 _ rfl
  · rw [← add_succ_eq _ 6]; exact hc 7 _ rfl
end

/-! ### a door -/
/-- Sizes and kinds of what a door holds. -/
def wf64 (n : Int) : Prop := (Lit.int .i64 n).wf = true
structure AccW (x : AccR) : Prop where
  id : wf64 x.id
  key : x.key < 18446744073709551616
structure AutW (x : AutR) : Prop where
  id : wf64 x.id
  acc : wf64 x.acc
  st : wf64 x.st
  fr : wf64 x.fr
  un : wf64 x.un
  name : x.name.size ≤ 140737488355328
  tok : x.tok.size ≤ 140737488355328
/-- An order lies where it lies. -/
structure OrdW (w : World) (B : Nat) (x : OrdX) : Prop where
  id : wf64 x.o.id
  acc : wf64 x.o.acc
  key : x.o.key < 18446744073709551616
  life : wf64 x.o.life
  st : wf64 x.o.st
  ser : wf64 x.o.ser
  names : Reads w B 1 x.nA x.o.names.length (tv x.o.names)
  nc : x.o.names.length ≤ x.nc
  nl : x.o.names.length ≤ 1099511627776
  ns : ∀ s ∈ x.o.names, s.size ≤ 140737488355328
  auths : Reads w B 1 x.aA x.o.auths.length (iv x.o.auths)
  ac : x.o.auths.length ≤ x.ac
  al : x.o.auths.length ≤ 1099511627776
  aw : ∀ n ∈ x.o.auths, wf64 n
/-- A door and where its parts lie. -/
structure DoorX where
  (next ser : Int) (opn : List NonR) (accs : List AccR) (auts : List AutR) (ords : List OrdX)
  (oA : Option Addr) (oc : Nat) (cA : Option Addr) (cc : Nat) (uA : Option Addr) (uc : Nat) (rA : Option Addr) (rc : Nat)
def DoorX.fro (d : DoorX) : FroR := ⟨d.next, d.opn, d.accs, d.auts, d.ords.map (·.o), d.ser⟩
structure NonsW (w : World) (B : Nat) (next : Int) (l : List NonR) (A : Option Addr) (c : Nat) : Prop where
  nx : wf64 next
  lst : Reads w B 2 A l.length (nonV l)
  cap : l.length ≤ c
  len : l.length ≤ 1099511627776
  wf : ∀ x ∈ l, wf64 x.n ∧ wf64 x.u
structure DoorW (w : World) (B : Nat) (d : DoorX) : Prop where
  non : NonsW w B d.next d.opn d.oA d.oc
  ser : wf64 d.ser
  acc : Reads w B 2 d.cA d.accs.length (accV d.accs)
  cc : d.accs.length ≤ d.cc
  cl : d.accs.length ≤ 1099511627776
  cw : ∀ x ∈ d.accs, AccW x
  aut : Reads w B 7 d.uA d.auts.length (autV d.auts)
  uc : d.auts.length ≤ d.uc
  ul : d.auts.length ≤ 1099511627776
  uw : ∀ x ∈ d.auts, AutW x
  ord : Reads w B 8 d.rA d.ords.length (ordV d.ords)
  rc : d.ords.length ≤ d.rc
  rl : d.ords.length ≤ 1099511627776
  rw : ∀ x ∈ d.ords, OrdW w B x
def fenV (next : Int) (l : List NonR) (A : Option Addr) (c : Nat) : Value := .agg #[.int .i64 next, .slice A l.length c]
section
variable {w w' : World} {B B' : Nat}
theorem OrdW.keep {x : OrdX} (h : OrdW w B x) (hb : Below B w w') (hB : B ≤ B') : OrdW w' B' x :=
  ⟨h.id, h.acc, h.key, h.life, h.st, h.ser, (h.names.below hb).more hB, h.nc, h.nl, h.ns, (h.auths.below hb).more hB, h.ac, h.al, h.aw⟩
theorem NonsW.keep {next : Int} {l : List NonR} {A : Option Addr} {c : Nat} (h : NonsW w B next l A c) (hb : Below B w w') (hB : B ≤ B') : NonsW w' B' next l A c :=
  ⟨h.nx, (h.lst.below hb).more hB, h.cap, h.len, h.wf⟩
theorem DoorW.keep {d : DoorX} (h : DoorW w B d) (hb : Below B w w') (hB : B ≤ B') : DoorW w' B' d :=
  ⟨h.non.keep hb hB, h.ser, (h.acc.below hb).more hB, h.cc, h.cl, h.cw, (h.aut.below hb).more hB, h.uc, h.ul, h.uw, (h.ord.below hb).more hB, h.rc, h.rl, fun x hx => (h.rw x hx).keep hb hB⟩
theorem DoorW.ext {d : DoorX} (h : DoorW w w.heap.size d) (x : Ext w w') : DoorW w' w'.heap.size d := h.keep x.out x.size
theorem NonsW.ext {next : Int} {l : List NonR} {A : Option Addr} {c : Nat} (h : NonsW w w.heap.size next l A c) (x : Ext w w') : NonsW w' w'.heap.size next l A c := h.keep x.out x.size
theorem OrdW.ext {o : OrdX} (h : OrdW w w.heap.size o) (x : Ext w w') : OrdW w' w'.heap.size o := h.keep x.out x.size
end
theorem wf64_of {n : Int} (h1 : -9223372036854775808 ≤ n) (h2 : n ≤ 9223372036854775807) : wf64 n := by
  unfold wf64; simp [Lit.wf, IntKind.min, IntKind.max, IntKind.signed, IntKind.bits]; omega
theorem wf64_out {n : Int} (h : wf64 n) : -9223372036854775808 ≤ n ∧ n ≤ 9223372036854775807 := by
  unfold wf64 at h; simp [Lit.wf, IntKind.min, IntKind.max, IntKind.signed, IntKind.bits] at h; omega
end Go.Proofs.YtfpmfegmehbfbaaGreatDoor

/- Names, walked: strings.SplitSeq, the iterator. -/
namespace Go.Proofs.YtfpmfegmehbfbaaGreatDoor
set_option linter.unusedVariables false
set_option linter.unusedSimpArgs false
open Go.RowKit Go.Shelf
attribute [local go_sem] Oper.semAt_some

theorem txN_extract (s : ByteArray) (a b : Nat) : txN (s.extract a b) = ((txN s).take b).drop a := by
  unfold txN
  rw [ByteArray.data_extract, Array.toList_extract, ← List.map_take, ← List.map_drop]
  congr 1
  rw [List.extract_eq_take_drop, List.drop_take]
theorem count_dot (s : ByteArray) : Lib.countByte s.data.toList 46 = (txN s).count 46 := by
  unfold Lib.countByte txN
  rw [List.count_eq_countP, List.count_eq_countP, List.countP_map]
  congr 1
  funext x
  show (x == 46) = (x.toNat == 46)
  rw [Bool.eq_iff_iff, beq_iff_eq, beq_iff_eq]
  exact ⟨fun h => by rw [h]; rfl, fun h => UInt8.toNat_inj.1 h⟩
theorem idx_no {s : ByteArray} (h : Lib.indexByte s.data.toList 46 = -1) (k : Nat) : (txN s)[k]? ≠ some 46 := by
  have := Lib.indexByte_none h k
  unfold txN
  rw [List.getElem?_map]
  intro e
  rw [Option.map_eq_some_iff] at e
  obtain ⟨x, h1, h2⟩ := e
  exact this (by rw [h1]; congr 1; exact UInt8.toNat_inj.1 h2)
theorem idx_at {s : ByteArray} {o : Nat} (h : Lib.indexByte s.data.toList 46 = o) : (txN s)[o]? = some 46 ∧ ∀ k < o, (txN s)[k]? ≠ some 46 := by
  obtain ⟨h1, h2⟩ := Lib.indexByte_some h
  unfold txN
  refine ⟨by rw [List.getElem?_map, h1]; rfl, fun k hk e => ?_⟩
  rw [List.getElem?_map, Option.map_eq_some_iff] at e
  obtain ⟨x, h3, h4⟩ := e
  exact h2 k hk (by rw [h3]; congr 1; exact UInt8.toNat_inj.1 h4)
theorem cuts_idx_no {s : ByteArray} (h : Lib.indexByte s.data.toList 46 = -1) : cuts (txN s) = [txN s] := by
  have := cuts_last (l := txN s) (f := 0) (fun k _ _ => idx_no h k)
  simpa using this
theorem cuts_idx_at {s : ByteArray} {o : Nat} (h : Lib.indexByte s.data.toList 46 = o) : o < s.size ∧ cuts (txN s) = txN (s.extract 0 o) :: cuts (txN (s.extract (o + 1) s.size)) := by
  obtain ⟨h1, h2⟩ := idx_at h
  have hl : o < (txN s).length := (List.getElem?_eq_some_iff.1 h1).1
  have := cuts_step (l := txN s) (f := 0) (i := o) (Nat.zero_le _) hl (fun k _ hk => h2 k hk) h1
  refine ⟨by rw [txN_len] at hl; exact hl, ?_⟩
  rw [txN_extract, txN_extract]
  simp only [List.drop_zero, Nat.sub_zero] at this
  rw [this]
  congr 2
  rw [List.take_of_length_le (by rw [txN_len]; exact Nat.le_refl _)]
/-- The size of the text in a box. -/
def boxLen (w : World) (b : Nat) : Nat := match w.cell? ⟨b, 0, none⟩ with | some (.string s) => s.size | _ => 0
theorem boxLen_eq {w : World} {b : Nat} {s : ByteArray} (h : w.cell? ⟨b, 0, none⟩ = some (.string s)) : boxLen w b = s.size := by unfold boxLen; rw [h]

set_option maxRecDepth 100000 in
set_option maxHeartbeats 4000000 in
theorem splitSeq1_in (n : Nat) (hn : 1 ≤ n) (l bs bp bv B : Nat) (hs : bs < B) (hp : bp < B) (hv : bv < B) (n1 : bs ≠ bp) (n2 : bs ≠ bv) (T : ByteArray) (hT : T.size ≤ 140737488355328) (J Jx : List ByteArray → World → Prop) (hJ : AbB bs J)
    (hY : ∀ pre x X, J pre X → YieldAt Fence.wide (n - 1) Tryz.prog l #[.string x] X fun e Y => (e = .returned (.bool true) ∧ J (pre ++ [x]) Y ∧ Below B X Y) ∨ (e = .returned (.bool false) ∧ Jx (pre ++ [x]) Y))
    (W : World) (fs : W.frozen? ⟨bs, 0, none⟩ = false) (cs : W.cell? ⟨bs, 0, none⟩ = some (.string T)) (cp : W.cell? ⟨bp, 0, none⟩ = some (.string ⟨#[46]⟩)) (cv : W.cell? ⟨bv, 0, none⟩ = some (.int .i64 0)) (h0 : J [] W) :
    CallsIn Fence.wide n Tryz.prog 323 #[.func (.yield l) #[] #[], .pointer (some ⟨bp, 0, none⟩), .pointer (some ⟨bs, 0, none⟩), .pointer (some ⟨bv, 0, none⟩)] W fun e Y => (∃ v, e = .returned v) ∧
      ((∃ xs : List ByteArray, xs.map txN = cuts (txN T) ∧ J xs Y) ∨ (∃ pre : List ByteArray, pre.map txN <+: cuts (txN T) ∧ Jx pre Y)) := by
  have c0 : ∀ m s w, CallsIn Fence.wide m Tryz.prog 298 #[.string s, .string ⟨#[46]⟩] w fun e w' => e = .returned (.int .i64 (Lib.indexByte s.data.toList 46)) ∧ w = w' := fun m s w =>
    callsIn_wide.2 ((Tryz.strings_Index_one s 46 w).mono fun e w' ⟨he, hw⟩ => ⟨he, hw.symm⟩)
  refine callsIn_of_wp Tryz.func323 rfl trivial ?_ rfl
  simp only [Tryz.ntmps323, List.size_toArray, List.length_cons, List.length_nil, Nat.reduceAdd, Nat.reduceSub, Array.replicate_succ, Array.replicate_zero, List.push_toArray, List.append_toArray, List.nil_append, List.cons_append]
  gi_wp2
  gi_loopw [7] (fun i wr => ∃ (pre : List ByteArray) (cur : ByteArray), J pre wr ∧ wr.cell? ⟨bs, 0, none⟩ = some (.string cur) ∧ wr.cell? ⟨bp, 0, none⟩ = some (.string ⟨#[46]⟩) ∧ wr.cell? ⟨bv, 0, none⟩ = some (.int .i64 0) ∧ wr.frozen? ⟨bs, 0, none⟩ = false ∧
      cuts (txN T) = pre.map txN ++ cuts (txN cur) ∧ cur.size ≤ T.size)
    (fun i wr => boxLen wr bs)
  case atStart => exact ⟨[], T, h0, cs, cp, cv, fs, by simp, Nat.le_refl _⟩
  case round =>
    obtain ⟨pre, cur, hJs, ds, dp, dv, df, hc, hl⟩ := hrel
    have hge := Lib.indexByte_ge cur.data.toList 46
    have c1 := fun m w => c0 m cur w
    by_cases hno : Lib.indexByte cur.data.toList 46 = -1
    · have hc2 := cuts_idx_no hno
      obtain ⟨fn, tmps, assign, body, hy, hR⟩ := hY pre cur wr hJs
      rw [hno] at c1
      rw [hc2] at hc
      clear hno hge c0
      gi_wp2_with (refine ⟨trivial, ?_⟩; gi_at_call 298; refine (c1 _ _).mono ?_; clear c1; rintro e w' ⟨rfl, rfl⟩)
      refine hR.mono ?_
      clear hR
      rintro e Y (⟨rfl, hJ1, hb1⟩ | ⟨rfl, hJ1⟩)
      · gi_wp2
        go_end0
        exact ⟨⟨_, rfl⟩, .inl ⟨_, by rw [hc]; simp, hJ1⟩⟩
      · gi_wp2
        go_end0
        exact ⟨⟨_, rfl⟩, .inr ⟨_, by rw [hc]; simp, hJ1⟩⟩
    · obtain ⟨o, ho⟩ : ∃ o : Nat, Lib.indexByte cur.data.toList 46 = o := ⟨(Lib.indexByte cur.data.toList 46).toNat, by omega⟩
      obtain ⟨ho1, hc2⟩ := cuts_idx_at ho
      rw [ho] at c1
      rw [hc2] at hc
      clear hno hge c0 ho
      obtain ⟨fn, tmps, assign, body, hy, hR⟩ := hY pre (cur.extract 0 o) wr hJs
      have ho2 : (o : Int) + 1 ≤ cur.size := by omega
      gi_wp2_with (refine ⟨trivial, ?_⟩; gi_at_call 298; refine (c1 _ _).mono ?_; clear c1; rintro e w' ⟨rfl, rfl⟩)
      refine hR.mono ?_
      clear hR
      rintro e Y (⟨rfl, hJ1, hb1⟩ | ⟨rfl, hJ1⟩)
      · have es : Y.cell? ⟨bs, 0, none⟩ = some (.string cur) := (Below.cell hb1 (p := ⟨bs, 0, none⟩) hs).trans ds
        have ep : Y.cell? ⟨bp, 0, none⟩ = some (.string ⟨#[46]⟩) := (Below.cell hb1 (p := ⟨bp, 0, none⟩) hp).trans dp
        have ev : Y.cell? ⟨bv, 0, none⟩ = some (.int .i64 0) := (Below.cell hb1 (p := ⟨bv, 0, none⟩) hv).trans dv
        have ef : Y.frozen? ⟨bs, 0, none⟩ = false := (World.frozen?_of_block (hb1.block bs hs)).trans df
        have hm := boxLen_eq ds
        clear ds dp dv df
        gi_wp2
        go_roundw
        case rel =>
          refine ⟨pre ++ [cur.extract 0 o], cur.extract (o + 1) cur.size, hJ _ _ _ _ hJ1 (grownBy_setCell' Y bs _) (fun r e => by cases e; rfl), ?_, ?_, ?_, ?_, ?_, ?_⟩
          · exact World.cell?_setCell_same' _ _ _ (by rw [es]; rfl)
          · exact (World.cell?_setCell_other Y ⟨bs, 0, none⟩ ⟨bp, 0, none⟩ _ (fun h => n1 (by cases h; rfl))).trans ep
          · exact (World.cell?_setCell_other Y ⟨bs, 0, none⟩ ⟨bv, 0, none⟩ _ (fun h => n2 (by cases h; rfl))).trans ev
          · rw [World.frozen?_setCell]; exact ef
          · rw [hc]; simp
          · rw [ByteArray.size_extract]; omega
        case measure =>
          rw [hm, boxLen_eq (World.cell?_setCell_same' _ _ _ (by rw [es]; rfl)), ByteArray.size_extract]
          omega
      · gi_wp2
        refine bodyPost_ret (results_none rfl _ _ _) rfl ?_
        exact ⟨⟨_, rfl⟩, .inr ⟨_, by rw [hc]; simp, hJ1⟩⟩
end Go.Proofs.YtfpmfegmehbfbaaGreatDoor

/- Whether two structs are the same, field by field: nonces, accounts, authorizations. -/
namespace Go.Proofs.YtfpmfegmehbfbaaGreatDoor
set_option linter.unusedVariables false
set_option linter.unusedSimpArgs false
open Go.RowKit Go.Shelf Go.Maps

end Go.Proofs.YtfpmfegmehbfbaaGreatDoor
