/- Parts of the proofs, put together: what these laws need besides. -/
import Derived.Test.YtbhdmfijdhcehaaGreatDoorO1
import Derived.Test.YtbhdmfijdhcehaaGreatDoorO2
import Derived.Test.YtbhdmfijdhcehaaGreatDoorO3
import Derived.Test.YtbhdmfijdhcehaaGreatDoorO4
import Derived.Test.YtbhdmfijdhcehaaGreatDoorO5
import Derived.Test.YtbhdmfijdhcehaaGreatDoorO6
import Derived.Test.YtbhdmfijdhcehaaGreatDoorO7
import Derived.Test.YtbhdmfijdhcehaaGreatDoorO8
import Derived.Test.YtbhdmfijdhcehaaGreatDoorO9
import Derived.Test.YtbhdmfijdhcehaaGreatDoorO10
import Derived.Test.YtbhdmfijdhcehaaGreatDoorO11
import Derived.Test.YtbhdmfijdhcehaaGreatDoorO12
import Derived.Test.YtbhdmfijdhcehaaGreatDoorO13
import Derived.Test.YtbhdmfijdhcehaaGreatDoorO14
import Derived.Test.YtbhdmfijdhcehaaGreatDoorO15
import Derived.Test.YtbhdmfijdhcehaaGreatDoorO16
import Derived.Test.YtbhdmfijdhcehaaGreatDoorO17
import Derived.Test.YtbhdmfijdhcehaaGreatDoorO18
import Derived.Test.YtbhdmfijdhcehaaGreatDoorO19
import Derived.Test.YtbhdmfijdhcehaaGreatDoorO20
import Derived.Test.YtbhdmfijdhcehaaGreatDoorO21
import Derived.Test.YtbhdmfijdhcehaaGreatDoorO22
/- Names, walked: the document's word and label. -/
namespace Go.Proofs.YtbhdmfijdhcehaaGreatDoor
set_option linter.unusedVariables false
set_option linter.unusedSimpArgs false
open Go.RowKit Go.Shelf

theorem word_any (c : Nat) (w : World) : Calls Tryz.prog 178 #[.int .u8 (c : Int)] w fun e w' => e = .returned (.bool (edgeB (c : Int))) ∧ w' = w := by
  go_enter Tryz.func178, Tryz.ntmps178
  by_cases h1 : 97 ≤ (c : Int) <;> by_cases h2 : (c : Int) ≤ 122 <;> by_cases h3 : 48 ≤ (c : Int) <;> by_cases h4 : (c : Int) ≤ 57
  all_goals
    first
    | (exfalso; omega)
    | (go_wp2
       go_ret
       exact ⟨by simp [edgeB, *], rfl⟩)
theorem lab_at {s : ByteArray} (h : labP (txN s)) {i : Nat} (hi : i < s.size) : okAt s.size i (s[i]'hi).toNat := by
  have := h.2.2 i (by rw [txN_len]; exact hi)
  rwa [txN_get s i hi, txN_len] at this
theorem ok_first {n c : Nat} (h : okAt n 0 c) : wordP c ∨ c = 95 := by
  unfold okAt at h
  split at h
  · exact .inl h
  · exact h
theorem ok_last {n i c : Nat} (hi : i + 1 = n) : okAt n i c ↔ wordP c := by unfold okAt; rw [if_pos hi]
theorem ok_mid {n i c : Nat} (hi : i ≠ 0) (h : okAt n i c) : wordP c ∨ c = 45 := by
  unfold okAt at h
  split at h
  · exact .inl h
  · exact h
/-- Behind the first byte. -/
def midTo (s : ByteArray) (j : Nat) : Prop := ∀ i (h : i < s.size), 1 ≤ i → i < j → wordP (s[i]'h).toNat ∨ (s[i]'h).toNat = 45
theorem midTo_succ {s : ByteArray} {j : Nat} (h : j < s.size) (k : midTo s j) (o : wordP (s[j]'h).toNat ∨ (s[j]'h).toNat = 45) : midTo s (j + 1) := fun i hi h1 hp => by
  by_cases e : i = j
  · subst e; exact o
  · exact k i hi h1 (by omega)
theorem lab_mid {s : ByteArray} (h : 0 < s.size) (h2 : s.size ≤ 16) (h3 : s.size - 1 < s.size) (hl : wordP (s[s.size - 1]'h3).toNat) (hf : wordP (s[0]'h).toNat ∨ (s[0]'h).toNat = 95) (k : midTo s s.size) : labP (txN s) :=
  lab_yes h h2 fun i hi _ => by
    unfold okAt
    split
    · next e =>
      have : i = s.size - 1 := by omega
      subst this; exact hl
    · split
      · next e => subst e; exact hf
      · next e => exact k i hi (by omega) hi
set_option maxRecDepth 100000 in
set_option maxHeartbeats 4000000 in
theorem rlabel_any (s : ByteArray) (w : World) (hs : s.size ≤ 140737488355328) : Calls Tryz.prog 162 #[.string s] w fun e w' => e = .returned (.bool (decide (labP (txN s)))) ∧ Ext w w' := by
  have c1 := word_any
  go_enter Tryz.func162, Tryz.ntmps162
  by_cases hn : ((s.size : Int) < 1 ∨ (16 : Int) < s.size)
  · have hno : ¬ labP (txN s) := fun h => by have h1 := h.1; have h2 := h.2.1; rw [txN_len] at h1 h2; omega
    have HB := Lib.hid hno
    clear hno
    rcases hn with h1 | h1
    · go_wp2
      go_ret
      exact ⟨ret_bool (by rw [decide_eq_false]; exact HB.out), Ext.refl w⟩
    · have h2 : ¬ (s.size : Int) < 1 := by omega
      go_wp2
      go_ret
      exact ⟨ret_bool (by rw [decide_eq_false]; exact HB.out), Ext.refl w⟩
  have h1 : ¬ (s.size : Int) < 1 := by omega
  have h2 : ¬ (16 : Int) < s.size := by omega
  have hp : 0 < s.size := by omega
  have hp1 : s.size - 1 < s.size := by omega
  have hlast := fun h => (ok_last (n := s.size) (i := s.size - 1) (by omega)).1 (lab_at (s := s) h hp1)
  have hfirst := fun h => ok_first (lab_at (s := s) h hp)
  have HL := Lib.hid hlast
  have HF := Lib.hid hfirst
  clear hlast hfirst hn
  have HN : ∀ h' : ¬ labP (txN s), Ending.returned (Value.bool false) = Ending.returned (Value.bool (decide (labP (txN s)))) := fun h' => ret_bool (by rw [decide_eq_false h'])
  by_cases hl : edgeB (((s[s.size - 1]'hp1).toNat : Nat) : Int) = true
  · by_cases hf : edgeB (((s[0]'hp).toNat : Nat) : Int) = true
    · go_wp2_with (go_at_call 178; refine (c1 _ _).mono ?_; rintro e w1 ⟨rfl, hw1⟩; replace hw1 := hw1.symm; subst hw1)
      have HY := Lib.hid (lab_mid hp (by omega) hp1 (edge_iff.1 hl) (.inl (edge_iff.1 hf)))
      clear hl
      go_loopg [4] s.size (fun g s4 wr => ∃ j : Nat, j + g = s.size + 1 ∧ 1 ≤ j ∧ s4 = .int .i64 j ∧ wr = w ∧ midTo s j)
      case atStart => exact ⟨1, by omega, by omega, rfl, rfl, fun i h h1 hp => by omega⟩
      case round =>
        obtain ⟨j, hj, hj1, rfl, rfl, hk⟩ := hrel
        by_cases h : j < s.size
        · have hji : (j : Int) < s.size := by omega
          have HM := Lib.hid (fun o => midTo_succ h hk o)
          have HB := Lib.hid (fun h' => ok_mid (by omega) (lab_at (s := s) h' h))
          by_cases he : edgeB (((s[j]'h).toNat : Nat) : Int) = true
          · go_wp2_with (go_at_call 178; refine (c1 _ _).mono ?_; rintro e w1 ⟨rfl, hw1⟩; replace hw1 := hw1.symm; subst hw1)
            go_roundg (gk - 1)
            case measure => omega
            case rel => exact ⟨j + 1, by omega, by omega, int_congr (by omega), rfl, HM.out (.inl (edge_iff.1 he))⟩
          · replace he : edgeB (((s[j]'h).toNat : Nat) : Int) = false := by simpa using he
            by_cases h45 : (((s[j]'h).toNat : Nat) : Int) = 45
            · go_wp2_with (go_at_call 178; refine (c1 _ _).mono ?_; rintro e w1 ⟨rfl, hw1⟩; replace hw1 := hw1.symm; subst hw1)
              go_roundg (gk - 1)
              case measure => omega
              case rel => exact ⟨j + 1, by omega, by omega, int_congr (by omega), rfl, HM.out (.inr (by omega))⟩
            · go_wp2_with (go_at_call 178; refine (c1 _ _).mono ?_; rintro e w1 ⟨rfl, hw1⟩; replace hw1 := hw1.symm; subst hw1)
              go_ret
              exact ⟨HN (fun h => (HB.out h).elim (edge_no he) (fun e => h45 (by omega))), Ext.refl _⟩
        · have hji : ¬ (j : Int) < s.size := by omega
          have hy := HY.out (fun i hi h1 _ => hk i hi h1 (by omega))
          go_wp2
          go_ret
          exact ⟨ret_bool (by simp), Ext.refl _⟩
    · replace hf : edgeB (((s[0]'hp).toNat : Nat) : Int) = false := by simpa using hf
      by_cases h95 : (((s[0]'hp).toNat : Nat) : Int) = 95
      · go_wp2_with (go_at_call 178; refine (c1 _ _).mono ?_; rintro e w1 ⟨rfl, hw1⟩; replace hw1 := hw1.symm; subst hw1)
        have HY := Lib.hid (lab_mid hp (by omega) hp1 (edge_iff.1 hl) (.inr (by omega)))
        clear hl
        go_loopg [4] s.size (fun g s4 wr => ∃ j : Nat, j + g = s.size + 1 ∧ 1 ≤ j ∧ s4 = .int .i64 j ∧ wr = w ∧ midTo s j)
        case atStart => exact ⟨1, by omega, by omega, rfl, rfl, fun i h h1 hp => by omega⟩
        case round =>
          obtain ⟨j, hj, hj1, rfl, rfl, hk⟩ := hrel
          by_cases h : j < s.size
          · have hji : (j : Int) < s.size := by omega
            have HM := Lib.hid (fun o => midTo_succ h hk o)
            have HB := Lib.hid (fun h' => ok_mid (by omega) (lab_at (s := s) h' h))
            by_cases he : edgeB (((s[j]'h).toNat : Nat) : Int) = true
            · go_wp2_with (go_at_call 178; refine (c1 _ _).mono ?_; rintro e w1 ⟨rfl, hw1⟩; replace hw1 := hw1.symm; subst hw1)
              go_roundg (gk - 1)
              case measure => omega
              case rel => exact ⟨j + 1, by omega, by omega, int_congr (by omega), rfl, HM.out (.inl (edge_iff.1 he))⟩
            · replace he : edgeB (((s[j]'h).toNat : Nat) : Int) = false := by simpa using he
              by_cases h45 : (((s[j]'h).toNat : Nat) : Int) = 45
              · go_wp2_with (go_at_call 178; refine (c1 _ _).mono ?_; rintro e w1 ⟨rfl, hw1⟩; replace hw1 := hw1.symm; subst hw1)
                go_roundg (gk - 1)
                case measure => omega
                case rel => exact ⟨j + 1, by omega, by omega, int_congr (by omega), rfl, HM.out (.inr (by omega))⟩
              · go_wp2_with (go_at_call 178; refine (c1 _ _).mono ?_; rintro e w1 ⟨rfl, hw1⟩; replace hw1 := hw1.symm; subst hw1)
                go_ret
                exact ⟨HN (fun h => (HB.out h).elim (edge_no he) (fun e => h45 (by omega))), Ext.refl _⟩
          · have hji : ¬ (j : Int) < s.size := by omega
            have hy := HY.out (fun i hi h1 _ => hk i hi h1 (by omega))
            go_wp2
            go_ret
            exact ⟨ret_bool (by simp), Ext.refl _⟩
      · go_wp2_with (go_at_call 178; refine (c1 _ _).mono ?_; rintro e w1 ⟨rfl, hw1⟩; replace hw1 := hw1.symm; subst hw1)
        go_ret
        exact ⟨HN (fun h => (HF.out h).elim (edge_no hf) (fun e => h95 (by omega))), Ext.refl _⟩
  · replace hl : edgeB (((s[s.size - 1]'hp1).toNat : Nat) : Int) = false := by simpa using hl
    go_wp2_with (go_at_call 178; refine (c1 _ _).mono ?_; rintro e w1 ⟨rfl, hw1⟩; replace hw1 := hw1.symm; subst hw1)
    go_ret
    exact ⟨HN (fun h => edge_no hl (HL.out h)), Ext.refl _⟩
end Go.Proofs.YtbhdmfijdhcehaaGreatDoor

/- Names, walked: the document's cut. -/
namespace Go.Proofs.YtbhdmfijdhcehaaGreatDoor
set_option linter.unusedVariables false
set_option linter.unusedSimpArgs false
open Go.RowKit Go.Shelf

theorem tv_append (l m : List ByteArray) : tv (l ++ m) = tv l ++ tv m := by simp [tv]
end Go.Proofs.YtbhdmfijdhcehaaGreatDoor

/- Plain: what a step leaves as it was; a request again; what is signed tells the request. No program in sight. -/
namespace Go.Proofs.YtbhdmfijdhcehaaGreatDoor
set_option linter.unusedVariables false
set_option linter.unusedSimpArgs false

theorem txN_length (s : ByteArray) : (txN s).length = s.size := by unfold txN; rw [List.length_map, Array.length_toList]; rfl
end Go.Proofs.YtbhdmfijdhcehaaGreatDoor

/- Plain: what one asks for with a fresh nonce and a right signature is done; the chapter's example. No program in sight. -/
namespace Go.Proofs.YtbhdmfijdhcehaaGreatDoor
set_option linter.unusedVariables false
set_option linter.unusedSimpArgs false

theorem nam_size {s : ByteArray} (h : namP s) : s.size ≤ 64 := by rw [← txN_length]; exact h.1

variable (S : SigR)
variable {S}
end Go.Proofs.YtbhdmfijdhcehaaGreatDoor

/- Names, walked: the document's cut, Name, Check. -/
namespace Go.Proofs.YtbhdmfijdhcehaaGreatDoor
set_option linter.unusedVariables false
set_option linter.unusedSimpArgs false
open Go.RowKit Go.Shelf Go.Maps

theorem cuts_len : ∀ (l x : List Nat), x ∈ cuts l → x.length ≤ l.length
  | [], x, h => by simp [cuts] at h; subst h; simp
  | c :: l, x, h => by
    have ih := cuts_len l
    unfold cuts at h
    split at h
    · rcases List.mem_cons.1 h with rfl | h
      · simp
      · have := ih x h; simp; omega
    · split at h
      · simp at h; subst h; simp
      · next a t e =>
        rw [e] at ih
        rcases List.mem_cons.1 h with rfl | h
        · have := ih a (by simp); simp; omega
        · have := ih x (by simp [h]); simp; omega
theorem txN_at {s : ByteArray} {i : Nat} (h : i < s.size) : (txN s)[i]? = some (s[i]'h).toNat := by
  rw [List.getElem?_eq_getElem (by rw [txN_len]; exact h), txN_get s i h]
set_option maxRecDepth 100000 in
set_option maxHeartbeats 4000000 in
theorem cut_any (s : ByteArray) (hs : s.size ≤ 1099511627776) (w : World) : Calls Tryz.prog 161 #[.string s] w fun e w' =>
    ∃ (xs : List ByteArray) (A : Option Addr) (c : Nat), e = .returned (.slice A xs.length c) ∧ xs.length ≤ c ∧ xs.map txN = cuts (txN s) ∧ Reads w' w'.heap.size 1 A xs.length (tv xs) ∧ Ext w w' := by
  obtain ⟨i0, hi, hz0, hz1, hz2⟩ := info_parts Tryz.infoStr
  go_enter Tryz.func161, Tryz.ntmps161
  go_wp2
  go_loopg [3, 4, 5] s.size (fun m s3 s4 s5 wr => ∃ (f i : Nat) (xs : List ByteArray), i + m = s.size ∧ f ≤ i ∧ xs.length ≤ i ∧ s4 = .int .i64 f ∧ s5 = .int .i64 i ∧ wr.ownsRow w.heap.size 9 1 s3 xs.length (tv xs) ∧ Ext w wr ∧
    cuts (txN s) = xs.map txN ++ cuts ((txN s).drop f) ∧ ∀ k, f ≤ k → k < i → (txN s)[k]? ≠ some 46)
  case atStart => exact ⟨0, 0, [], by omega, Nat.le_refl _, by simp, rfl, rfl, World.ownsRow_nil _ _ _ _, Ext.refl w, by simp, fun k h1 h2 => by omega⟩
  case round =>
    obtain ⟨f, i, xs, hm, hf, hxl, rfl, rfl, hown, hx, hc, hn⟩ := hrel
    by_cases h : i < s.size
    · have hil : (i : Int) < s.size := by omega
      by_cases h46 : (((s[i]'h).toNat : Nat) : Int) = 46
      · have hd : (txN s)[i]? = some 46 := by rw [txN_at h]; congr 1; omega
        have hst := cuts_step hf (by rw [txN_len]; exact h) hn hd
        have hfi : (f : Int) ≤ i := by omega
        have HC : Hid (cuts (txN s) = (xs ++ [s.extract f i]).map txN ++ cuts ((txN s).drop (i + 1))) := Lib.hid (by
          rw [hc, hst, List.map_append, List.map_cons, List.map_nil, txN_extract, List.append_assoc]
          congr 2
          rw [List.drop_take])
        have HX := Lib.hid hx
        have HM := Lib.hid hm
        have HL := Lib.hid hxl
        clear hst hd hc hn hx hm hf hxl
        go_wp2_with (at_builtin; refine wpList_append_own _ rfl (.tmp 16) (.tmp 21) 23 rfl w.heap.size 9 i0 (.string ⟨#[]⟩) 1 16 Tryz.underlying23 hi hz0 hz1 hz2 rfl (by decide) _ _ _ rfl (hown.alloc _) ⟨wr.heap.size, 0, none⟩ 1 1 [.string (s.extract f i)] rfl rfl (cell_one_new _ _ _) (by simp [Value.oneCell']) (by have := HL.out; have := HM.out; simp only [maxLen]; omega) (by have := HL.out; have := HM.out; omega) (by have := HX.out.size; simp; omega) ?_; intro v2 w2 hown2 hg2 _)
        have X2 := ext_grown (HX.out.alloc _) (hown.alloc _) hg2
        have O2 : Hid (w2.ownsRow w.heap.size 9 1 v2 (xs ++ [s.extract f i]).length (tv (xs ++ [s.extract f i]))) := by
          show World.ownsRow _ _ _ _ _ _ _
          rw [List.length_append, tv_append]
          exact hown2
        clear hown2 hg2 hown
        have hm := HM.out
        have hl := HL.out
        go_roundg (gk - 1)
        case measure => omega
        case rel => exact ⟨i + 1, i + 1, xs ++ [s.extract f i], by omega, Nat.le_refl _, by simp; omega, int_congr (by omega), int_congr (by omega), O2.out, X2, HC.out, fun k h1 h2 => by omega⟩
      · have HN : Hid (∀ k, f ≤ k → k < i + 1 → (txN s)[k]? ≠ some 46) := Lib.hid (fun k h1 h2 => by
          rcases Nat.lt_succ_iff_lt_or_eq.1 h2 with h3 | rfl
          · exact hn k h1 h3
          · rw [txN_at h]; intro e; injection e with e; omega)
        have HX := Lib.hid hx
        have HC := Lib.hid hc
        have HO := Lib.hid hown
        have HM := Lib.hid hm
        have HF := Lib.hid hf
        have HL := Lib.hid hxl
        clear hn hx hc hown hm hf hxl
        go_wp2
        have hm := HM.out
        have hl := HL.out
        have hf := HF.out
        go_roundg (gk - 1)
        case measure => omega
        case rel => exact ⟨f, i + 1, xs, by omega, by omega, by omega, rfl, int_congr (by omega), HO.out, HX.out, HC.out, HN.out⟩
    · obtain rfl : i = s.size := by omega
      have hcl := cuts_last (l := txN s) (f := f) (fun k h1 h2 => hn k h1 (by rw [txN_len] at h2; exact h2))
      have HC : Hid (cuts (txN s) = (xs ++ [s.extract f s.size]).map txN) := Lib.hid (by
        rw [hc, hcl, List.map_append, List.map_cons, List.map_nil, txN_extract, List.take_of_length_le (by rw [txN_len]; exact Nat.le_refl _)])
      have hfs : (f : Int) ≤ s.size := by omega
      have HX := Lib.hid hx
      have HL := Lib.hid hxl
      have HS := Lib.hid hs
      clear hn hx hc hcl hm hf hxl hs
      go_wp2_with (at_builtin; refine wpList_append_own _ rfl (.tmp 25) (.tmp 29) 23 rfl w.heap.size 9 i0 (.string ⟨#[]⟩) 1 16 Tryz.underlying23 hi hz0 hz1 hz2 rfl (by decide) _ _ _ rfl (hown.alloc _) ⟨wr.heap.size, 0, none⟩ 1 1 [.string (s.extract f s.size)] rfl rfl (cell_one_new _ _ _) (by simp [Value.oneCell']) (by have := HL.out; have := HS.out; simp only [maxLen]; omega) (by have := HL.out; have := HS.out; omega) (by have := HX.out.size; simp; omega) ?_; intro v2 w2 hown2 hg2 _)
      have X2 := ext_grown (HX.out.alloc _) (hown.alloc _) hg2
      have O2 : Hid (w2.ownsRow w.heap.size 9 1 v2 (xs ++ [s.extract f s.size]).length (tv (xs ++ [s.extract f s.size]))) := by
        show World.ownsRow _ _ _ _ _ _ _
        rw [List.length_append, tv_append]
        exact hown2
      obtain ⟨A', c', rfl, hc', hr'⟩ := own_slice O2.out
      clear hown2 hg2 hown
      go_ret
      exact ⟨_, A', c', rfl, hc', HC.out.symm, hr', X2⟩
set_option maxRecDepth 100000 in
set_option maxHeartbeats 4000000 in
theorem rName_any (s : ByteArray) (hs : s.size ≤ 140737488355328) (w : World) : Calls Tryz.prog 143 #[.string s] w fun e w' => e = .returned (.bool (decide (namP s))) ∧ Ext w w' := by
  have c1 := fun hs' => cut_any s hs'
  go_enter Tryz.func143, Tryz.ntmps143
  by_cases h64 : (64 : Int) < s.size
  · have hno : ¬ namP s := fun h => by have := nam_size h; omega
    go_wp2
    go_ret
    exact ⟨ret_bool (by rw [decide_eq_false hno]), Ext.refl w⟩
  replace c1 := c1 (by omega)
  go_wp2_with (go_at_call 161; refine (c1 _).mono ?_; clear c1; rintro e w1 ⟨xs, A, c, rfl, hxc, hxs, hr, x1⟩)
  have h8 : (xs.length : Int) ≤ 8 ∧ (∀ x ∈ xs, labP (txN x)) ↔ namP s := by
    unfold namP nameP
    rw [← hxs, List.length_map, txN_len]
    constructor
    · rintro ⟨a, b⟩
      exact ⟨by omega, by omega, fun x hx => by obtain ⟨y, hy, rfl⟩ := List.mem_map.1 hx; exact b y hy⟩
    · rintro ⟨a, b, d⟩
      exact ⟨by omega, fun x hx => d _ (List.mem_map.2 ⟨x, hx, rfl⟩)⟩
  have hl : xs.length ≤ s.size + 1 := by
    have := congrArg List.length hxs
    rw [List.length_map, cuts_count] at this
    have h3 := List.count_le_length (a := 46) (l := txN s)
    rw [txN_len] at h3
    omega
  have hsz : ∀ x ∈ xs, x.size ≤ 140737488355328 := fun x hx => by
    have := cuts_len (txN s) (txN x) (by rw [← hxs]; exact List.mem_map.2 ⟨x, hx, rfl⟩)
    rw [txN_len, txN_len] at this
    omega
  have H8 := Lib.hid h8
  have HR := Lib.hid hr
  have HX := Lib.hid x1
  have HS := Lib.hid hsz
  have H64 : Hid (xs.length ≤ 65) := Lib.hid (by omega)
  clear h8 hr x1 hxs hl hsz hs h64
  go_loopg [4] xs.length (fun m s4 wr => ∃ j : Nat, j + m = xs.length ∧ s4 = .int .i64 j ∧ (∀ x ∈ xs.take j, labP (txN x)) ∧ Ext w1 wr)
  case atStart => exact ⟨0, by omega, rfl, by simp, Ext.refl w1⟩
  case round =>
    obtain ⟨j, hj, rfl, hok, hx⟩ := hrel
    have hjb : (j : Int) ≤ 1000 := by have := H64.out; omega
    by_cases h : j < xs.length
    · obtain ⟨x, hs⟩ : ∃ s, xs[j]? = some s := ⟨_, List.getElem?_eq_getElem h⟩
      have hxm := List.mem_of_getElem? hs
      obtain ⟨ad, rfl, q0⟩ := reads_text (HR.out.below hx.out) hs
      have c1 := rlabel_any x
      have e1 : xs.take (j + 1) = xs.take j ++ [x] := by rw [List.take_add_one, hs]; rfl
      have hSx := HS.out x hxm
      by_cases hlb : labP (txN x)
      · rw [decide_eq_true hlb] at c1
        have hok' : Hid (∀ x ∈ xs.take (j + 1), labP (txN x)) := Lib.hid fun r hr => by
          rw [e1] at hr
          rcases List.mem_append.1 hr with hr | hr
          · exact hok r hr
          · rw [List.mem_singleton] at hr; subst hr; exact hlb
        have HX2 := Lib.hid hx
        have HJ := Lib.hid hj
        clear hx hj hs hok e1 hlb hxm
        go_wp2_with (go_at_call 162; refine (c1 _ hSx).mono ?_; clear c1; rintro e w2 ⟨rfl, x1⟩)
        have hj := HJ.out
        go_roundg (gk - 1)
        case measure => omega
        case rel => exact ⟨j + 1, by omega, int_congr (by omega), hok'.out, HX2.out.trans x1⟩
      · rw [decide_eq_false hlb] at c1
        have HN : Hid (¬ namP s) := Lib.hid (fun hn => hlb ((H8.out.2 hn).2 x hxm))
        have HX2 := Lib.hid hx
        clear hx hj hs hok e1 hlb hxm
        go_wp2_with (go_at_call 162; refine (c1 _ hSx).mono ?_; clear c1; rintro e w2 ⟨rfl, x1⟩)
        go_ret
        exact ⟨ret_bool (by rw [decide_eq_false HN.out]), HX.out.trans (HX2.out.trans x1)⟩
    · obtain rfl : j = xs.length := by omega
      rw [List.take_length] at hok
      have HB : Hid (decide ((xs.length : Int) ≤ 8) = decide (namP s)) := Lib.hid (by
        rw [decide_eq_decide]
        exact ⟨fun h => H8.out.1 ⟨h, hok⟩, fun h => (H8.out.2 h).1⟩)
      have HX2 := Lib.hid hx
      clear hx hj h hok
      go_wp2
      go_ret
      exact ⟨ret_bool HB.out, HX.out.trans HX2.out⟩
theorem rnCheck_any (s : ByteArray) (hs : s.size ≤ 140737488355328) (w : World) : Calls Tryz.prog 120 #[.string s] w fun e w' => e = .returned (.int .i64 (namE s : Nat)) ∧ Ext w w' := by
  have c1 := rName_any s hs
  unfold namE
  go_enter Tryz.func120, Tryz.ntmps120
  by_cases h : namP s
  · rw [decide_eq_true h] at c1
    rw [if_pos h]
    go_wp2_with (go_at_call 143; refine (c1 _).mono ?_; clear c1; rintro e w2 ⟨rfl, x1⟩)
    go_ret
    exact ⟨rfl, x1⟩
  · rw [decide_eq_false h] at c1
    rw [if_neg h]
    go_wp2_with (go_at_call 143; refine (c1 _).mono ?_; clear c1; rintro e w2 ⟨rfl, x1⟩)
    go_ret
    exact ⟨rfl, x1⟩
end Go.Proofs.YtbhdmfijdhcehaaGreatDoor

/- Plain: what holds is not asked for again. No program in sight. -/
namespace Go.Proofs.YtbhdmfijdhcehaaGreatDoor
set_option linter.unusedVariables false
set_option linter.unusedSimpArgs false

/-- Numbers one after the other. -/
def idsF (a n : Nat) : List Int := (List.range n).map fun i => ((a + i : Nat) : Int) + 1
def newsF (a : Nat) (acc : Int) (names : List ByteArray) : List AutR := names.mapIdx fun i s => newA (a + i) acc s
theorem newsF_len (a : Nat) (acc : Int) (names : List ByteArray) : (newsF a acc names).length = names.length := by simp [newsF]
/-- None of these may be used again. -/
def freshA (now : Int) (l : List AutR) : Prop := ∀ a ∈ l, ¬ (a.st = 3 ∧ now < a.un)
theorem find_none {l : List AutR} {acc now : Int} {s : ByteArray} (h : freshA now l) : findA l acc s now = none := by
  unfold findA
  rw [List.findIdx?_eq_none_iff]
  intro a ha
  have := h a ha
  by_cases h1 : a.st = 3 <;> by_cases h2 : now < a.un <;> simp_all
theorem want_fresh {acc now : Int} : ∀ (names : List ByteArray) (l : List AutR) (ns : List Int), freshA now l →
    names.foldl (wantA acc now) (l, ns) = (l ++ newsF l.length acc names, ns ++ idsF l.length names.length)
  | [], l, ns, _ => by simp [newsF, idsF]
  | s :: names, l, ns, h => by
    rw [List.foldl_cons, wantA_none (find_none h), want_fresh names]
    · congr 1
      · simp [newsF, List.mapIdx_cons, Nat.add_assoc, Nat.add_comm 1]
      · simp only [idsF, List.length_cons, List.range_succ_eq_map, List.map_cons, List.length_append, List.length_nil, List.append_assoc, List.cons_append, List.nil_append, List.map_map]
        congr 1
        simp only [Nat.add_zero, List.cons.injEq, true_and]
        apply List.map_congr_left
        intro i _
        simp only [Function.comp]
        omega
    · intro a ha
      rcases List.mem_append.1 ha with ha | ha
      · exact h a ha
      · simp at ha; subst ha; simp [newA]
theorem want_news {acc now : Int} {names : List ByteArray} {l : List AutR} (h : freshA now l) : wantL l acc now names = (l ++ newsF l.length acc names, idsF l.length names.length) := by
  unfold wantL; rw [want_fresh names l [] h]; simp
/-- Each name's authorization is there, at its place. -/
theorem want_have {acc now : Int} {l : List AutR} (names : List ByteArray) (hf : ∀ i s, names[i]? = some s → findA l acc s now = some i) : wantL l acc now names = (l, idsF 0 names.length) := by
  have key : ∀ k ≤ names.length, (names.take k).foldl (wantA acc now) (l, []) = (l, idsF 0 k) := by
    intro k
    induction k with
    | zero => intro _; simp [idsF]
    | succ k ih =>
      intro hk
      have e : names[k]? = some names[k] := List.getElem?_eq_getElem (by omega)
      rw [List.take_add_one, e, Option.toList_some, List.foldl_append, ih (by omega), List.foldl_cons, List.foldl_nil, wantA_some (hf k _ e)]
      simp [idsF, List.range_succ]
  have := key names.length (Nat.le_refl _)
  rwa [List.take_length] at this

variable (S : SigR) (names : List ByteArray)
/-- The first k have shown. -/
def agA (k : Nat) : List AutR := names.mapIdx fun i s => if i < k then { newA i 1 s with st := 3, fr := 4, un := 54 } else newA i 1 s
def agO : OrdR := ⟨1, 1, names, S.pk 5, 3, idsF 0 names.length, 1, 0⟩
def aq1 : QueR := ⟨1, 0, 0, S.pk 2, [], 0, 0, 0, 0⟩
def aq2 : QueR := ⟨2, 1, 0, S.pk 5, names, 3, 0, 0, 0⟩
def aq3 (k : Nat) : QueR := ⟨3, 1, 0, 0, [], 0, (k : Int) + 1, 0, 0⟩
def aq4 : QueR := ⟨4, 1, 0, 0, [], 0, 2, 0, 0⟩
def ag1 : FroR := ⟨1, [], [⟨1, S.pk 2⟩], [], [], 0⟩
def agK (k : Nat) : FroR := ⟨2 + (k : Int), [], [⟨1, S.pk 2⟩], agA names k, [agO S names], 0⟩
def agL (k : Nat) : FroR := ⟨3 + (k : Int), [], [⟨1, S.pk 2⟩], (agA names k).set k { newA k 1 (names.getD k ByteArray.empty) with st := 2 }, [agO S names], 0⟩
/-- Behind the second order. -/
def agW (now : Int) : FroR :=
  if now < 54 then ⟨3 + (names.length : Int), [], [⟨1, S.pk 2⟩], agA names names.length, [agO S names, ⟨2, 1, names, S.pk 5, 3, idsF 0 names.length, 1, 0⟩], 0⟩
  else ⟨3 + (names.length : Int), [], [⟨1, S.pk 2⟩], agA names names.length ++ newsF names.length 1 names, [agO S names, ⟨2, 1, names, S.pk 5, 3, idsF names.length names.length, 1, 0⟩], 0⟩
structure AgainS (now : Int) : Prop where
  b1 : asksF S froZ (aq1 S) 2 1 = (ag1 S, sentQ S froZ (aq1 S) 2, 1, 0)
  b2 : asksF S (ag1 S) (aq2 S names) 2 2 = (agK S names 0, sentQ S (ag1 S) (aq2 S names) 2, 1, 0)
  b3 : ∀ k < names.length, asksF S (agK S names k) (aq3 k) 2 3 = (agL S names k, sentQ S (agK S names k) (aq3 k) 2, (k : Int) + 1, 0)
  b4 : ∀ k < names.length, sawF (agL S names k) ((k : Int) + 1) true 4 = (agK S names (k + 1), 0)
  b5 : asksF S (agK S names names.length) (aq2 S names) 2 now = (agW S names now, sentQ S (agK S names names.length) (aq2 S names) 2, 2, 0)
  b6 : (asksF S (agW S names now) aq4 2 now).2.2.2 = if now < 54 + 1 - 1 then 0 else 221
  b7 : (agW S names now).auts.length = if now < 54 then names.length else 2 * names.length
  c1 : chkF (ag1 S) = 0
  cK : ∀ k ≤ names.length, chkF (agK S names k) = 0
  cL : ∀ k < names.length, chkF (agL S names k) = 0
  cW : chkF (agW S names now) = 0
variable {S names}
theorem agA_len (k : Nat) : (agA names k).length = names.length := by simp [agA]
theorem agA_at {k i : Nat} {s : ByteArray} (h : names[i]? = some s) : (agA names k)[i]? = some (if i < k then { newA i 1 s with st := 3, fr := 4, un := 54 } else newA i 1 s) := by
  unfold agA; rw [List.getElem?_mapIdx, h]; rfl
theorem agA_zero : agA names 0 = newsF 0 1 names := by
  unfold agA newsF; congr 1; funext i s; simp
theorem agA_step {k : Nat} {s : ByteArray} (h : names[k]? = some s) (a : AutR) : ((agA names k).set k a).set k { newA k 1 s with st := 3, fr := 4, un := 54 } = agA names (k + 1) := by
  rw [List.set_set]
  apply List.ext_getElem?
  intro i
  by_cases hi : i < names.length
  · have e : names[i]? = some names[i] := List.getElem?_eq_getElem hi
    rw [agA_at e]
    by_cases hik : k = i
    · subst hik
      rw [List.getElem?_set_self (by rw [agA_len]; exact hi), if_pos (by omega)]
      rw [e] at h; cases h; rfl
    · rw [List.getElem?_set_ne hik, agA_at e]
      by_cases h1 : i < k
      · rw [if_pos h1, if_pos (by omega)]
      · rw [if_neg h1, if_neg (by omega)]
  · rw [List.getElem?_eq_none (by simp [agA_len]; omega), List.getElem?_eq_none (by rw [agA_len]; omega)]
theorem ag_find {now : Int} (hn : names.Nodup) (h : now < 54) (i : Nat) (s : ByteArray) (hs : names[i]? = some s) : findA (agA names names.length) 1 s now = some i := by
  obtain ⟨hi, rfl⟩ := List.getElem?_eq_some_iff.1 hs
  unfold findA
  rw [List.findIdx?_eq_some_iff_getElem]
  have at_ : ∀ j (hj : j < names.length) (hj' : j < (agA names names.length).length), (agA names names.length)[j] = { newA j 1 names[j] with st := 3, fr := 4, un := 54 } := fun j hj hj' => by
    have := agA_at (k := names.length) (List.getElem?_eq_getElem hj)
    rw [List.getElem?_eq_getElem hj', if_pos hj] at this
    exact Option.some.inj this
  refine ⟨by rw [agA_len]; exact hi, ?_, fun j hj => ?_⟩
  · rw [at_ i hi]; simp [newA, h]
  · rw [at_ j (by omega)]
    have : names[j] ≠ names[i] := (List.pairwise_iff_getElem.1 hn) j i (by omega) hi hj
    simp [newA, this]
theorem fresh_old {now : Int} (h : ¬ now < 54) (k : Nat) : freshA now (agA names k) := by
  intro a ha
  obtain ⟨i, hi, rfl⟩ := List.getElem_of_mem ha
  have hi' : i < names.length := by rw [agA_len] at hi; exact hi
  have := agA_at (k := k) (List.getElem?_eq_getElem hi')
  rw [List.getElem?_eq_getElem hi] at this
  rw [Option.some.inj this]
  split
  · simp; omega
  · simp [newA]
theorem again_all (hS : SigOk S) (hn : namesP names) {now : Int} (h4 : 4 ≤ now) (hM : now ≤ 1000) : AgainS S names now := by
  have k2 := hS.pk (seed := 2) (by decide)
  have k5 := hS.pk (seed := 5) (by decide)
  obtain ⟨n1, n2, n3, n4⟩ := hn
  have n0 : namesP names := ⟨n1, n2, n3, n4⟩
  have n64 : ∀ s ∈ names, s.size ≤ 64 := fun s hs => nam_size (n1 s hs)
  obtain ⟨b1, c1⟩ := asks_ok hS (f := froZ) (x := ag1 S) (q := aq1 S) (seed := 2) (now := 1) (n := 1) (by decide) chk_new (tell_zero (fen_of chk_new) (by decide) (by decide) (by decide) (by decide)) (byte_zero (by simp [headP, numP, aq1, froZ]) (by simp [aq1])) (by simp [fitsP, aq1]) rfl rfl
  have w0 : stepF { ag1 S with next := (ag1 S).next + 1, opn := trimF (ag1 S).opn 2 } (aq2 S names) 2 = (agK S names 0, 1, 0) := by
    unfold stepF
    rw [if_neg (by simp [aq2]), if_pos (by simp [aq2])]
    unfold wantF
    rw [show (aq2 S names).acc = 1 from rfl, show (aq2 S names).names = names from rfl, show FroR.auts { ag1 S with next := (ag1 S).next + 1, opn := trimF (ag1 S).opn 2 } = [] from rfl, want_news (l := []) (by intro a ha; cases ha)]
    dsimp only
    rw [if_neg (by simp [newsF_len, ag1]; omega)]
    simp [agK, agA_zero, ag1, agO, aq2, trimF]
  obtain ⟨b2, cK0⟩ := asks_ok hS (f := ag1 S) (x := agK S names 0) (q := aq2 S names) (seed := 2) (now := 2) (n := 1) (by decide) c1 (tell_zero (fen_of c1) (by decide) (by decide) (by simp [ag1]) (by simp [ag1])) (byte_zero (by simp [headP, numP, aq2, ag1]; exact n4) (by simpa [aq2] using n64)) (by simp [fitsP, aq2, n0, k5]) (by simp [keyF, aq2, ag1]) w0
  have look : ∀ k < names.length, stepF { agK S names k with next := (agK S names k).next + 1, opn := trimF (agK S names k).opn 3 } (aq3 k) 3 = (agL S names k, (k : Int) + 1, 0) := fun k hk => by
    have e : names[k]? = some names[k] := List.getElem?_eq_getElem hk
    have ea := agA_at (k := k) e
    rw [if_neg (by omega)] at ea
    unfold stepF
    rw [if_neg (by simp [aq3]), if_neg (by simp [aq3]), if_pos (by simp [aq3])]
    unfold lookF
    rw [if_neg (by simp [aq3]; omega), show (aq3 k).id.toNat - 1 = k by simp [aq3]]
    rw [show (FroR.auts { agK S names k with next := (agK S names k).next + 1, opn := trimF (agK S names k).opn 3 }) = agA names k from rfl, ea]
    dsimp only
    rw [if_neg (by simp [newA, aq3]), if_neg (by simp [newA])]
    simp [agK, agL, trimF, aq3, e]
    omega
  have saw : ∀ k < names.length, chkF (agL S names k) = 0 → sawF (agL S names k) ((k : Int) + 1) true 4 = (agK S names (k + 1), 0) := fun k hk hc => by
    have e : names[k]? = some names[k] := List.getElem?_eq_getElem hk
    unfold sawF
    rw [if_neg (by rw [hc]; simp), if_neg (by decide), if_neg (by omega), show ((k : Int) + 1).toNat - 1 = k by omega]
    rw [show (agL S names k).auts[k]? = some { newA k 1 names[k] with st := 2 } by
      unfold agL; dsimp only; rw [List.getElem?_set_self (by rw [agA_len]; exact hk)]; simp [e]]
    dsimp only
    rw [if_neg (by simp), if_pos rfl]
    have := agA_step e { newA k 1 (names.getD k ByteArray.empty) with st := 2 }
    simp only [agK, agL]
    rw [← this]
    simp
    omega
  have all : ∀ k, k ≤ names.length → chkF (agK S names k) = 0 ∧ ∀ j < k, asksF S (agK S names j) (aq3 j) 2 3 = (agL S names j, sentQ S (agK S names j) (aq3 j) 2, (j : Int) + 1, 0) ∧ chkF (agL S names j) = 0 ∧ sawF (agL S names j) ((j : Int) + 1) true 4 = (agK S names (j + 1), 0) := by
    intro k
    induction k with
    | zero => intro _; exact ⟨cK0, fun j hj => by omega⟩
    | succ k ih =>
      intro hk
      obtain ⟨c, ih⟩ := ih (by omega)
      obtain ⟨b, cl⟩ := asks_ok hS (f := agK S names k) (x := agL S names k) (q := aq3 k) (seed := 2) (now := 3) (n := (k : Int) + 1) (by decide) c (tell_zero (fen_of c) (by decide) (by decide) (by simp [agK]) (by simp [agK]; omega)) (byte_zero (by simp [headP, numP, aq3, agK]; omega) (by simp [aq3])) (by simp [fitsP, aq3]) (by simp [keyF, aq3, agK]) (look k (by omega))
      have bs := saw k (by omega) cl
      refine ⟨?_, fun j hj => ?_⟩
      · have := saw_ok (f := agL S names k) (id := (k : Int) + 1) (now := 4) (ok := true) (by rw [bs]); rw [bs] at this; exact this
      · rcases Nat.lt_succ_iff_lt_or_eq.1 hj with hj | rfl
        · exact ih j hj
        · exact ⟨b, cl, bs⟩
  obtain ⟨cN, allN⟩ := all names.length (Nat.le_refl _)
  have want2 : stepF { agK S names names.length with next := (agK S names names.length).next + 1, opn := trimF (agK S names names.length).opn now } (aq2 S names) now = (agW S names now, 2, 0) := by
    unfold stepF
    rw [if_neg (by simp [aq2]), if_pos (by simp [aq2])]
    unfold wantF
    rw [show (aq2 S names).acc = 1 from rfl, show (aq2 S names).names = names from rfl, show FroR.auts { agK S names names.length with next := (agK S names names.length).next + 1, opn := trimF (agK S names names.length).opn now } = agA names names.length from rfl]
    by_cases h54 : now < 54
    · rw [want_have names (ag_find n2 h54)]
      dsimp only
      rw [if_neg (by simp [agA_len, agK]; omega)]
      simp [agK, agW, h54, aq2, trimF]
      omega
    · rw [want_news (fresh_old h54 _)]
      dsimp only
      rw [if_neg (by simp [agA_len, newsF_len, agK]; omega)]
      simp [agK, agW, h54, aq2, trimF, agA_len]
      omega
  obtain ⟨b5, cW⟩ := asks_ok hS (f := agK S names names.length) (x := agW S names now) (q := aq2 S names) (seed := 2) (now := now) (n := 2) (by decide) cN (tell_zero (fen_of cN) (by omega) (by omega) (by simp [agK]) (by simp [agK]; omega)) (byte_zero (by simp [headP, numP, aq2, agK]; omega) (by simpa [aq2] using n64)) (by simp [fitsP, aq2, n0, k5]) (by simp [keyF, aq2, agK]) want2
  have wn : (agW S names now).next = 3 + (names.length : Int) ∧ (agW S names now).opn = [] ∧ (agW S names now).accs = [⟨1, S.pk 2⟩] := by unfold agW; split <;> exact ⟨rfl, rfl, rfl⟩
  have ht := tell_zero (now := now) (fen_of cW) (by omega) (by omega) (by rw [wn.2.1]; simp) (by rw [wn.1]; omega)
  have hb : byteE { aq4 with nonce := (agW S names now).next } = 0 := byte_zero (by rw [wn.1]; simp [headP, numP, aq4]; omega) (by simp [aq4])
  have hk : keyF (agW S names now) aq4 = some (S.pk 2) := by simp [keyF, aq4, wn.2.2]
  have b6 : (asksF S (agW S names now) aq4 2 now).2.2.2 = if now < 54 + 1 - 1 then 0 else 221 := by
    have hi : (stepF { agW S names now with next := (agW S names now).next + 1, opn := trimF (agW S names now).opn now } aq4 now) = issF { agW S names now with next := (agW S names now).next + 1, opn := trimF (agW S names now).opn now } aq4 now := rfl
    by_cases h54 : now < 54
    · rw [if_pos (by omega)]
      have hh : holdsF (agA names names.length) (idsF 0 names.length) now = true := by
        unfold holdsF
        rw [List.all_eq_true]
        intro x hx
        unfold idsF at hx
        obtain ⟨i, hi, rfl⟩ := List.mem_map.1 hx
        rw [List.mem_range] at hi
        rw [show (((0 + i : Nat) : Int) + 1).toNat - 1 = i by omega, agA_at (List.getElem?_eq_getElem hi), if_pos hi]
        simp [holdA]; omega
      have hx : ∃ x n, stepF { agW S names now with next := (agW S names now).next + 1, opn := trimF (agW S names now).opn now } aq4 now = (x, n, 0) := by
        rw [hi]
        unfold issF
        rw [if_neg (by simp [aq4])]
        rw [show aq4.id.toNat - 1 = 1 from rfl, show (FroR.ords { agW S names now with next := (agW S names now).next + 1, opn := trimF (agW S names now).opn now })[1]? = some ⟨2, 1, names, S.pk 5, 3, idsF 0 names.length, 1, 0⟩ by unfold agW; rw [if_pos h54]; rfl]
        dsimp only
        rw [if_neg (by simp [aq4]), show (agW S names now).auts = agA names names.length by unfold agW; rw [if_pos h54], if_neg (by rw [hh]; simp)]
        exact ⟨_, _, rfl⟩
      obtain ⟨x, n, hx⟩ := hx
      rw [(asks_ok hS (by decide) cW ht hb (by simp [fitsP, aq4]) hk hx).1]
    · rw [if_neg (by omega)]
      refine asks_no hS (by decide) cW ht hb (by simp [fitsP, aq4]) hk (by decide) ?_
      have hh : holdsF (agA names names.length ++ newsF names.length 1 names) (idsF names.length names.length) now = false := by
        unfold holdsF
        rw [List.all_eq_false]
        refine ⟨((names.length : Nat) : Int) + 1, ?_, ?_⟩
        · unfold idsF; exact List.mem_map.2 ⟨0, List.mem_range.2 n3, by simp⟩
        · rw [show (((names.length : Nat) : Int) + 1).toNat - 1 = names.length by omega, List.getElem?_append_right (by rw [agA_len]; exact Nat.le_refl _), agA_len, Nat.sub_self]
          unfold newsF
          rw [List.getElem?_mapIdx, List.getElem?_eq_getElem n3]
          simp [holdA, newA]
      rw [hi]
      unfold issF
      rw [if_neg (by simp [aq4])]
      rw [show aq4.id.toNat - 1 = 1 from rfl, show (FroR.ords { agW S names now with next := (agW S names now).next + 1, opn := trimF (agW S names now).opn now })[1]? = some ⟨2, 1, names, S.pk 5, 3, idsF names.length names.length, 1, 0⟩ by unfold agW; rw [if_neg h54]; rfl]
      dsimp only
      rw [if_neg (by simp [aq4]), show (agW S names now).auts = agA names names.length ++ newsF names.length 1 names by unfold agW; rw [if_neg h54], if_pos (by rw [hh]; simp)]
  refine ⟨b1, b2, fun k hk => (allN k hk).1, fun k hk => (allN k hk).2.2, b5, b6, ?_, c1, fun k hk => (all k hk).1, fun k hk => (allN k hk).2.1, cW⟩
  unfold agW
  split
  · next h => dsimp only; rw [agA_len]
  · next h => dsimp only; rw [List.length_append, agA_len, newsF_len]; omega
end Go.Proofs.YtbhdmfijdhcehaaGreatDoor

/- What comes in, opened: a door, a request, a script. -/
namespace Go.Proofs.YtbhdmfijdhcehaaGreatDoor
set_option linter.unusedVariables false
set_option linter.unusedSimpArgs false
open Go.ChangeShapes Go.WideShapes Go.ChangeAt Go.RowKit

section
variable {H : Type} {enc : TypeId × Value → H} {W : World}
theorem open_texts {A : Option Addr} {n c : Nat} {d : DataW H} {p : List MemPlace} (h' : DataW.Trod enc Tryz.prog W 0 (fun _ => true) true 23 (.slice A n c) d p) (hw : ∀ m ∈ d.weights Tryz.prog 23, m ≤ reachBytes) :
    ∃ l : List ByteArray, l.length = n ∧ n ≤ c ∧ c ≤ 140737488351232 ∧ (∀ s ∈ l, s.size ≤ 140737488351232) ∧ Reads W W.heap.size 1 A n (tv l) := by
  have h := tw_val h' hw
  simp only [Value.cells] at h
  obtain ⟨A', c', l, e, h1, h2, h3, h4⟩ := open_strs Tryz.underlying23 Tryz.underlying9 (by kernel_rfl) (by kernel_rfl) h
  simp at e
  obtain ⟨rfl, rfl, rfl⟩ := e
  exact ⟨l, rfl, h1, h2, h3, h4⟩
end
end Go.Proofs.YtbhdmfijdhcehaaGreatDoor

/- The document's side of layer 22, walked: names. -/
namespace Go.Proofs.YtbhdmfijdhcehaaGreatDoor
set_option linter.unusedVariables false
set_option linter.unusedSimpArgs false
set_option linter.unusedSimpArgs false
open Go.RowKit Go.Shelf Go.Maps

theorem rname_any (s : ByteArray) (hs : s.size ≤ 140737488355328) (w : World) : Calls Tryz.prog 81 #[.string s] w fun e w' => e = .returned (.bool (decide (namP s))) ∧ Ext w w' := by
  have c1 := rnCheck_any s hs
  clear hs
  go_enter Tryz.func81, Tryz.ntmps81
  by_cases h : namP s
  · rw [show namE s = 0 from if_pos h] at c1
    have HH := Lib.hid h
    clear h
    go_wp2_with (go_at_call 120; refine (c1 _).mono ?_; clear c1; rintro e w1 ⟨rfl, x1⟩)
    go_ret
    exact ⟨ret_bool (decide_eq_true HH.out).symm, x1⟩
  · rw [show namE s = 110 from if_neg h] at c1
    have HH := Lib.hid h
    clear h
    go_wp2_with (go_at_call 120; refine (c1 _).mono ?_; clear c1; rintro e w1 ⟨rfl, x1⟩)
    go_ret
    exact ⟨ret_bool (decide_eq_false HH.out).symm, x1⟩
theorem not_mem_take_succ {l : List ByteArray} {k : Nat} {s y : ByteArray} (hy : l[k]? = some y) (h : s ∉ l.take k) (hne : y ≠ s) : s ∉ l.take (k + 1) := by
  rw [List.take_add_one, hy]
  simp only [Option.toList_some, List.mem_append, List.mem_singleton, not_or]
  exact ⟨h, fun e => hne e.symm⟩
set_option maxRecDepth 100000 in
set_option maxHeartbeats 8000000 in
theorem rNames_any (l : List ByteArray) (hn : l.length ≤ 1099511627776) (hs : ∀ s ∈ l, s.size ≤ 140737488355328) (A : Option Addr) (c : Nat) (w : World) (hr : Reads w w.heap.size 1 A l.length (tv l)) :
    Calls Tryz.prog 38 #[.slice A l.length c] w fun e w' => e = .returned (.bool (decide (namesP l))) ∧ Ext w w' := by
  have HR := Lib.hid fun (W : World) (x : Ext w W) => (hr.below x.out).more x.size
  have HN := Lib.hid hn
  have HS := Lib.hid hs
  clear hr hn hs
  go_enter Tryz.func38, Tryz.ntmps38
  by_cases h1 : (l.length : Int) < 1
  · have d1 : decide ((l.length : Int) < 1) = true := decide_eq_true h1
    have kk : Hid (¬ namesP l) := Lib.hid (fun h => by have := h.2.2.1; omega)
    go_wp2
    go_ret
    exact ⟨ret_bool (decide_eq_false kk.out).symm, Ext.refl w⟩
  by_cases h2 : (8 : Int) < (l.length : Int)
  · have kk : Hid (¬ namesP l) := Lib.hid (fun h => by have := h.2.2.2; omega)
    go_wp2
    go_ret
    exact ⟨ret_bool (decide_eq_false kk.out).symm, Ext.refl w⟩
  have HL : Hid (0 < l.length ∧ l.length ≤ 8) := Lib.hid ⟨by omega, by omega⟩
  go_wp2
  clear h1 h2
  go_loopg [3] l.length (fun m s3 wr => ∃ j : Nat, j + m = l.length ∧ s3 = .int .i64 j ∧ namTo (l.take j) ∧ Ext w wr)
  case atStart => exact ⟨0, by omega, rfl, ⟨by simp, by simp⟩, Ext.refl w⟩
  case round =>
    obtain ⟨j, hj, rfl, hok, hx⟩ := hrel
    have hjb : (j : Int) ≤ 8 := by have := HL.out; omega
    by_cases h : j < l.length
    · obtain ⟨s, hs⟩ : ∃ s, l[j]? = some s := ⟨_, List.getElem?_eq_getElem h⟩
      obtain ⟨ad, rfl, q0⟩ := reads_text (HR.out _ hx) hs
      have c1 := rname_any s (HS.out s (List.mem_of_getElem? hs))
      have hjl : (j : Int) < (l.length : Int) := by omega
      have HT := Lib.hid (namTo_succ hs)
      have HSJ := Lib.hid hs
      have HO := Lib.hid hok
      have HX := Lib.hid hx
      have HJ := Lib.hid hj
      by_cases h1 : namP s
      case neg =>
        rw [decide_eq_false h1] at c1
        have kk : Hid (¬ namesP l) := Lib.hid (namTo_not (k := j + 1) fun hh => h1 (HT.out.1 hh).2.1)
        clear hx hj hs hok h1
        go_wp2_with (go_at_call 81; refine (c1 _).mono ?_; clear c1; rintro e w1 ⟨rfl, x1⟩)
        go_ret
        exact ⟨ret_bool (decide_eq_false kk.out).symm, HX.out.trans x1⟩
      rw [decide_eq_true h1] at c1
      have HNP := Lib.hid h1
      obtain ⟨G, hG⟩ : ∃ G, G = gk - 1 := ⟨_, rfl⟩
      have HG := Lib.hid hG
      have HJL := Lib.hid h
      clear hx hj hs hok h1 hG
      go_wp2_with (go_at_call 81; refine (c1 _).mono ?_; clear c1; rintro e w1 ⟨rfl, x1⟩)
      obtain ⟨W1, hW1⟩ : ∃ W, W = w1 := ⟨_, rfl⟩
      rw [← hW1] at x1 ⊢
      have HX1 := Lib.hid (HX.out.trans x1)
      clear hW1 x1 q0
      go_loopg [4] j (fun m s4 wr => ∃ k : Nat, k + m = j ∧ s4 = .int .i64 k ∧ s ∉ l.take k ∧ Ext w wr)
      case atStart => exact ⟨0, by omega, rfl, by simp, HX1.out⟩
      case round =>
        obtain ⟨k, hk, rfl, hne, hx⟩ := hrel
        have hkb : (k : Int) ≤ 8 := by omega
        by_cases h5 : k < j
        · obtain ⟨y, hy⟩ : ∃ s, l[k]? = some s := ⟨_, List.getElem?_eq_getElem (by omega)⟩
          obtain ⟨_, e', q0⟩ := reads_text (HR.out _ hx) hy
          cases e'
          obtain ⟨_, e', q1⟩ := reads_text (HR.out _ hx) HSJ.out
          cases e'
          have hkj : (k : Int) < (j : Int) := by omega
          have hkl : (k : Int) < (l.length : Int) := by omega
          have hXd := Lib.hid hx.drew
          have q0' := fun n : Nat => show (wr.drewN n).cell? _ = _ from q0
          have q1' := fun n : Nat => show (wr.drewN n).cell? _ = _ from q1
          have HK := Lib.hid hk
          by_cases e5 : y = s
          · have kk : Hid (¬ namesP l) := Lib.hid (namTo_not (k := j + 1) fun hh => (HT.out.1 hh).2.2 (by rw [← e5]; exact List.mem_of_getElem? (i := k) (by rw [List.getElem?_take, if_pos h5]; exact hy)))
            have d5 := str_beq_true e5
            clear hx hk hy hne h5 e5
            go_wp2
            go_region
            all_goals go_wp2
            all_goals go_ret
            all_goals exact ⟨ret_bool (decide_eq_false kk.out).symm, hXd.out⟩
          · have hne' := Lib.hid (not_mem_take_succ hy hne e5)
            have d5 := str_beq_false e5
            clear hx hk hy hne h5 e5
            go_wp2
            go_region
            all_goals go_wp2
            have hk := HK.out
            all_goals go_roundg (gk - 1)
            case measure => omega
            case rel => exact ⟨k + 1, by omega, int_congr (by omega), hne'.out, hXd.out⟩
        · obtain rfl : k = j := by omega
          have hok' : Hid (namTo (l.take (k + 1))) := Lib.hid (HT.out.2 ⟨HO.out, HNP.out, hne⟩)
          have HX9 := Lib.hid hx
          clear hx hk hne h5
          go_wp2
          have hj := HJ.out
          have hG := HG.out
          go_roundg G
          case measure => omega
          case rel => exact ⟨k + 1, by omega, int_congr (by omega), hok'.out, HX9.out⟩
    · obtain rfl : j = l.length := by omega
      rw [List.take_length] at hok
      have HX := Lib.hid hx
      have kk : Hid (namesP l) := Lib.hid (namesP_to.2 ⟨hok, HL.out.1, HL.out.2⟩)
      clear hx hj h hok
      go_wp2
      go_ret
      exact ⟨ret_bool (decide_eq_true kk.out).symm, HX.out⟩
end Go.Proofs.YtbhdmfijdhcehaaGreatDoor
