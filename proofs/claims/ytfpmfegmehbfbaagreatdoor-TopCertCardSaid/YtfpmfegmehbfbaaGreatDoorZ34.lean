/- Parts of the proofs, put together: CtE1, CtE2. -/
import Derived.Test.YtfpmfegmehbfbaaGreatDoorZ2
import Derived.Test.YtfpmfegmehbfbaaGreatDoorZ13
import Derived.Test.YtfpmfegmehbfbaaGreatDoorZ15
import Derived.Test.YtfpmfegmehbfbaaGreatDoorZ28
import Derived.Test.YtfpmfegmehbfbaaGreatDoorZ30
import Derived.Test.YtfpmfegmehbfbaaGreatDoorZ32
/- Certificates, walked: what a text is, a number, a signature, a promise. -/
namespace Go.Proofs.YtfpmfegmehbfbaaGreatDoor
set_option linter.unusedVariables false
set_option linter.unusedSimpArgs false
set_option linter.unusedSimpArgs false
open Go.RowKit Go.Shelf Go.Maps

theorem cnum_any (n : Int) (w : World) : Calls Tryz.prog 271 #[.int .i64 n] w fun e w' => e = .returned (.bool (decide (numC n))) ∧ w = w' := by
  by_cases h1 : 0 ≤ n
  · have d1 : decide ((0 : Int) ≤ n) = true := by simpa using h1
    by_cases h2 : n ≤ 1099511627776
    · have d2 : decide (n ≤ (1099511627776 : Int)) = true := by simpa using h2
      rw [decide_eq_true (show numC n from ⟨h1, h2⟩)]
      clear h1 h2
      go_enter Tryz.func271, Tryz.ntmps271
      go_wp2
      go_ret
      exact ⟨rfl, rfl⟩
    · have d2 : decide (n ≤ (1099511627776 : Int)) = false := by simpa using h2
      rw [decide_eq_false (show ¬ numC n from fun h => h2 h.2)]
      clear h1 h2
      go_enter Tryz.func271, Tryz.ntmps271
      go_wp2
      go_ret
      exact ⟨rfl, rfl⟩
  · have d1 : decide ((0 : Int) ≤ n) = false := by simpa using h1
    rw [decide_eq_false (show ¬ numC n from fun h => h1 h.1)]
    clear h1
    go_enter Tryz.func271, Tryz.ntmps271
    go_wp2
    go_ret
    exact ⟨rfl, rfl⟩
theorem text1_any (x : Int) (w : World) : Calls Tryz.prog 307 #[.int .i32 x] w fun e w' => e = .returned (.bool (decide (x ≤ 32 ∨ 126 < x))) ∧ w = w' := by
  by_cases h1 : x ≤ 32
  · have d1 : decide (x ≤ (32 : Int)) = true := by simpa using h1
    rw [decide_eq_true (.inl h1)]
    clear h1
    go_enter Tryz.func307, Tryz.ntmps307
    go_wp2
    go_ret
    exact ⟨rfl, rfl⟩
  · have d1 : decide (x ≤ (32 : Int)) = false := by simpa using h1
    by_cases h2 : 126 < x
    · have d2 : decide ((126 : Int) < x) = true := by simpa using h2
      rw [decide_eq_true (.inr h2)]
      clear h1 h2
      go_enter Tryz.func307, Tryz.ntmps307
      go_wp2
      go_ret
      exact ⟨rfl, rfl⟩
    · have d2 : decide ((126 : Int) < x) = false := by simpa using h2
      rw [decide_eq_false (fun h => h.elim h1 h2)]
      clear h1 h2
      go_enter Tryz.func307, Tryz.ntmps307
      go_wp2
      go_ret
      exact ⟨rfl, rfl⟩
/-- So many bytes are right. -/
def prtTo (s : ByteArray) (pos : Nat) : Prop := ∀ i (h : i < s.size), i < pos → 33 ≤ (s[i]'h).toNat ∧ (s[i]'h).toNat ≤ 126
theorem prtTo_succ {s : ByteArray} {pos : Nat} (h : pos < s.size) (k : prtTo s pos) (o : 33 ≤ (s[pos]'h).toNat ∧ (s[pos]'h).toNat ≤ 126) : prtTo s (pos + 1) := fun i hi hp => by
  by_cases e : i = pos
  · subst e; exact o
  · exact k i hi (by omega)
theorem prt_all {s : ByteArray} (k : prtTo s s.size) : ∀ x ∈ txN s, 33 ≤ x ∧ x ≤ 126 := fun x hx => by
  obtain ⟨i, hi, rfl⟩ := List.getElem_of_mem hx
  have hs : i < s.size := by rwa [txN_lenC] at hi
  rw [txN_get s i hs hi]
  exact k i hs hs
theorem prt_not {s : ByteArray} {pos : Nat} (h : pos < s.size) (o : ¬ (33 ≤ (s[pos]'h).toNat ∧ (s[pos]'h).toNat ≤ 126)) : ¬ ∀ x ∈ txN s, 33 ≤ x ∧ x ≤ 126 := fun hl => by
  have hi : pos < (txN s).length := by rw [txN_lenC]; exact h
  have := hl _ (List.getElem_mem hi)
  rw [txN_get s pos h hi] at this
  exact o this
set_option maxRecDepth 100000 in
set_option maxHeartbeats 4000000 in
theorem indexFn_any (s : ByteArray) (w : World) : Calls Tryz.prog 339 #[.string s, .func (.func 307) #[] #[], .bool true] w fun e w' => ∃ k : Int, e = .returned (.int .i64 k) ∧ (decide (0 ≤ k) = !decide (∀ x ∈ txN s, 33 ≤ x ∧ x ≤ 126)) ∧ Ext w w' := by
  have c1 := text1_any
  go_enter Tryz.func339, Tryz.ntmps339
  go_wp2
  go_loopg [] s.size (fun g wr => ∃ pos : Nat, pos + g = s.size ∧ wr = w.iter s pos ∧ prtTo s pos)
  case atStart => exact ⟨0, by omega, rfl, fun i h h' => by omega⟩
  case round =>
    obtain ⟨pos, hp, rfl, hk⟩ := hrel
    by_cases h : pos < s.size
    · have hyes := fun o => prtTo_succ h hk o
      have hno := fun o => prt_not h o
      by_cases ha : (s[pos]'h).toNat < 128
      · have hnx := fun ty => run_next_ascii (P := Tryz.prog) w s pos ty h ha
        generalize (s[pos]'h).toNat = c at *
        have HY := Lib.hid hyes
        have HN := Lib.hid hno
        clear hyes hno ha hk
        by_cases hc : (c : Int) ≤ 32 ∨ 126 < (c : Int)
        · have c2 := c1 (c : Int)
          rw [decide_eq_true hc] at c2
          have HC := Lib.hid hc
          clear c1 hc
          go_wp2_with (go_at_call 307; refine (c2 _).mono ?_; rintro e w1 ⟨rfl, rfl⟩)
          go_ret
          exact ⟨(pos : Int), rfl, by rw [decide_eq_true (by omega), decide_eq_false (HN.out (fun o => by have := HC.out; omega))]; rfl, (Ext.refl w).alloc _⟩
        · have c2 := c1 (c : Int)
          rw [decide_eq_false hc] at c2
          have HC := Lib.hid hc
          clear c1 hc
          go_wp2_with (go_at_call 307; refine (c2 _).mono ?_; rintro e w1 ⟨rfl, rfl⟩)
          go_roundg (gk - 1)
          case measure => omega
          case rel => exact ⟨pos + 1, by omega, rfl, HY.out (by have := HC.out; omega)⟩
      · have hnx := fun ty => run_next_any (P := Tryz.prog) w s pos ty h
        have hd := (decode_high s pos h (by omega)).1
        have HB := Lib.hid (hno (fun o => ha (by omega)))
        generalize (Utf8.decode s pos).1 = c at *
        generalize pos + (Utf8.decode s pos).2 = pos' at *
        have c2 := c1 (c : Int)
        rw [decide_eq_true (.inr (by omega))] at c2
        clear c1 hyes hno ha hk hd
        go_wp2_with (go_at_call 307; refine (c2 _).mono ?_; rintro e w1 ⟨rfl, rfl⟩)
        go_ret
        exact ⟨(pos : Int), rfl, by rw [decide_eq_true (by omega), decide_eq_false HB.out]; rfl, (Ext.refl w).alloc _⟩
    · have hnx := fun ty => run_next_end (P := Tryz.prog) w s pos ty h
      have hy : ∀ x ∈ txN s, 33 ≤ x ∧ x ≤ 126 := prt_all (fun i hi _ => hk i hi (by omega))
      have HY := Lib.hid hy
      clear hy hk
      go_wp2
      go_ret
      exact ⟨-1, rfl, by rw [decide_eq_true HY.out]; rfl, (Ext.refl w).alloc _⟩
theorem indexF_any (s : ByteArray) (w : World) : Calls Tryz.prog 325 #[.string s, .func (.func 307) #[] #[]] w fun e w' => ∃ k : Int, e = .returned (.int .i64 k) ∧ (decide (0 ≤ k) = !decide (∀ x ∈ txN s, 33 ≤ x ∧ x ≤ 126)) ∧ Ext w w' := by
  have c1 := indexFn_any s
  go_enter Tryz.func325, Tryz.ntmps325
  go_wp2_with (go_at_call 339; refine (c1 _).mono ?_; clear c1; rintro e w1 ⟨k, rfl, hk, x1⟩)
  go_ret
  exact ⟨k, rfl, hk, x1⟩
theorem conF_any (s : ByteArray) (w : World) : Calls Tryz.prog 308 #[.string s, .func (.func 307) #[] #[]] w fun e w' => e = .returned (.bool (!decide (∀ x ∈ txN s, 33 ≤ x ∧ x ≤ 126))) ∧ Ext w w' := by
  have c1 := indexF_any s
  generalize (!decide (∀ x ∈ txN s, 33 ≤ x ∧ x ≤ 126)) = b at c1 ⊢
  go_enter Tryz.func308, Tryz.ntmps308
  go_wp2_with (go_at_call 325; refine (c1 _).mono ?_; clear c1; rintro e w1 ⟨k, rfl, hk, x1⟩)
  go_ret
  exact ⟨ret_bool (by rw [← hk]), x1⟩
set_option maxRecDepth 100000 in
theorem text_any (s : ByteArray) (w : World) : Calls Tryz.prog 272 #[.string s] w fun e w' => e = .returned (.bool (decide (textC s))) ∧ Ext w w' := by
  have c1 := conF_any s
  by_cases h0 : s.size = 0
  · have hs : s = ByteArray.empty := ByteArray.size_eq_zero_iff.1 h0
    subst hs
    rw [decide_eq_false (show ¬ textC ByteArray.empty from fun h => absurd h.1 (by decide))]
    clear c1 h0
    go_enter Tryz.func272, Tryz.ntmps272
    go_wp2
    go_ret
    exact ⟨rfl, Ext.refl w⟩
  · have hE : s.toList.isEmpty = false := by
      rw [ByteArray.toList_eq]
      cases hl : s.data.toList with
      | nil => exact absurd (by show s.data.size = 0; rw [← Array.length_toList, hl]; rfl) h0
      | cons _ _ => rfl
    have hE2 : ¬ s.toList = [] := fun h => by rw [h] at hE; cases hE
    by_cases h64 : s.size ≤ 64
    · have e1 : (s.size : Int) ≤ 64 := by omega
      have d1 : decide (s.size ≤ 64) = true := decide_eq_true h64
      have HT : Hid (decide (textC s) = decide (∀ x ∈ txN s, 33 ≤ x ∧ x ≤ 126)) := Lib.hid (by
        congr 1
        unfold textC
        exact propext ⟨fun h => h.2.2, fun h => ⟨by omega, h64, h⟩⟩)
      generalize decide (∀ x ∈ txN s, 33 ≤ x ∧ x ≤ 126) = b at c1 HT
      generalize decide (textC s) = tb at HT ⊢
      clear h0 h64
      go_enter Tryz.func272, Tryz.ntmps272
      go_wp2_with (go_at_call 308; refine (c1 _).mono ?_; clear c1; rintro e w1 ⟨rfl, x1⟩)
      go_ret
      exact ⟨ret_bool (by rw [HT.out]), x1⟩
    · have e1 : ¬ (s.size : Int) ≤ 64 := by omega
      have d1 : decide (s.size ≤ 64) = false := decide_eq_false h64
      rw [decide_eq_false (show ¬ textC s from fun h => h64 h.2.1)]
      clear c1 h0 h64
      go_enter Tryz.func272, Tryz.ntmps272
      go_wp2
      go_ret
      exact ⟨rfl, Ext.refl w⟩
theorem signed_any18 (a b : Nat) (w : World) : Calls Tryz.prog 273 #[.agg #[.int .u64 (a : Int), .int .u64 (b : Int)]] w fun e w' => e = .returned (.bool (decide (sigC a b))) ∧ Ext w w' := by
  go_enter Tryz.func273, Tryz.ntmps273
  go_wp2
  go_ret
  exact ⟨ret_bool (decide_eq_decide.2 (by unfold sigC; omega)), (Ext.refl w).alloc _⟩
set_option maxRecDepth 100000 in
theorem maxU_any (a b : Nat) (g k : Nat) (w : World) (h0 : w.cell? ⟨g, k, none⟩ = some (.int .u64 (a : Int))) (h1 : w.cell? ⟨g, k + 1, none⟩ = some (.int .u64 (b : Int))) :
    Calls Tryz.prog 306 #[.slice (some ⟨g, k, none⟩) 2 2] w fun e w' => e = .returned (.int .u64 (max (a : Int) (b : Int))) ∧ w = w' := by
  go_enter Tryz.func306, Tryz.ntmps306
  go_wp2
  refine wp_loop_rounds 2 ?_
  rw [rounds_succ]
  go_wp2
  rw [rounds_succ]
  go_wp2
  go_ret
  exact ⟨rfl, rfl⟩
/-- A promise's cells. -/
def prmL (p : PrmR) : List Value := [.int .i64 p.log, .int .i64 p.at_, .int .u64 (p.l0 : Int), .int .u64 (p.l1 : Int), .int .u64 (p.e : Int), .int .u64 (p.s : Int)]
set_option maxRecDepth 100000 in
set_option maxHeartbeats 2000000 in
theorem promised_any (p : PrmR) (w : World) : Calls Tryz.prog 270 #[.agg #[.int .i64 p.log, .int .i64 p.at_, .int .u64 (p.l0 : Int), .int .u64 (p.l1 : Int), .int .u64 (p.e : Int), .int .u64 (p.s : Int)]] w fun e w' => e = .returned (.bool (decide (prmC p))) ∧ Ext w w' := by
  obtain ⟨W0, e0⟩ : ∃ W, w.alloc (.cells #[.int .i64 p.log, .int .i64 p.at_, .int .u64 (p.l0 : Int), .int .u64 (p.l1 : Int), .int .u64 (p.e : Int), .int .u64 (p.s : Int)] 55) = W := ⟨_, rfl⟩
  have b0 : Blk W0 w.heap.size 55 #[.int .i64 p.log, .int .i64 p.at_, .int .u64 (p.l0 : Int), .int .u64 (p.l1 : Int), .int .u64 (p.e : Int), .int .u64 (p.s : Int)] := by rw [← e0]; exact Blk.new _ _ _
  have x0 : Ext w W0 := by rw [← e0]; exact (Ext.refl w).alloc _
  obtain ⟨m0, m1, m2, m3, m4, m5, -, -, -, -, -, -⟩ := lst6 b0
  have c1 := cnum_any p.log
  have c2 := cnum_any p.at_
  have c3 := maxU_any p.l0 p.l1 w.heap.size 2 W0 m2 m3
  have c4 := signed_any18 p.e p.s
  have hdec : decide (prmC p) = (decide (numC p.log) && decide (numC p.at_) && decide (max (p.l0 : Int) p.l1 < 2305843009213693951) && decide (sigC p.e p.s)) := by
    rw [Bool.eq_iff_iff]
    simp only [Bool.and_eq_true, decide_eq_true_eq]
    unfold prmC
    constructor
    · rintro ⟨h1, h2, h3, h4, h5⟩
      exact ⟨⟨⟨h1, h2⟩, by omega⟩, h5⟩
    · rintro ⟨⟨⟨h1, h2⟩, h3⟩, h5⟩
      exact ⟨h1, h2, by omega, by omega, h5⟩
  rw [hdec]
  generalize decide (numC p.log) = n1 at c1 ⊢
  generalize decide (numC p.at_) = n2 at c2 ⊢
  obtain ⟨mx, hmx⟩ : ∃ mx, max (p.l0 : Int) p.l1 = mx := ⟨_, rfl⟩
  rw [hmx] at c3 ⊢
  obtain ⟨n3, hn3⟩ : ∃ n3, decide (mx < 2305843009213693951) = n3 := ⟨_, rfl⟩
  rw [hn3]
  generalize decide (sigC p.e p.s) = n4 at c4 ⊢
  have HX := Lib.hid x0
  clear b0 x0 hdec hmx
  cases n1 with
  | false =>
    clear c2 c3 c4
    go_enter Tryz.func270, Tryz.ntmps270
    go_upto_region 1 with (fail)
    try rw [e0]
    clear e0
    go_wp2_with (go_at_call 271; refine (c1 _).mono ?_; rintro e w1 ⟨rfl, rfl⟩)
    go_ret
    exact ⟨rfl, HX.out⟩
  | true =>
  cases n2 with
  | false =>
    clear c3 c4
    go_enter Tryz.func270, Tryz.ntmps270
    go_upto_region 1 with (fail)
    try rw [e0]
    clear e0
    go_wp2_with (go_at_call 271; (first | (refine (c1 _).mono ?_; rintro e w1 ⟨rfl, rfl⟩; clear c1) | (refine (c2 _).mono ?_; rintro e w1 ⟨rfl, rfl⟩; clear c2)))
    go_ret
    exact ⟨rfl, HX.out⟩
  | true =>
  cases n3 with
  | false =>
    clear c4
    go_enter Tryz.func270, Tryz.ntmps270
    go_upto_region 1 with (fail)
    try rw [e0]
    clear e0
    go_wp2_with (first | (go_at_call 306; refine c3.mono ?_; rintro e w1 ⟨rfl, rfl⟩; clear c3) | (go_at_call 271; (first | (refine (c1 _).mono ?_; rintro e w1 ⟨rfl, rfl⟩; clear c1) | (refine (c2 _).mono ?_; rintro e w1 ⟨rfl, rfl⟩; clear c2))))
    go_ret
    exact ⟨rfl, HX.out⟩
  | true =>
    go_enter Tryz.func270, Tryz.ntmps270
    go_upto_region 1 with (fail)
    try rw [e0]
    clear e0
    go_wp2_with (first | (go_at_call 306; refine c3.mono ?_; rintro e w1 ⟨rfl, rfl⟩; clear c3) | (go_at_call 273; refine (c4 _).mono ?_; rintro e w1 ⟨rfl, x1⟩; clear c4) | (go_at_call 271; (first | (refine (c1 _).mono ?_; rintro e w1 ⟨rfl, rfl⟩; clear c1) | (refine (c2 _).mono ?_; rintro e w1 ⟨rfl, rfl⟩; clear c2))))
    go_ret
    exact ⟨ret_bool (by cases n4 <;> rfl), HX.out.trans x1⟩
end Go.Proofs.YtfpmfegmehbfbaaGreatDoor

/- Certificates, walked: lists of texts. -/
namespace Go.Proofs.YtfpmfegmehbfbaaGreatDoor
set_option linter.unusedVariables false
set_option linter.unusedSimpArgs false
set_option linter.unusedSimpArgs false
open Go.RowKit Go.Shelf Go.Maps

def txtK (s : ByteArray) : Lit := .string s.data.toList
def keysT (l : List ByteArray) : List Lit := l.map txtK
theorem key_txt {s : ByteArray} (h : s.size ≤ 2000) : keyOf Tryz.prog 9 (.string s) = some (txtK s) := by
  have := WideMaps.keyOf_string_mk (P := Tryz.prog) Tryz.underlying9 (s := s) (by unfold maxLen; omega)
  exact this
theorem keysT_mem {l : List ByteArray} {s : ByteArray} : txtK s ∈ keysT l ↔ s ∈ l := by
  constructor
  · intro h
    obtain ⟨t, ht, e⟩ := List.mem_map.1 h
    have e' : t.data.toList = s.data.toList := Lit.string.inj e
    have : t = s := by
      cases t; cases s
      congr 1
      exact Array.ext' e'
    rwa [← this]
  · intro h
    exact List.mem_map.2 ⟨s, h, rfl⟩
def listTo (ok : ByteArray → Prop) (l : List ByteArray) : Prop := (∀ s ∈ l, ok s) ∧ l.Nodup
theorem listTo_succ {ok : ByteArray → Prop} {l : List ByteArray} {j : Nat} {s : ByteArray} (h : l[j]? = some s) : listTo ok (l.take (j + 1)) ↔ listTo ok (l.take j) ∧ ok s ∧ s ∉ l.take j := by
  rw [take_snoc h]
  unfold listTo
  rw [List.nodup_append]
  constructor
  · rintro ⟨h1, h2, h3, h4⟩
    exact ⟨⟨fun x hx => h1 x (by simp [hx]), h2⟩, h1 s (by simp), fun hm => h4 s hm s (by simp) rfl⟩
  · rintro ⟨⟨h1, h2⟩, h3, h4⟩
    refine ⟨fun x hx => ?_, h2, by simp, fun a ha b hb => ?_⟩
    · rcases List.mem_append.1 hx with hx | hx
      · exact h1 x hx
      · rw [List.mem_singleton] at hx; subst hx; exact h3
    · rw [List.mem_singleton] at hb; subst hb; intro e; subst e; exact h4 ha
theorem listTo_not {ok : ByteArray → Prop} {l : List ByteArray} {a b k : Nat} (h : ¬ listTo ok (l.take k)) : ¬ listC ok l a b := fun h' => h ⟨fun s hs => h'.1 s (List.mem_of_mem_take hs), h'.2.1.sublist (List.take_sublist _ _)⟩
set_option maxRecDepth 100000 in
set_option maxHeartbeats 4000000 in
theorem list_any (F : FuncId) (hE : Enters Tryz.prog F) (ok : ByteArray → Prop) [DecidablePred ok] (l : List ByteArray) (least most : Nat) (hm : least ≤ 8 ∧ most ≤ 8) (hn : l.length ≤ 100) (hs : ∀ s ∈ l, s.size ≤ 2000) (A : Option Addr) (c : Nat) (w : World) (hr : Reads w w.heap.size 1 A l.length (tv l))
    (hF : ∀ s ∈ l, ∀ W, Calls Tryz.prog F #[.string s] W fun e w' => e = .returned (.int .i64 (if ok s then 0 else 110)) ∧ Ext W w') :
    Calls Tryz.prog 274 #[.slice A l.length c, .int .i64 (least : Int), .int .i64 (most : Int), .func (.func F) #[] #[]] w fun e w' => e = .returned (.bool (decide (listC ok l least most))) ∧ Ext w w' := by
  have hmm := @run_makeMap Tryz.prog
  obtain ⟨W1, e1⟩ : ∃ W, w.alloc (.map #[] 0) = W := ⟨_, rfl⟩
  have x1 : Ext w W1 := by rw [← e1]; exact (Ext.refl w).alloc _
  have k1 : KSet 9 W1 w.heap.size [] := by rw [← e1]; exact KSet.new _ _
  have HR := Lib.hid fun (W : World) (x : Ext w W) => (hr.below x.out).more x.size
  have HR0 := Lib.hid hr
  have HF := Lib.hid hF
  have HS := Lib.hid hs
  have HX1 := Lib.hid x1
  have HK1 := Lib.hid k1
  have HM := Lib.hid hm
  unfold Enters at hE
  clear x1 k1 hr hF hs
  go_enter Tryz.func274, Tryz.ntmps274
  go_upto_region 2 with (fail)
  try rw [e1]
  clear e1
  go_wp2
  go_loopg [15] l.length (fun m s15 wr => ∃ j : Nat, j + m = l.length ∧ s15 = .int .i64 j ∧ listTo ok (l.take j) ∧ KSet 9 wr w.heap.size (keysT (l.take j)) ∧ Ext w wr)
  case atStart => exact ⟨0, by omega, rfl, ⟨by simp, by simp⟩, HK1.out, HX1.out⟩
  case round =>
    obtain ⟨j, hj, rfl, hok, hk, hx⟩ := hrel
    have hjb : (j : Int) ≤ 100 := by omega
    by_cases h : j < l.length
    · obtain ⟨s, hs⟩ : ∃ s, l[j]? = some s := ⟨_, List.getElem?_eq_getElem h⟩
      obtain ⟨ad, rfl, q0⟩ := reads_text (HR.out _ hx) hs
      have hsz := HS.out s (List.mem_of_getElem? hs)
      have ky := key_txt hsz
      have lk := fun W (hk : KSet 9 W w.heap.size (keysT (l.take j))) (bb : Bool) (hb : bb = true ↔ s ∈ l.take j) => KSet.look keyStr Tryz.underlying223 hk ky (by trivial) (bb := bb) (by rw [hb]; exact keysT_mem.symm)
      have c1 := HF.out s (List.mem_of_getElem? hs)
      have HT := Lib.hid (listTo_succ (ok := ok) hs)
      have e1 : keysT (l.take (j + 1)) = keysT (l.take j) ++ [txtK s] := by rw [take_snoc hs]; simp [keysT]
      have HE := Lib.hid e1
      have HO := Lib.hid hok
      have HX := Lib.hid hx
      have HJ := Lib.hid hj
      have HK := Lib.hid hk
      have HKY := Lib.hid ky
      by_cases h2 : s ∈ l.take j
      · have lk1 := lk wr hk true (by simp [h2])
        have kk : Hid (¬ listC ok l least most) := Lib.hid (listTo_not (k := j + 1) fun hh => (HT.out.1 hh).2.2 h2)
        clear hx hj hs hok hk lk h2 c1 e1 ky hsz
        go_wp2
        go_ret
        exact ⟨ret_bool (decide_eq_false kk.out).symm, HX.out⟩
      · have lk1 := lk wr hk false (by simp [h2])
        by_cases h1 : ok s
        · rw [if_pos h1] at c1
          have hok' : Hid (listTo ok (l.take (j + 1))) := Lib.hid (HT.out.2 ⟨HO.out, h1, h2⟩)
          clear hx hj hs hok hk lk h2 h1 e1 ky hsz
          go_wp2_with (first | (go_at_fn F; refine (c1 _).mono ?_; clear c1; rintro e w2 ⟨rfl, x2⟩; have HK2 := Lib.hid (HK.out.ext x2); have HX2 := Lib.hid (HX.out.trans x2); clear x2) | (at_mapUpdate; refine wpList_mapUpdate_own _ rfl _ _ _ 223 rfl 9 4 keyStr Tryz.underlying223 _ w.heap.size _ _ rfl HK2.out (by have := HJ.out; simp only [maxLen, keysT, List.length_map, List.length_take]; omega) _ _ _ rfl rfl HKY.out tt [] (plainElem_bool Tryz.underlying4 true) ?_; intro w4 hown4 hgrow4))
          have K4 : Hid (KSet 9 w4 w.heap.size (keysT (l.take (j + 1)))) := by
            show KSet _ _ _ _
            rw [HE.out]
            exact KSet.put_ hown4
          have X4 := Lib.hid (Ext.of (HX2.out.out.grown hgrow4 HX2.out.size (fun k hk => by cases hk; exact Nat.le_refl _)))
          clear hown4 hgrow4
          have hj := HJ.out
          go_wp2
          go_roundg (gk - 1)
          case measure => omega
          case rel => exact ⟨j + 1, by omega, int_congr (by omega), hok'.out, K4.out, X4.out⟩
        · rw [if_neg h1] at c1
          have kk : Hid (¬ listC ok l least most) := Lib.hid (listTo_not (k := j + 1) fun hh => h1 (HT.out.1 hh).2.1)
          clear hx hj hs hok hk lk h2 h1 e1 ky hsz
          go_wp2_with (go_at_fn F; refine (c1 _).mono ?_; clear c1; rintro e w2 ⟨rfl, x2⟩)
          go_ret
          exact ⟨ret_bool (decide_eq_false kk.out).symm, HX.out.trans x2⟩
    · obtain rfl : j = l.length := by omega
      rw [List.take_length] at hok
      have HX := Lib.hid hx
      have HO := Lib.hid hok
      clear hx hj hok hk
      by_cases h1 : least ≤ l.length
      · have d1 : decide (least ≤ l.length) = true := decide_eq_true h1
        by_cases h2 : l.length ≤ most
        · have d2 : decide (l.length ≤ most) = true := decide_eq_true h2
          have kk : Hid (listC ok l least most) := Lib.hid ⟨HO.out.1, HO.out.2, h1, h2⟩
          clear h h1 h2
          go_wp2
          go_ret
          exact ⟨ret_bool (decide_eq_true kk.out).symm, HX.out⟩
        · have d2 : decide (l.length ≤ most) = false := decide_eq_false h2
          have kk : Hid (¬ listC ok l least most) := Lib.hid (fun h => h2 h.2.2.2)
          clear h h1 h2
          go_wp2
          go_ret
          exact ⟨ret_bool (decide_eq_false kk.out).symm, HX.out⟩
      · have d1 : decide (least ≤ l.length) = false := decide_eq_false h1
        have kk : Hid (¬ listC ok l least most) := Lib.hid (fun h => h1 h.2.2.1)
        clear h h1
        go_wp2
        go_ret
        exact ⟨ret_bool (decide_eq_false kk.out).symm, HX.out⟩
end Go.Proofs.YtfpmfegmehbfbaaGreatDoor
