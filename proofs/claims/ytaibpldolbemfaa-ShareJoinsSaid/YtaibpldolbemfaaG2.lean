/- Parts of the proofs, put together: Mem, HaPut, HaChunk, HaOf, Div, Bits, FdMath. -/
import Derived.Laws.OwnMore
import Derived.Deep.AppendLies
import Derived.Deep.Draws
import Derived.Laws.Rows
import Derived.Maps.AppendAt
import Derived.RegionTactic
import Derived.OwnWalk
import Derived.Deep.LoopGhost
import Derived.Outline
import Derived.RangeFuncNested
import Derived.RangeFuncBound
import Derived.RangeFuncCalls
import Derived.RangeFuncLeaves
import Derived.Shelf.Abstract
import Derived.Shelf.RegionOpen
import Derived.OwnWalkIn
import Derived.TacticsInMore
import Derived.LoopNIn
import Derived.LoopIn
import Derived.RangeFuncBox
import Derived.Test.YtaibpldolbemfaaShelf
import Derived.WalkKit
import Derived.WalkSpells
import Derived.WalkLawsBesides
import Derived.Deep.QuietTactic
import Derived.BigQuiet
import Derived.Lib.Hide
import Derived.Deep.DeepCutAuto
import Derived.Deep.CutBlock
import Derived.Lib.ItoaNum
import Derived.Laws.Bits64b
import Derived.Test.YtaibpldolbemfaaG1
/- Words for memory (after the guide's page of words to copy): a slice that reads as a list; a block known whole; append from whatever source. -/
namespace Go.Proofs.Ytaibpldolbemfaa
open Go.RowKit

theorem block_of_add (a : Addr) (n : Nat) : (a.add n).block = a.block := by unfold Addr.add; split <;> rfl
theorem add_of_add (a : Addr) (i j : Nat) : (a.add i).add j = a.add (i + j) := by
  unfold Addr.add
  by_cases hi : i = 0 <;> by_cases hj : j = 0 <;> simp [hi, hj, Nat.add_assoc]

def Reads (w : World) (B size : Nat) (A : Option Addr) (n : Nat) (xs : List Value) : Prop :=
  xs.length = n * size ∧ (0 < n → ∃ ad, A = some ad ∧ ad.block < B ∧ ∀ j u, xs[j]? = some u → w.cell? (ad.add j) = some u)

section
variable {w w' : World} {B B' size n : Nat} {A : Option Addr} {xs : List Value}
theorem Reads.none_ : Reads w B size A 0 [] := ⟨by simp, fun h => absurd h (by omega)⟩
theorem Reads.at_ {k : Nat} (h : Reads w B 1 A n xs) (hk : k < n) : ∃ ad u, A = some ad ∧ ad.block < B ∧ xs[k]? = some u ∧ w.cell? (ad.add k) = some u := by
  obtain ⟨ad, e, hb, hc⟩ := h.2 (by omega)
  have hl : k < xs.length := by have := h.1; omega
  exact ⟨ad, xs[k], e, hb, List.getElem?_eq_getElem hl, hc k _ (List.getElem?_eq_getElem hl)⟩
theorem Reads.keep (h : Reads w B size A n xs) (hk : ∀ p : Addr, p.block < B → w'.cell? p = w.cell? p) : Reads w' B size A n xs :=
  ⟨h.1, fun hn => by
    obtain ⟨ad, e, hb, hc⟩ := h.2 hn
    exact ⟨ad, e, hb, fun j u hu => (hk _ (by rw [block_of_add]; exact hb)).trans (hc j u hu)⟩⟩
theorem Reads.more (h : Reads w B size A n xs) (hB : B ≤ B') : Reads w B' size A n xs :=
  ⟨h.1, fun hn => by
    obtain ⟨ad, e, hb, hc⟩ := h.2 hn
    exact ⟨ad, e, by omega, hc⟩⟩
theorem Reads.below (h : Reads w B size A n xs) (hb : Below B w w') : Reads w' B size A n xs := h.keep fun _ hp => hb.cell hp
theorem Reads.drew (h : Reads w B size A n xs) : Reads w.drew B size A n xs := h
theorem Reads.drewN (h : Reads w B size A n xs) (k : Nat) : Reads (w.drewN k) B size A n xs := h
theorem Reads.alloc (h : Reads w B size A n xs) (hB : B ≤ w.heap.size) (o : Obj) : Reads (w.alloc o) B size A n xs := h.keep fun p hp => World.cell?_alloc_lt w o p (by omega)
theorem Reads.setCell (h : Reads w B size A n xs) {p : Addr} (hB : B ≤ p.block) (u : Value) : Reads (w.setCell p u) B size A n xs :=
  h.keep fun q hq => World.cell?_setCell_other w p q u (fun e => by subst e; omega)
theorem Reads.grown (h : Reads w B size A n xs) {row : Option Nat} (hg : w.grownBy w' row) (hB : B ≤ w.heap.size) (hr : ∀ g, row = some g → B ≤ g) : Reads w' B size A n xs :=
  h.keep fun p hp => World.cell?_of_block (hg.block p.block (by omega) (fun e => by have := hr _ e.symm; omega))
theorem Reads.cut (h : Reads w B size A n xs) {k cap : Nat} (hk : k ≤ n) (hc : n ≤ cap) :
    Reads w B size (if cap = k then A else A.map (·.add (k * size))) (n - k) (xs.drop (k * size)) := by
  refine ⟨by rw [List.length_drop, h.1, Nat.sub_mul], fun hn => ?_⟩
  obtain ⟨ad, rfl, hb, hcell⟩ := h.2 (by omega)
  rw [if_neg (by omega)]
  refine ⟨ad.add (k * size), rfl, by rw [block_of_add]; exact hb, fun j u hu => ?_⟩
  rw [add_of_add]
  exact hcell _ u (by rw [← hu, List.getElem?_drop])
theorem Reads.of_own {base : Nat} {e : TypeId} {c : Nat} (h : w.ownsRow base e size (.slice A n c) n xs) : Reads w w.heap.size size A n xs := by
  refine ⟨h.1, fun hn => ?_⟩
  obtain ⟨g, cap, hv, _, hlt⟩ := h.form hn
  have hA : A = some ⟨g, 0, none⟩ := by injection hv
  subst hA
  exact ⟨_, rfl, hlt, h.cells (g := g) rfl⟩
end

def Blk (w : World) (g : Nat) (t : TypeId) (cs : Array Value) : Prop := w.heap[g]? = some (.cells cs t (0, 0))

section
variable {w w' : World} {g : Nat} {t : TypeId} {cs : Array Value}
theorem Blk.lt (h : Blk w g t cs) : g < w.heap.size := by
  rcases Nat.lt_or_ge g w.heap.size with hlt | hge
  · exact hlt
  · unfold Blk at h; rw [Array.getElem?_eq_none hge] at h; cases h
theorem Blk.cell (h : Blk w g t cs) (i : Nat) : w.cell? ⟨g, i, none⟩ = cs[i]? := cell_of_row w g i cs t (0, 0) h
theorem Blk.frozen (h : Blk w g t cs) (i : Nat) : w.frozen? ⟨g, i, none⟩ = false := by
  unfold Blk at h
  simp [World.frozen?, h]
theorem Blk.new (w : World) (t : TypeId) (cs : Array Value) : Blk (w.alloc (.cells cs t)) w.heap.size t cs := heap_alloc_new w _
theorem Blk.drew (h : Blk w g t cs) : Blk w.drew g t cs := h
theorem Blk.drewN (h : Blk w g t cs) (n : Nat) : Blk (w.drewN n) g t cs := h
theorem Blk.alloc (h : Blk w g t cs) (o : Obj) : Blk (w.alloc o) g t cs := (Below.heap_alloc w o g h.lt).trans h
theorem Blk.set_ (h : Blk w g t cs) (i : Nat) (u : Value) : Blk (w.setCell ⟨g, i, none⟩ u) g t (cs.setIfInBounds i u) := by
  unfold Blk at h ⊢
  simp [World.setCell, Array.getElem?_modify, h]
theorem Blk.far (h : Blk w g t cs) {p : Addr} (hp : g ≠ p.block) (u : Value) : Blk (w.setCell p u) g t cs := (Below.heap_setCell w p u g hp).trans h
theorem Blk.below {B : Nat} (h : Blk w g t cs) (hb : Below B w w') (hg : g < B) : Blk w' g t cs := (hb.block g hg).trans h
theorem Blk.grown {row : Option Nat} (h : Blk w g t cs) (hb : w.grownBy w' row) (hg : some g ≠ row) : Blk w' g t cs := (hb.block g h.lt hg).trans h
theorem Blk.ne_ {g' : Nat} {t' : TypeId} {cs' : Array Value} (h : Blk w g t cs) (h' : Blk w g' t' cs') (hne : t ≠ t') : g ≠ g' := by
  rintro rfl
  unfold Blk at h h'
  rw [h] at h'
  injection h' with h'
  injection h' with _ ht
  exact hne ht
theorem own_blk_ne {base : Nat} {e : TypeId} {size n : Nat} {v : Value} {xs : List Value} (h : w.ownsRow base e size v n xs) (hg : Blk w g t cs) (hne : e ≠ t) : v.ownBlock ≠ some g := by
  rcases h.2 with ⟨rfl, _⟩ | ⟨g', cap, cur, rfl, _, hh, _⟩
  · simp [Value.ownBlock]
  · intro he
    have : g' = g := by simpa [Value.ownBlock] using he
    subst this
    exact Blk.ne_ (t := e) hh hg hne rfl
end

section
variable {P : Program} (w : World)

theorem run_append_of_nil (base : Nat) (t ty e : TypeId) (i : TypeInfo) (size : Nat) (ht : P.underlying t = some (.slice e)) (hi : P.info? e = some i)
    (v : Value) (n : Nat) (xs : List Value) (hown : w.ownsRow base e size v n xs) (c : Nat) : (Builtin.append_ #[t, t] ty #[v, .slice none 0 c]).run P w = .ok v w := by
  rcases hown.2 with ⟨rfl, rfl⟩ | ⟨g, cap, cur, rfl, _, _, hnc, _⟩
  · simp [Builtin.append_, run_underlying ht, sizeOf, typeInfo, hi, Builtin.lenOf, Builtin.firstCells]
  · simp [Builtin.append_, run_underlying ht, sizeOf, typeInfo, hi, Builtin.lenOf, Builtin.firstCells, hnc, storeCells]

theorem run_append_any (base : Nat) (t ty e : TypeId) (i : TypeInfo) (z : Value) (size bytes : Nat) (ht : P.underlying t = some (.slice e)) (hi : P.info? e = some i) (hz : i.zero = some z)
    (hsize : i.size = size) (hby : i.bytes = bytes) (hzs : z.cells.size = size) (hsz : 0 < size)
    (v : Value) (n : Nat) (xs : List Value) (hown : w.ownsRow base e size v n xs)
    (B : Nat) (A : Option Addr) (m c : Nat) (news : List Value) (hr : Reads w B size A m news) (h1 : ∀ u ∈ news, u.oneCell' = true)
    (h63 : n + m ≤ maxLen) (hbytes : (n + m) * bytes ≤ 140737488355328) (hbase : base ≤ w.heap.size) :
    ∃ v' w', (Builtin.append_ #[t, t] ty #[v, .slice A m c]).run P w = .ok v' w' ∧ w'.ownsRow base e size v' (n + m) (xs ++ news) ∧ w.grownBy w' v.ownBlock ∧
      (v'.ownBlock = v.ownBlock ∨ v'.ownBlock = some w.heap.size) := by
  rcases A with _ | ad
  · have hm : m = 0 := by
      rcases Nat.eq_zero_or_pos m with h0 | h0
      · exact h0
      · obtain ⟨ad, h, _⟩ := hr.2 h0
        cases h
    subst hm
    have hn : news = [] := List.eq_nil_of_length_eq_zero (by simpa using hr.1)
    subst hn
    exact ⟨v, w, run_append_of_nil w base t ty e i size ht hi v n xs hown c, by simpa using hown, World.grownBy.refl w _, .inl rfl⟩
  · have hcells : ∀ j u, news[j]? = some u → w.cell? (ad.add j) = some u := by
      intro j u hu
      rcases Nat.eq_zero_or_pos m with h0 | h0
      · subst h0
        have hn : news = [] := List.eq_nil_of_length_eq_zero (by simpa using hr.1)
        subst hn
        simp at hu
      · obtain ⟨ad', h, _, hc⟩ := hr.2 h0
        injection h with h
        subst h
        exact hc j u hu
    obtain ⟨v', w', hrun, h2, h3, _, h5⟩ := run_append_own_at (P := P) w base t ty e i z size bytes ht hi hz hsize hby hzs hsz v n xs hown ad m c news hr.1 hcells h1 h63 hbytes hbase
    exact ⟨v', w', hrun, h2, h3, h5⟩

theorem wp_append_any {o : Oper} {a : Act} {K : Act → World → Prop} {Q : Exit → Act → World → Prop} (s x : Operand) (t : TypeId)
    (ho : o.op = .call { callee := .builtin .append, args := #[s, x], argTypes := #[t, t] })
    (base : Nat) (e : TypeId) (i : TypeInfo) (z : Value) (size bytes : Nat) (ht : P.underlying t = some (.slice e)) (hi : P.info? e = some i) (hz : i.zero = some z)
    (hsize : i.size = size) (hby : i.bytes = bytes) (hzs : z.cells.size = size) (hsz : 0 < size)
    (v : Value) (n : Nat) (xs : List Value) (hs : a.eval s = v) (hown : w.ownsRow base e size v n xs)
    (B : Nat) (A : Option Addr) (m c : Nat) (news : List Value) (hx : a.eval x = .slice A m c) (hr : Reads w B size A m news) (h1 : ∀ u ∈ news, u.oneCell' = true)
    (h63 : n + m ≤ maxLen) (hbytes : (n + m) * bytes ≤ 140737488355328) (hbase : base ≤ w.heap.size)
    (h : ∀ v' w', w'.ownsRow base e size v' (n + m) (xs ++ news) → w.grownBy w' v.ownBlock → (v'.ownBlock = v.ownBlock ∨ v'.ownBlock = some w.heap.size) → K (a.put o.dst v') w') : o.wp P a w K Q := by
  obtain ⟨v', w', hrun, h2, h3, h4⟩ := run_append_any (P := P) w base t o.type e i z size bytes ht hi hz hsize hby hzs hsz v n xs hown B A m c news hr h1 h63 hbytes hbase
  unfold Oper.wp execOp
  simp only [ho, resolve, invoke, builtin, Sem.run_bind, Sem.run_pure, Result.andThen_ok, List.map_toArray, List.map_cons, List.map_nil, hs, hx, hrun]
  exact h v' w' h2 h3 h4

theorem wpList_append_any {ops : Array Oper} {rest : List Oper} {o : Oper} {a : Act} {Q : Exit → Act → World → Prop} (hgd : o.guard = none) (s x : Operand) (t : TypeId)
    (ho : o.op = .call { callee := .builtin .append, args := #[s, x], argTypes := #[t, t] })
    (base : Nat) (e : TypeId) (i : TypeInfo) (z : Value) (size bytes : Nat) (ht : P.underlying t = some (.slice e)) (hi : P.info? e = some i) (hz : i.zero = some z)
    (hsize : i.size = size) (hby : i.bytes = bytes) (hzs : z.cells.size = size) (hsz : 0 < size)
    (v : Value) (n : Nat) (xs : List Value) (hs : a.eval s = v) (hown : w.ownsRow base e size v n xs)
    (B : Nat) (A : Option Addr) (m c : Nat) (news : List Value) (hx : a.eval x = .slice A m c) (hr : Reads w B size A m news) (h1 : ∀ u ∈ news, u.oneCell' = true)
    (h63 : n + m ≤ maxLen) (hbytes : (n + m) * bytes ≤ 140737488355328) (hbase : base ≤ w.heap.size)
    (h : ∀ v' w', w'.ownsRow base e size v' (n + m) (xs ++ news) → w.grownBy w' v.ownBlock → (v'.ownBlock = v.ownBlock ∨ v'.ownBlock = some w.heap.size) → wpList P ops Q rest (a.put o.dst v') w') : wpList P ops Q (o :: rest) a w :=
  wpList_plain hgd fun _ hK => wp_append_any w s x t ho base e i z size bytes ht hi hz hsize hby hzs hsz v n xs hs hown B A m c news hx hr h1 h63 hbytes hbase fun v' w' h2 h3 h4 => hK _ _ (h v' w' h2 h3 h4)

theorem step_append_any {ops : Array Oper} {o : Oper} {a : Act} {K : Act → World → Prop} {Q : Exit → Act → World → Prop} {E : Prop} (hgd : o.guard = none) (s x : Operand) (t : TypeId)
    (ho : o.op = .call { callee := .builtin .append, args := #[s, x], argTypes := #[t, t] })
    (base : Nat) (e : TypeId) (i : TypeInfo) (z : Value) (size bytes : Nat) (ht : P.underlying t = some (.slice e)) (hi : P.info? e = some i) (hz : i.zero = some z)
    (hsize : i.size = size) (hby : i.bytes = bytes) (hzs : z.cells.size = size) (hsz : 0 < size)
    (v : Value) (n : Nat) (xs : List Value) (hs : a.eval s = v) (hown : w.ownsRow base e size v n xs)
    (B : Nat) (A : Option Addr) (m c : Nat) (news : List Value) (hx : a.eval x = .slice A m c) (hr : Reads w B size A m news) (h1 : ∀ u ∈ news, u.oneCell' = true)
    (h63 : n + m ≤ maxLen) (hbytes : (n + m) * bytes ≤ 140737488355328) (hbase : base ≤ w.heap.size)
    (h : ∀ v' w', w'.ownsRow base e size v' (n + m) (xs ++ news) → w.grownBy w' v.ownBlock → (v'.ownBlock = v.ownBlock ∨ v'.ownBlock = some w.heap.size) → K (a.put o.dst v') w') :
    if Region.wanted o (yielded ops a.tmps) = true then Oper.wp P o a w K Q else E := by
  have hw : Region.wanted o (yielded ops a.tmps) = true := by simp [Region.wanted, hgd]
  rw [if_pos hw]
  exact wp_append_any w s x t ho base e i z size bytes ht hi hz hsize hby hzs hsz v n xs hs hown B A m c news hx hr h1 h63 hbytes hbase h
end

end Go.Proofs.Ytaibpldolbemfaa

/- The hash, walked: put, Bytes. -/
namespace Go.Proofs.Ytaibpldolbemfaa
open Go.RowKit

/-- Bytes as cells; words as cells. -/
def bv (l : List Nat) : List Value := l.map fun x : Nat => .int .u8 (x : Int)
def uv (l : List Nat) : List Value := l.map fun x : Nat => .int .u64 (x : Int)
theorem bv_length (l : List Nat) : (bv l).length = l.length := by simp [bv]
theorem bv_append (l m : List Nat) : bv (l ++ m) = bv l ++ bv m := by simp [bv]
theorem uv_length (l : List Nat) : (uv l).length = l.length := by simp [uv]
theorem uv_append (l m : List Nat) : uv (l ++ m) = uv l ++ uv m := by simp [uv]
theorem bv_one (l : List Nat) : ∀ u ∈ bv l, u.oneCell' = true := by
  intro u hu
  simp only [bv, List.mem_map] at hu
  obtain ⟨x, _, rfl⟩ := hu
  rfl

/-- The first j of a number's k lowest bytes, the highest first. -/
def beN (n k j : Nat) : List Nat := (List.range j).map fun i => n / 2 ^ (8 * (k - 1 - i)) % 256
theorem beN_succ (n k j : Nat) : beN n k (j + 1) = beN n k j ++ [n / 2 ^ (8 * (k - 1 - j)) % 256] := by simp [beN, List.range_succ]
theorem beN_length (n k j : Nat) : (beN n k j).length = j := by simp [beN]
def be (n k : Nat) : List Nat := beN n k k

theorem Try.infoU8 : (Try.prog.info? 5).map (fun i => (i.zero, i.size, i.bytes)) = some (some (.int .u8 0), 1, 1) := by kernel_rfl

theorem own_ge {w : World} {base : Nat} {e : TypeId} {size n : Nat} {v : Value} {xs : List Value} (h : w.ownsRow base e size v n xs) : ∀ k, v.ownBlock = some k → base ≤ k := by
  intro k hk
  rcases h.2 with ⟨rfl, _⟩ | ⟨g, cap, cur, rfl, hb, _⟩
  · cases hk
  · simp [Value.ownBlock] at hk; omega
theorem own_drewN {w : World} {base : Nat} {e : TypeId} {size n : Nat} {v : Value} {xs : List Value} (h : w.ownsRow base e size v n xs) (k : Nat) : (w.drewN k).ownsRow base e size v n xs := h

set_option maxRecDepth 100000 in
set_option maxHeartbeats 1000000 in
theorem put_any (base : Nat) (v : Value) (l : List Nat) (n k : Nat) (hk : k ≤ 8) (w : World) (hown : w.ownsRow base 5 1 v l.length (bv l)) (hbase : base ≤ w.heap.size) (hl : l.length ≤ 1099511627776) :
    Calls Try.prog 62 #[v, .int .u64 n, .int .i64 k] w fun e w' => ∃ v', e = .returned v' ∧ w'.ownsRow base 5 1 v' (l ++ be n k).length (bv (l ++ be n k)) ∧ Below base w w' := by
  obtain ⟨i0, hi, hz0, hz1, hz2⟩ := info_parts Try.infoU8
  have hk8 : (k : Int) ≤ 8 := by omega
  have HL := Lib.hid hl
  clear hl
  go_enter Try.func62, Try.ntmps62
  go_wp2
  go_loopg [0, 2] k (fun m s0 s2 wr => ∃ j : Nat, j + m = k ∧ s2 = .int .i64 ((k : Int) - 1 - j) ∧ wr.ownsRow base 5 1 s0 (l ++ beN n k j).length (bv (l ++ beN n k j)) ∧ Below base w wr ∧ base ≤ wr.heap.size)
  case atStart => exact ⟨0, by omega, int_congr (by omega), by simpa [beN] using hown, Below.refl _ _, hbase⟩
  case round =>
    obtain ⟨j, hj, rfl, ho, hB, hb⟩ := hrel
    by_cases h : j < k
    · obtain ⟨i, hij⟩ : ∃ i : Nat, (k : Int) - 1 - j = i := ⟨k - 1 - j, by omega⟩
      rw [hij]
      have hi7 : (i : Int) ≤ 7 := by omega
      obtain ⟨q, hq⟩ : ∃ q, q = n / 2 ^ (8 * i) := ⟨_, rfl⟩
      have k1 : (n : Int) / 2 ^ (8 * i) = (q : Int) := by rw [hq]; simp
      obtain ⟨r, hr⟩ : ∃ r, r = q % 256 := ⟨_, rfl⟩
      have k2 : IntKind.u8.wrap (q : Int) = (r : Int) := by rw [IntKind.wrap_u8, hr]; omega
      have hrb : r = n / 2 ^ (8 * (k - 1 - j)) % 256 := by rw [hr, hq]; congr 4; omega
      have HR := Lib.hid hrb
      have HJ := Lib.hid hj
      have HI := Lib.hid hij
      clear hq hr hrb hj hij hown
      have hlen : (l ++ beN n k j).length ≤ 1099511627784 := by have := HL.out; have := HJ.out; rw [List.length_append, beN_length]; omega
      have HLN := Lib.hid hlen
      have HB := Lib.hid hB
      have HH := Lib.hid hb
      clear hlen hB hb
      go_wp2_with (at_builtin; refine wpList_append_own _ rfl (.tmp 13) (.tmp 19) 23 rfl base 5 i0 (.int .u8 0) 1 1 Try.underlying23 hi hz0 hz1 hz2 rfl (by decide) _ _ _ rfl (ho.alloc _) ⟨wr.heap.size, 0, none⟩ 1 1 [.int .u8 (r : Int)] rfl rfl (cell_one_new _ _ _) (by simp [Value.oneCell']) (by have := HLN.out; simp only [maxLen]; omega) (by have := HLN.out; omega) (by have := HH.out; simp; omega) ?_; intro v' w1 hown1 hg1 _)
      have B1 : Hid (Below base w w1) := Lib.hid ((HB.out.alloc HH.out _).grown hg1 (by have := HH.out; simp; omega) (own_ge ho))
      have S1 : Hid (base ≤ w1.heap.size) := Lib.hid (by have := HH.out; have := hg1.size; simp at this; omega)
      have O1 : Hid (w1.ownsRow base 5 1 v' (l ++ beN n k (j + 1)).length (bv (l ++ beN n k (j + 1)))) := by
        have e : l ++ beN n k (j + 1) = (l ++ beN n k j) ++ [r] := by rw [beN_succ, List.append_assoc, HR.out]
        show World.ownsRow _ _ _ _ _ _ _
        rw [e, List.length_append, bv_append]
        exact hown1
      clear hown1 hg1 ho
      have hij := HI.out
      have hj := HJ.out
      go_wp2
      go_roundg (gk - 1)
      case measure => omega
      case rel => exact ⟨j + 1, by omega, int_congr (by omega), O1.out, B1.out, S1.out⟩
    · obtain rfl : j = k := by omega
      have O := Lib.hid ho
      have HB := Lib.hid hB
      have e : (j : Int) - 1 - j = -1 := by omega
      rw [e]
      clear ho hB hj hown hi hz0 hz1 hz2
      go_wp2
      go_ret
      exact ⟨_, rfl, O.out, HB.out⟩
end Go.Proofs.Ytaibpldolbemfaa

/- slices.Chunk over bytes by sevens, walked, whatever the loop's body. -/
namespace Go.Proofs.Ytaibpldolbemfaa
open Go.RowKit Go.Shelf
attribute [local go_sem] Oper.semAt_some

/-- The places of the pieces. -/
abbrev Ck (m : Nat) := { j : Nat // 7 * j < m }
def cnt (m : Nat) : Nat := (m + 6) / 7
def cLen (m j : Nat) : Nat := min 7 (m - 7 * j)
def cEnc (ad : Addr) (m : Nat) (x : Ck m) : Array Value := #[.slice (some (ad.add (7 * x.1))) (cLen m x.1) (cLen m x.1)]

theorem Chunk_any (A : Option Addr) (m c : Nat) (w : World) :
    Calls Try.prog 85 #[.slice A m c, .int .i64 7] w fun e w' => e = .returned (.func (.func 92) #[] #[.pointer (some ⟨w.heap.size, 0, none⟩), .pointer (some ⟨w.heap.size + 1, 0, none⟩)]) ∧ (w.alloc (.cells #[.slice A m c] 23)).alloc (.cells #[.int .i64 7] 3) = w' := by
  have hmf : ∀ (fn : Fn) (first cap : Array Value) (w : World), (Instr.makeFunc fn first cap).run Try.prog w = .ok (.func fn first cap) w := fun _ _ _ _ => rfl
  go_enter Try.func85, Try.ntmps85
  go_wp2
  go_ret
  exact ⟨rfl, rfl⟩

set_option maxRecDepth 100000 in
set_option maxHeartbeats 1000000 in
theorem chunk1_in (ad : Addr) (A : Option Addr) (m c : Nat) (hmc : m ≤ c) (hm : m ≤ 1099511627776) (hA : 0 < m → A = some ad) (f : Nat) (hf : 1 ≤ f) (l B1 B2 : Nat) (J Jx : List (Ck m) → World → Prop)
    (hY : ∀ pre b W, J pre W → pre.length < cnt m → YieldAt Fence.wide (f - 1) Try.prog l (cEnc ad m b) W fun e W' =>
      (e = .returned (.bool true) ∧ J (pre ++ [b]) W' ∧ (W'.cell? ⟨B1, 0, none⟩ = W.cell? ⟨B1, 0, none⟩ ∧ W'.cell? ⟨B2, 0, none⟩ = W.cell? ⟨B2, 0, none⟩)) ∨ (e = .returned (.bool false) ∧ Jx (pre ++ [b]) W'))
    (hJd : ∀ pre W, J pre W → J pre W.drew)
    (W : World) (hB1 : W.cell? ⟨B1, 0, none⟩ = some (.slice A m c)) (hB2 : W.cell? ⟨B2, 0, none⟩ = some (.int .i64 7)) (h0 : J [] W) :
    CallsIn Fence.wide f Try.prog 92 #[.func (.yield l) #[] #[], .pointer (some ⟨B1, 0, none⟩), .pointer (some ⟨B2, 0, none⟩)] W fun e W' => (∃ v, e = .returned v) ∧
      ((∃ ys : List (Ck m), ys.map (·.1) = List.range (cnt m) ∧ J ys W') ∨ (∃ pre : List (Ck m), True ∧ Jx pre W')) := by
  refine callsIn_of_wp Try.func92 rfl trivial ?_ rfl
  simp only [Try.ntmps92, List.size_toArray, List.length_cons, List.length_nil, Nat.reduceAdd, Nat.reduceSub, Array.replicate_succ, Array.replicate_zero, List.push_toArray, List.append_toArray, List.nil_append, List.cons_append]
  gi_wp2
  gi_loopw [4] (fun i wr => ∃ k : Nat, k ≤ cnt m ∧ i = .int .i64 ((7 * k : Nat) : Int) ∧ (∃ pre : List (Ck m), pre.map (·.1) = List.range k ∧ J pre wr) ∧ wr.cell? ⟨B1, 0, none⟩ = some (.slice A m c) ∧ wr.cell? ⟨B2, 0, none⟩ = some (.int .i64 7))
    (fun i _ => ((m : Int) + 7 - intOf i).toNat)
  case atStart => exact ⟨0, Nat.zero_le _, rfl, ⟨[], rfl, h0⟩, hB1, hB2⟩
  case round =>
    obtain ⟨k, hk, rfl, ⟨pre, hpre, hJ⟩, d1, d2⟩ := hrel
    have hpl : pre.length = k := by simpa using congrArg List.length hpre
    by_cases hlt : 7 * k < m
    · obtain rfl : A = some ad := hA (by omega)
      obtain ⟨x, hx⟩ : ∃ x : Ck m, x.1 = k := ⟨⟨k, hlt⟩, rfl⟩
      obtain ⟨fn, tmps, assign, body, hy, hR⟩ := hY _ x wr.drew (hJd _ _ hJ) (by rw [hpl]; unfold cnt; omega)
      obtain ⟨i, hi⟩ : ∃ i, i = 7 * k := ⟨_, rfl⟩
      obtain ⟨r, hr⟩ : ∃ r, m - i = r := ⟨_, rfl⟩
      have hpx : (pre ++ [x]).map (·.1) = List.range (k + 1) := by rw [List.map_append, hpre, List.range_succ]; simp [hx]
      obtain ⟨pre', hp'⟩ : ∃ pre', pre ++ [x] = pre' := ⟨_, rfl⟩
      rw [hp'] at hR hpx
      have hR' := hR.mono (R' := fun e W' => (e = .returned (.bool true) ∧ Hid (J pre' W' ∧ W'.cell? ⟨B1, 0, none⟩ = some (.slice (some ad) m c)) ∧ W'.cell? ⟨B2, 0, none⟩ = some (.int .i64 7)) ∨ (e = .returned (.bool false) ∧ Hid (Jx pre' W'))) (fun e W' h => by
        rcases h with ⟨he, hj, hc1, hc2⟩ | ⟨he, hj⟩
        · exact .inl ⟨he, ⟨hj, hc1.trans d1⟩, hc2.trans d2⟩
        · exact .inr ⟨he, hj⟩)
      have hmx : Try.prog.follows .mixedOrders = true := by kernel_rfl
      have hH : Hid (k + 1 ≤ cnt m ∧ i = 7 * k) := Lib.hid ⟨by unfold cnt; omega, hi⟩
      have HP := Lib.hid hpx
      by_cases h7 : 7 ≤ r
      · have hen : cEnc ad m x = #[.slice (some (ad.add i)) 7 7] := by unfold cEnc cLen; rw [hx, ← hi, hr, Nat.min_eq_left h7]
        rw [hen] at hy
        rw [← hi] at hlt ⊢
        have kn : ((i : Int) + 7).toNat - i = 7 := by omega
        clear hpre hY hen hi hR hpx hp' hJ hx hJd h0 hB1 hB2 hA
        gi_wp2
        gi_region_o
        gi_wp2_with (refine hR'.mono ?_; clear hR'; rintro e W' (⟨rfl, hE, e2⟩ | ⟨rfl, hE⟩))
        · obtain ⟨hk1, hi1⟩ := hH.out
          clear d1 d2
          go_roundw
          case rel => exact ⟨k + 1, hk1, int_congr (by omega), ⟨pre', HP.out, hE.out.1⟩, hE.out.2, e2⟩
          case measure => simp [intOf]; omega
        · refine bodyPost_ret (results_none rfl _ _ _) rfl ?_
          exact ⟨⟨_, rfl⟩, .inr ⟨_, trivial, hE.out⟩⟩
      · have hen : cEnc ad m x = #[.slice (some (ad.add i)) r r] := by unfold cEnc cLen; rw [hx, ← hi, hr, Nat.min_eq_right (by omega)]
        rw [hen] at hy
        rw [← hi] at hlt ⊢
        have h7' : r < 7 := by omega
        have kn : ((i : Int) + r).toNat - i = r := by omega
        have hr0 : 1 ≤ r := by omega
        clear hpre hY hen hi hR hpx hp' hJ hx hJd h0 hB1 hB2 hA h7
        gi_wp2
        gi_region_o
        gi_wp2_with (refine hR'.mono ?_; clear hR'; rintro e W' (⟨rfl, hE, e2⟩ | ⟨rfl, hE⟩))
        · obtain ⟨hk1, hi1⟩ := hH.out
          clear d1 d2
          go_roundw
          case rel => exact ⟨k + 1, hk1, int_congr (by omega), ⟨pre', HP.out, hE.out.1⟩, hE.out.2, e2⟩
          case measure => simp [intOf]; omega
        · refine bodyPost_ret (results_none rfl _ _ _) rfl ?_
          exact ⟨⟨_, rfl⟩, .inr ⟨_, trivial, hE.out⟩⟩
    · obtain rfl : k = cnt m := by unfold cnt at hk ⊢; omega
      have HP := Lib.hid hpre
      have HJ := Lib.hid hJ
      have hge : m ≤ 7 * cnt m := by omega
      obtain ⟨i, hi⟩ : ∃ i, i = 7 * cnt m := ⟨_, rfl⟩
      rw [← hi] at hge ⊢
      clear hpre hJ hlt hi hk
      gi_wp2
      go_end0
      exact ⟨⟨_, rfl⟩, .inl ⟨_, HP.out, HJ.out⟩⟩
end Go.Proofs.Ytaibpldolbemfaa

/- The field's Of, walked: elements of bytes. -/
namespace Go.Proofs.Ytaibpldolbemfaa
open Go.RowKit Go.Shelf
attribute [local go_sem] Oper.semAt_some

/-- Bytes as a number, the lowest first; the pieces of seven; the elements. -/
def le : List Nat → Nat
  | [] => 0
  | x :: l => x + 256 * le l
def ck (l : List Nat) (j : Nat) : List Nat := (l.drop (7 * j)).take 7
def fOf (l : List Nat) : List Nat := (List.range (cnt l.length)).map fun j => le (ck l j)
theorem le_append (l m : List Nat) : le (l ++ m) = le l + 256 ^ l.length * le m := by
  induction l with
  | nil => simp [le]
  | cons x l ih => simp only [List.cons_append, le, ih, List.length_cons, Nat.pow_succ]; grind
theorem le_snoc (l : List Nat) (x : Nat) : le (l ++ [x]) = le l + x * 256 ^ l.length := by rw [le_append]; simp [le]; grind
theorem le_lt (l : List Nat) (h : ∀ x ∈ l, x < 256) : le l < 256 ^ l.length := by
  induction l with
  | nil => simp [le]
  | cons x l ih =>
    have h1 := ih fun y hy => h y (List.mem_cons_of_mem _ hy)
    have h2 := h x (List.mem_cons_self ..)
    simp only [le, List.length_cons, Nat.pow_succ]
    omega
theorem ck_length (l : List Nat) (j : Nat) : (ck l j).length = cLen l.length j := by simp [ck, cLen]
theorem ck_get (l : List Nat) (j i : Nat) (h : i < cLen l.length j) : (ck l j)[i]? = l[7 * j + i]? := by
  unfold ck cLen at *
  rw [List.getElem?_take, List.getElem?_drop, if_pos (by omega)]
def fAt (l : List Nat) (x : Ck l.length) : Nat := le (ck l x.1)

theorem or_step (a b i : Nat) (hi : i < 7) (ha : a < 256 ^ i) (hb : b < 256) : bits .or .u64 (a : Int) (IntKind.u64.wrap ((b : Int) * 2 ^ (8 * i))) = ((a + b * 256 ^ i : Nat) : Int) := by
  obtain ⟨p, hp⟩ : ∃ p, p = 256 ^ i := ⟨_, rfl⟩
  have e2 : 2 ^ (8 * i) = p := by rw [hp, Nat.pow_mul]
  have hp1 : p ≤ 281474976710656 := by
    have : p ≤ 256 ^ 6 := by rw [hp]; exact Nat.pow_le_pow_right (by decide) (by omega)
    exact this
  have e1 : ((b : Int) * 2 ^ (8 * i)) = ((b * p : Nat) : Int) := by rw [← e2]; simp
  have hbp : b * p < 18446744073709551616 := Nat.lt_of_le_of_lt (Nat.mul_le_mul (by omega : b ≤ 255) hp1) (by decide)
  rw [← hp] at ha
  have e3 : IntKind.u64.wrap ((b * p : Nat) : Int) = ((b * p : Nat) : Int) := by rw [IntKind.wrap_u64]; omega
  rw [e1, e3, bits_or_u64_nat a (b * p) (by omega) hbp, ← hp]
  congr 1
  rw [Nat.or_comm, Nat.mul_comm, ← e2, ← Nat.two_pow_add_eq_or_of_lt (by rw [e2]; exact ha), Nat.add_comm, Nat.mul_comm]

theorem Try.infoU64 : (Try.prog.info? 22).map (fun i => (i.zero, i.size, i.bytes)) = some (some (.int .u64 0), 1, 8) := by kernel_rfl
theorem uv_one (l : List Nat) : ∀ u ∈ uv l, u.oneCell' = true := by
  intro u hu
  simp only [uv, List.mem_map] at hu
  obtain ⟨x, _, rfl⟩ := hu
  rfl

theorem collected {W w1 : World} {n₀ B B1 B2 : Nat} {t t1 t2 e : TypeId} {size : Nat} {v v' u1 u2 : Value} {k m : Nat} {xs ys : List Value} {tmp : Obj}
    (hv : Boxed W B t v) (h1 : Boxed W B1 t1 u1) (h2 : Boxed W B2 t2 u2) (hte : t ≠ e) (hte1 : t1 ≠ e) (hte2 : t2 ≠ e) (hrow : W.ownsRow n₀ e size v k xs) (hn₀ : n₀ ≤ W.heap.size) (hB : n₀ ≤ B)
    (hown' : w1.ownsRow n₀ e size v' m ys) (hgrow : (W.alloc tmp).grownBy w1 v.ownBlock) (q1 : some B1 ≠ some B) (q2 : some B2 ≠ some B) :
    Boxed (w1.setCell ⟨B, 0, none⟩ v') B t v' ∧ (w1.setCell ⟨B, 0, none⟩ v').ownsRow n₀ e size v' m ys ∧ KeepsOthers W (w1.setCell ⟨B, 0, none⟩ v') ∧ Below n₀ W (w1.setCell ⟨B, 0, none⟩ v') ∧
    Boxed (w1.setCell ⟨B, 0, none⟩ v') B1 t1 u1 ∧ Boxed (w1.setCell ⟨B, 0, none⟩ v') B2 t2 u2 ∧ w1.cell? ⟨B, 0, none⟩ = some v ∧ w1.frozen? ⟨B, 0, none⟩ = false := by
  obtain ⟨hv1, hv2, hr2, hk2, hb2⟩ := hv.appended hte hrow hn₀ hB hown' hgrow
  exact ⟨hv2, hr2, hk2, hb2, ((h1.alloc tmp).kept hgrow (h1.not_row hte1 hrow)).kept (grownBy_setCell' w1 B v') q1, ((h2.alloc tmp).kept hgrow (h2.not_row hte2 hrow)).kept (grownBy_setCell' w1 B v') q2, hv1.cell, hv1.frozen⟩

set_option maxRecDepth 100000 in
set_option maxHeartbeats 2000000 in
theorem fOf_any (l : List Nat) (hl : ∀ x ∈ l, x < 256) (hm : l.length ≤ 1099511627776) (A : Option Addr) (c : Nat) (hmc : l.length ≤ c) (w : World) (hr : Reads w w.heap.size 1 A l.length (bv l)) :
    Calls Try.prog 76 #[.slice A l.length c] w fun e w' => ∃ v, e = .returned v ∧ w'.ownsRow w.heap.size 22 1 v (fOf l).length (uv (fOf l)) ∧ Below w.heap.size w w' := by
  refine (callsIn_wide (n := 5)).1 ?_
  obtain ⟨i0, hi, hz0, hz1, hz2⟩ := info_parts Try.infoU64
  have cp : ∀ k w, CallsIn Fence.wide k Try.prog 85 #[.slice A l.length c, .int .i64 7] w fun e w' => e = .returned (.func (.func 92) #[] #[.pointer (some ⟨w.heap.size, 0, none⟩), .pointer (some ⟨w.heap.size + 1, 0, none⟩)]) ∧ (w.alloc (.cells #[.slice A l.length c] 23)).alloc (.cells #[.int .i64 7] 3) = w' :=
    fun k w => callsIn_wide.2 (Chunk_any A l.length c w)
  obtain ⟨m, hml⟩ : ∃ m, m = l.length := ⟨_, rfl⟩
  refine callsIn_of_wp_marks Try.func76 rfl trivial ?_ rfl
  simp only [Try.ntmps76, List.size_toArray, List.length_cons, List.length_nil, Nat.reduceAdd, Nat.reduceSub, Array.replicate_succ, Array.replicate_zero, List.push_toArray, List.append_toArray, List.nil_append, List.cons_append]
  gi_wp2_with (refine ⟨trivial, ?_⟩; gi_at_call 85; refine (cp _ _).mono ?_; rintro e w' ⟨rfl, rfl⟩)
  have bO := ((Boxed.new w 52 (.slice none 0 0)).alloc (.cells #[.slice A l.length c] 23)).alloc (.cells #[.int .i64 7] 3)
  have b1 := (Boxed.new (w.alloc (.cells #[.slice none 0 0] 52)) 23 (.slice A l.length c)).alloc (.cells #[.int .i64 7] 3)
  have b2 := Boxed.new ((w.alloc (.cells #[.slice none 0 0] 52)).alloc (.cells #[.slice A l.length c] 23)) 3 (.int .i64 7)
  rw [World.size_alloc] at b1
  rw [World.size_alloc, World.size_alloc] at b2
  have hB0 : Below w.heap.size w (((w.alloc (.cells #[.slice none 0 0] 52)).alloc (.cells #[.slice A l.length c] 23)).alloc (.cells #[.int .i64 7] 3)) := (((Below.refl _ w).alloc (Nat.le_refl _) _).alloc (by simp) _).alloc (by simp; omega) _
  have hsz : (((w.alloc (.cells #[.slice none 0 0] 52)).alloc (.cells #[.slice A l.length c] 23)).alloc (.cells #[.int .i64 7] 3)).heap.size = w.heap.size + 3 := by simp
  obtain ⟨W0, hW0⟩ : ∃ W0, (((w.alloc (.cells #[.slice none 0 0] 52)).alloc (.cells #[.slice A l.length c] 23)).alloc (.cells #[.int .i64 7] 3)) = W0 := ⟨_, rfl⟩
  rw [hW0] at bO b1 b2 hB0 hsz ⊢
  clear hW0 cp
  obtain ⟨ad, had⟩ : ∃ ad, 0 < l.length → A = some ad := by
    rcases A with _ | ad
    · exact ⟨⟨0, 0, none⟩, fun h => by obtain ⟨_, h, _⟩ := hr.2 h; cases h⟩
    · exact ⟨ad, fun _ => rfl⟩
  refine wpIn_rangeFunc_ownF rfl (by omega) (gf := 92) (lb := #[.pointer (some ⟨w.heap.size + 1, 0, none⟩), .pointer (some ⟨w.heap.size + 1 + 1, 0, none⟩)]) rfl trivial (enters_of Try.func92 (by kernel_rfl) rfl)
    (encs := cEnc ad l.length) (Kp := fun X Y => Y.cell? ⟨w.heap.size + 1, 0, none⟩ = X.cell? ⟨w.heap.size + 1, 0, none⟩ ∧ Y.cell? ⟨w.heap.size + 1 + 1, 0, none⟩ = X.cell? ⟨w.heap.size + 1 + 1, 0, none⟩) (S := fun ys => ys.map (·.1) = List.range (cnt l.length)) (Sp := fun _ => True) (N := cnt l.length) (w0 := W0)
    (fun k J Jx W hW hJ _ hY h0 => chunk1_in ad A l.length c hmc hm had 4 (by omega) k (w.heap.size + 1) (w.heap.size + 1 + 1) J Jx hY (fun pre W hJ' => hJ pre W W.drew none hJ' ⟨rfl, rfl, rfl, Nat.le_refl _, fun _ _ _ => rfl⟩ (fun _ e => by cases e)) W
      ((Below.cell hW (p := ⟨w.heap.size + 1, 0, none⟩) (by rw [hsz]; simp)).trans b1.cell) ((Below.cell hW (p := ⟨w.heap.size + 1 + 1, 0, none⟩) (by rw [hsz]; simp)).trans b2.cell) h0)
    (fun h k => ⟨k.1.trans h.1, k.2.trans h.2⟩)
    (fun W k o o' hk _ _ _ => ⟨World.cell?_of_block (w := W) (World.putObj_heap_other (by rw [hsz] at hk; simp; omega)), World.cell?_of_block (w := W) (World.putObj_heap_other (by rw [hsz] at hk; simp; omega))⟩)
    (Below.refl _ _) (fun _ => rfl)
    (fun (pre : List (Ck l.length)) W => (((∃ v, Boxed W w.heap.size 52 v ∧ W.ownsRow w.heap.size 22 1 v pre.length (uv (pre.map (fAt l))) ∧ True) ∧ Boxed W (w.heap.size + 1) 23 (.slice A l.length c)) ∧ Boxed W (w.heap.size + 1 + 1) 3 (.int .i64 7)) ∧ Below w.heap.size w W)
    (fun _ _ _ => False)
    (OwnFrom.and (OwnFrom.and (OwnFrom.and (Own.from (holdsRow_own w.heap.size w.heap.size 52 22 1 (fun pre : List (Ck l.length) => pre.length) (fun pre : List (Ck l.length) => uv (pre.map (fAt l))) (fun _ _ => True)) _) (Own.from (boxed_own _ _ (fun _ => .slice A l.length c)) _)) (Own.from (boxed_own _ _ (fun _ => .int .i64 7)) _)) (ownFrom_below (Nat.le_refl _) (by rw [hsz]; omega)))
    (fun _ _ _ _ _ hs _ _ => hs)
    ⟨⟨⟨⟨_, bO, World.ownsRow_nil _ _ _ _, trivial⟩, b1⟩, b2⟩, hB0⟩
    (fun x => { tmps := #[.slice A l.length c, undef, .slice none 0 0, .pointer (some ⟨w.heap.size, 0, none⟩), .slice (some (ad.add (7 * x.1))) (cLen l.length x.1) (cLen l.length x.1), undef, undef, undef, .slice A l.length c, .func (.func 92) #[] #[.pointer (some ⟨w.heap.size + 1, 0, none⟩), .pointer (some ⟨w.heap.size + 1 + 1, 0, none⟩)], .slice (some (ad.add (7 * x.1))) (cLen l.length x.1) (cLen l.length x.1), undef, undef, undef, undef, undef, undef, undef, undef, undef, undef, undef, undef, undef, undef, undef, undef, undef, undef, undef, undef], defers := [] }) ?assign ?body ?done ?stop
  case assign =>
    intro k x W K hK
    simp only [cEnc]
    gi_wp2
    exact hK
  case body =>
    rintro k pre x W ⟨⟨⟨⟨v, hv, hrow, _⟩, h1⟩, h2⟩, hB⟩ hlt
    have hc := hv.cell
    have hR := (hr.below hB).2 (by have := x.2; omega)
    obtain ⟨ad', e, hab, hcell⟩ := hR
    obtain rfl : ad = ad' := by have := had (by have := x.2; omega); rw [this] at e; cases e; rfl
    obtain ⟨n, hn⟩ : ∃ n, n = cLen l.length x.1 := ⟨_, rfl⟩
    have hn7 : n ≤ 7 := by rw [hn]; unfold cLen; omega
    have hck : ∀ i, i < n → ∃ b : Nat, (ck l x.1).take (i + 1) = (ck l x.1).take i ++ [b] ∧ b < 256 ∧ W.cell? ((ad.add (7 * x.1)).add i) = some (.int .u8 (b : Int)) := by
      intro i hi'
      rw [hn] at hi'
      have e1 := ck_get l x.1 i hi'
      have hlen : 7 * x.1 + i < l.length := by unfold cLen at hi'; omega
      rw [List.getElem?_eq_getElem hlen] at e1
      refine ⟨l[7 * x.1 + i], ?_, hl _ (List.getElem_mem _), ?_⟩
      · rw [List.take_add_one, e1]; rfl
      · rw [add_of_add]; exact hcell _ _ (by simp [bv, hlen])
    have hlen : (ck l x.1).length = n := by rw [ck_length, hn]
    have hval : fAt l x = le ((ck l x.1).take n) := by rw [← hlen, List.take_length]; rfl
    have hbig : ∀ i, i ≤ n → le ((ck l x.1).take i) < 256 ^ i := by
      intro i hi'
      have := le_lt ((ck l x.1).take i) (fun y hy => hl y (List.mem_of_mem_drop (List.mem_of_mem_take (List.mem_of_mem_take hy))))
      rwa [List.length_take, hlen, Nat.min_eq_left hi'] at this
    obtain ⟨cl, hcl⟩ : ∃ cl, ck l x.1 = cl := ⟨_, rfl⟩
    rw [hcl] at hck hval hbig
    obtain ⟨aa, haa⟩ : ∃ aa, ad.add (7 * x.1) = aa := ⟨_, rfl⟩
    rw [haa] at hck
    rw [haa, ← hn]
    have HPL : Hid (pre.length + 1 ≤ 1099511627776) := Lib.hid (by unfold cnt at hlt; omega)
    have HV : Hid (uv ((pre ++ [x]).map (fAt l)) = uv (pre.map (fAt l)) ++ [.int .u64 ((le (cl.take n) : Nat) : Int)]) := by
      show _ = _
      rw [List.map_append, uv_append, List.map_cons, hval]; rfl
    have HL2 : Hid ((pre ++ [x]).length = pre.length + 1) := by
      show _ = _
      simp
    have hlen2 : ∀ i, i ≤ n → (cl.take i).length = i := by
      intro i hi'
      rw [List.length_take, ← hcl, hlen, Nat.min_eq_left hi']
    clear hn hcl haa hlen hval hcell e hlt
    gi_wp2
    gi_loopw [5, 13] (fun nv iv wr => ∃ i : Nat, i ≤ n ∧ nv = .int .u64 ((le (cl.take i) : Nat) : Int) ∧ iv = .int .i64 i ∧ wr = W) (fun _ iv _ => ((n : Int) - intOf iv).toNat)
    case atStart => exact ⟨0, Nat.zero_le _, rfl, rfl, rfl⟩
    case round =>
      obtain ⟨i, hin, rfl, rfl, rfl⟩ := hrel
      by_cases h : i < n
      · obtain ⟨b, e1, hb, hcb⟩ := hck i h
        gi_wp2
        have hk := or_step (le (cl.take i)) b i (by omega) (hbig i hin) hb
        have hl1 : (cl.take i).length = i := hlen2 i hin
        refine ⟨⟨i + 1, by omega, ?_, int_congr (by omega), trivial⟩, ?_⟩
        · rw [hk, e1, le_snoc, hl1]
        · simp [intOf]; omega
      · obtain rfl : i = n := by omega
        have hlb := hbig i hin
        clear hbig hck hlen2
        obtain ⟨val, hval⟩ : ∃ val, le (cl.take i) = val := ⟨_, rfl⟩
        rw [hval] at HV ⊢
        clear hval
        have q1 : ∀ u ∈ [Value.int .u64 (val : Int)], u.oneCell' = true := by simp [Value.oneCell']
        have q2 : pre.length + 1 ≤ maxLen := by have := HPL.out; unfold maxLen; omega
        have q3 : (pre.length + 1) * 8 ≤ 140737488355328 := by have := HPL.out; omega
        have q4 : w.heap.size ≤ (wr.alloc (.cells #[.int .u64 (val : Int)] 22)).heap.size := by have := hB.size; simp; omega
        have q5 : some (w.heap.size + 1) ≠ some w.heap.size := by simp
        have q6 : some (w.heap.size + 1 + 1) ≠ some w.heap.size := by simp; omega
        gi_wp2_with (gi_at_builtin; refine wpListIn_append_own _ rfl _ _ 52 rfl w.heap.size 22 i0 (.int .u64 0) 1 8 Try.underlying52 hi hz0 hz1 hz2 rfl (by decide) _ _ _ rfl (hrow.alloc _) ⟨wr.heap.size, 0, none⟩ 1 1 [.int .u64 (val : Int)] rfl rfl (cell_one_new _ _ _) q1 q2 q3 q4 ?_; intro v' w1 hown' hgrow _; obtain ⟨g', cap', rfl⟩ := ownsRow_succ hown'; obtain ⟨hv2, hr2, hk2, hb2, g1, g2, hc1, hf1⟩ := collected hv h1 h2 (by decide) (by decide) (by decide) hrow hB.size (Nat.le_refl _) hown' hgrow q5 q6)
        exact ⟨hk2, ⟨(g1.cell).trans h1.cell.symm, (g2.cell).trans h2.cell.symm⟩, ⟨⟨⟨_, hv2, by rw [HL2.out, HV.out]; exact hr2, trivial⟩, g1⟩, g2⟩, hB.trans hb2⟩
  case done =>
    rintro D ys W hD hys ⟨⟨⟨⟨v, hv, hrow, _⟩, _⟩, _⟩, hB⟩ hK
    have hc := hv.cell
    have e : ys.map (fAt l) = fOf l := by
      have : ys.map (fAt l) = (ys.map (·.1)).map fun j => le (ck l j) := by rw [List.map_map]; rfl
      rw [this, hys]; rfl
    have e2 : ys.length = (fOf l).length := by rw [← e, List.length_map]
    rw [e, e2] at hrow
    gi_wp2
    refine ⟨by simp, .inl ⟨_, _, rfl, run_takeDeferred hK, ?_⟩⟩
    exact ⟨_, results_tmp rfl _ _ _, v, rfl, ownsRow_putObj hrow _ hK rfl, hB.trans (belowK_b (w := w) (Nat.le_refl _) W D _ _ (by rw [hsz] at hD; omega) hK rfl rfl)⟩
  case stop =>
    rintro D c pre W _ _ h _
    exact h.elim
end Go.Proofs.Ytaibpldolbemfaa

/- Plain: dividing two words by one, half a word at a time (Knuth's D), as math/bits.Div64 does. No program in sight. -/
namespace Go.Proofs.Ytaibpldolbemfaa
/-- One half-digit: u*2^32 + d by Y = y1*2^32 + y0. -/
structure DivAt (u d y1 y0 q r : Nat) : Prop where
  hu : u < y1 * 4294967296 + y0
  hd : d < 4294967296
  h1 : 2147483648 ≤ y1
  h2 : y1 < 4294967296
  h3 : y0 < 4294967296
  sum : q * y1 + r = u
  ge : u * 4294967296 + d < (q + 1) * (y1 * 4294967296 + y0)
  top : q ≤ 4294967297
  lo : r < 4294967296

theorem DivAt.start {u d y1 y0 : Nat} (hu : u < y1 * 4294967296 + y0) (hd : d < 4294967296) (h1 : 2147483648 ≤ y1) (h2 : y1 < 4294967296) (h3 : y0 < 4294967296) : DivAt u d y1 y0 (u / y1) (u % y1) := by
  have hs : (u / y1) * y1 + u % y1 = u := by rw [Nat.mul_comm]; exact Nat.div_add_mod u y1
  have hm : u % y1 < y1 := Nat.mod_lt _ (by omega)
  refine ⟨hu, hd, h1, h2, h3, hs, ?_, ?_, by omega⟩
  · have e : (u / y1 + 1) * (y1 * 4294967296 + y0) = (u / y1 * y1 + y1) * 4294967296 + (u / y1 + 1) * y0 := by grind
    rw [e]
    have : u + 1 ≤ u / y1 * y1 + y1 := by omega
    omega
  · have : u / y1 < 4294967298 := by
      rw [Nat.div_lt_iff_lt_mul (by omega)]
      omega
    omega

theorem DivAt.stop {u d y1 y0 q r : Nat} (h : DivAt u d y1 y0 q r) (hb : q * y0 ≤ 4294967296 * r + d) : q = (u * 4294967296 + d) / (y1 * 4294967296 + y0) := by
  have e : q * (y1 * 4294967296 + y0) = q * y1 * 4294967296 + q * y0 := by grind
  have hs := h.sum
  have h1 := h.h1
  symm
  rw [Nat.div_eq_iff (by omega)]
  have hg := h.ge
  rw [Nat.add_mul] at hg
  constructor
  · rw [e]; omega
  · have : u * 4294967296 + d < q * (y1 * 4294967296 + y0) + (y1 * 4294967296 + y0) := by omega
    omega

theorem DivAt.down {u d y1 y0 q r : Nat} (h : DivAt u d y1 y0 q r) (hb : 4294967296 ≤ q ∨ 4294967296 * r + d < q * y0) :
    0 < q ∧ (q - 1) * y1 + (r + y1) = u ∧ u * 4294967296 + d < (q - 1 + 1) * (y1 * 4294967296 + y0) := by
  have hs := h.sum
  have hu := h.hu
  have hd := h.hd
  have h1 := h.h1
  have h3 := h.h3
  have hq : 0 < q := by
    rcases hb with hb | hb
    · omega
    · rcases Nat.eq_zero_or_pos q with rfl | h'
      · simp at hb
      · exact h'
  obtain ⟨p, rfl⟩ : ∃ p, q = p + 1 := ⟨q - 1, by omega⟩
  refine ⟨hq, ?_, ?_⟩
  · rw [Nat.add_sub_cancel]; rw [Nat.add_mul] at hs; omega
  · rw [Nat.add_sub_cancel]
    have e : (p + 1) * (y1 * 4294967296 + y0) = (p + 1) * y1 * 4294967296 + (p + 1) * y0 := by grind
    rcases hb with hb | hb
    · have : 4294967296 * (y1 * 4294967296 + y0) ≤ (p + 1) * (y1 * 4294967296 + y0) := Nat.mul_le_mul_right _ hb
      omega
    · rw [e]; omega

theorem DivAt.next {u d y1 y0 q r : Nat} (h : DivAt u d y1 y0 q r) (hb : 4294967296 ≤ q ∨ 4294967296 * r + d < q * y0) (hr : r + y1 < 4294967296) : DivAt u d y1 y0 (q - 1) (r + y1) := by
  obtain ⟨_, a, b⟩ := h.down hb
  have := h.top
  exact ⟨h.hu, h.hd, h.h1, h.h2, h.h3, a, b, by omega, hr⟩

theorem DivAt.leave {u d y1 y0 q r : Nat} (h : DivAt u d y1 y0 q r) (hb : 4294967296 ≤ q ∨ 4294967296 * r + d < q * y0) (hr : 4294967296 ≤ r + y1) : q - 1 = (u * 4294967296 + d) / (y1 * 4294967296 + y0) := by
  obtain ⟨_, a, b⟩ := h.down hb
  have ht := h.top
  have h1 := h.h1
  have h3 := h.h3
  have e : (q - 1) * (y1 * 4294967296 + y0) = (q - 1) * y1 * 4294967296 + (q - 1) * y0 := by grind
  have hq : (q - 1) * y0 ≤ 4294967296 * 4294967295 := Nat.mul_le_mul (by omega) (by omega)
  symm
  rw [Nat.div_eq_iff (by omega)]
  rw [Nat.add_mul] at b
  constructor
  · rw [e]; omega
  · omega

/-- The quotient's half-digit is one. -/
theorem DivAt.small {u d y1 y0 q r : Nat} (h : DivAt u d y1 y0 q r) : (u * 4294967296 + d) / (y1 * 4294967296 + y0) < 4294967296 := by
  have h1 := h.h1
  have hu := h.hu
  have hd := h.hd
  rw [Nat.div_lt_iff_lt_mul (by omega)]
  omega

/-- The two half-digits together. -/
theorem div_joinB (B u d1 d0 Y : Nat) (hY : 0 < Y) :
    (u * B + d1) / Y * B + ((u * B + d1) % Y * B + d0) / Y = (u * (B * B) + (d1 * B + d0)) / Y ∧
    ((u * B + d1) % Y * B + d0) % Y = (u * (B * B) + (d1 * B + d0)) % Y := by
  have h := Nat.div_add_mod (u * B + d1) Y
  generalize hq : (u * B + d1) / Y = q at *
  generalize hr : (u * B + d1) % Y = r at *
  have e : u * (B * B) + (d1 * B + d0) = r * B + d0 + Y * (q * B) := by grind
  rw [e, Nat.add_mul_div_left _ _ hY, Nat.add_mul_mod_self_left]
  exact ⟨by omega, rfl⟩
theorem div_join (u d1 d0 Y : Nat) (hY : 0 < Y) :
    (u * 4294967296 + d1) / Y * 4294967296 + ((u * 4294967296 + d1) % Y * 4294967296 + d0) / Y = (u * 18446744073709551616 + (d1 * 4294967296 + d0)) / Y ∧
    ((u * 4294967296 + d1) % Y * 4294967296 + d0) % Y = (u * 18446744073709551616 + (d1 * 4294967296 + d0)) % Y :=
  div_joinB 4294967296 u d1 d0 Y hY

/-- The shift away again. -/
theorem div_shift (a y s : Nat) : a * 2 ^ s / (y * 2 ^ s) = a / y ∧ a * 2 ^ s % (y * 2 ^ s) / 2 ^ s = a % y := by
  have hp : 0 < 2 ^ s := Nat.two_pow_pos s
  refine ⟨Nat.mul_div_mul_right a y hp, ?_⟩
  rw [Nat.mul_mod_mul_right, Nat.mul_div_cancel _ hp]

/-- The words, shifted: hi and lo by s places, s less than 64. -/
theorem shift_two (hi lo s : Nat) (hs : s ≤ 64) (hlo : lo < 18446744073709551616) :
    (hi * 18446744073709551616 + lo) * 2 ^ s = (hi * 2 ^ s + lo / 2 ^ (64 - s)) * 18446744073709551616 + lo * 2 ^ s % 18446744073709551616 ∧ hi * 2 ^ s ||| lo / 2 ^ (64 - s) = hi * 2 ^ s + lo / 2 ^ (64 - s) := by
  have e64 : (2 : Nat) ^ s * 2 ^ (64 - s) = 18446744073709551616 := by rw [← Nat.pow_add, show s + (64 - s) = 64 by omega]
  have hp : 0 < 2 ^ s := Nat.two_pow_pos s
  have hp2 : 0 < 2 ^ (64 - s) := Nat.two_pow_pos _
  have hlt : lo / 2 ^ (64 - s) < 2 ^ s := by rw [Nat.div_lt_iff_lt_mul hp2, e64]; exact hlo
  constructor
  · have h1 : lo * 2 ^ s / 18446744073709551616 = lo / 2 ^ (64 - s) := by
      rw [← e64, Nat.mul_comm (2 ^ s), Nat.mul_div_mul_right _ _ hp]
    have h2 := Nat.div_add_mod (lo * 2 ^ s) 18446744073709551616
    rw [h1] at h2
    rw [Nat.add_mul, Nat.add_mul]
    have e2 : hi * 18446744073709551616 * 2 ^ s = hi * 2 ^ s * 18446744073709551616 := by grind
    omega
  · rw [Nat.mul_comm hi, ← Nat.two_pow_add_eq_or_of_lt hlt]

theorem div_fin (n y s Y U T t1 t0 A1 V A0 X : Nat) (hy : 0 < Y) (HY : Y = y * 2 ^ s) (E1 : n * 2 ^ s = U * 18446744073709551616 + T) (HT : T = t1 * 4294967296 + t0) (h1 : A1 = (U * 4294967296 + t1) / Y)
    (h2 : V = (U * 4294967296 + t1) % Y) (h3 : A0 = (V * 4294967296 + t0) / Y) (h4 : X = (V * 4294967296 + t0) % Y) : n / y = A1 * 4294967296 + A0 ∧ n % y = X / 2 ^ s := by
  obtain ⟨a, b⟩ := div_join U t1 t0 Y hy
  rw [← h1, ← h2, ← h3, ← HT, ← E1] at a
  rw [← h2, ← h4, ← HT, ← E1] at b
  obtain ⟨c, d⟩ := div_shift n y s
  rw [← HY] at c d
  exact ⟨by rw [← c, a], by rw [← d, b]⟩
end Go.Proofs.Ytaibpldolbemfaa

/- math/bits.Div64, walked. -/
namespace Go.Proofs.Ytaibpldolbemfaa
open Go.RowKit Go.Shelf

theorem wrap_div (a b : Nat) (ha : a < 18446744073709551616) : IntKind.u64.wrap ((a : Int) / (b : Int)) = ((a / b : Nat) : Int) := by
  have h := Nat.div_le_self a b
  have e : (a : Int) / (b : Int) = ((a / b : Nat) : Int) := by simp
  rw [e, IntKind.wrap_u64]
  generalize a / b = q at *
  omega

theorem div64_low (lo y : Nat) (hy0 : 0 < y) (hlo : lo < 18446744073709551616) (hy : y < 18446744073709551616) (w : World) :
    Calls Try.prog 61 #[.int .u64 (0 : Nat), .int .u64 lo, .int .u64 y] w fun e w' => e = .returned (.tuple #[.int .u64 ((lo / y : Nat) : Int), .int .u64 ((lo % y : Nat) : Int)]) ∧ ∃ n, w' = w.drewN n := by
  go_enter Try.func61, Try.ntmps61
  go_wp2
  go_quiet (fail)
  go_wp2
  go_ret2
  exact ⟨ret_two (wrap_div lo y hlo) (by omega), _, rfl⟩

theorem lz_spec (y : Nat) (h0 : 0 < y) (hy : y < 18446744073709551616) : ∃ s : Nat, s ≤ 63 ∧ 9223372036854775808 ≤ y * 2 ^ s ∧ y * 2 ^ s < 18446744073709551616 ∧ (64 - (Lib.bitLen (y : Int).toNat : Int)) = s := by
  obtain ⟨a, b, c⟩ := Lib.bitLenAux_bounds 64 y hy (by omega)
  have hle := Lib.bitLen_le y 64 (by omega) hy
  refine ⟨64 - Lib.bitLen y, ?_, ?_, ?_, ?_⟩
  · unfold Lib.bitLen at *; omega
  · unfold Lib.bitLen at *
    generalize Lib.bitLenAux 64 y = L at *
    have : 2 ^ (L - 1) * 2 ^ (64 - L) ≤ y * 2 ^ (64 - L) := Nat.mul_le_mul_right _ b
    rw [← Nat.pow_add, show L - 1 + (64 - L) = 63 by omega] at this
    exact this
  · unfold Lib.bitLen at *
    generalize Lib.bitLenAux 64 y = L at *
    have := Nat.mul_lt_mul_of_pos_right c (Nat.two_pow_pos (64 - L))
    rw [← Nat.pow_add, show L + (64 - L) = 64 by omega] at this
    exact this
  · simp only [Int.toNat_natCast]; omega

set_option maxRecDepth 100000 in
theorem div64_high (hi lo y : Nat) (h0 : 0 < hi) (hh : hi < y) (hlo : lo < 18446744073709551616) (hy : y < 18446744073709551616) (w : World) :
    Calls Try.prog 61 #[.int .u64 hi, .int .u64 lo, .int .u64 y] w fun e w' => e = .returned (.tuple #[.int .u64 (((hi * 18446744073709551616 + lo) / y : Nat) : Int), .int .u64 (((hi * 18446744073709551616 + lo) % y : Nat) : Int)]) ∧ ∃ n, w' = w.drewN n := by
  obtain ⟨s, hs, hY1, hY2, hl⟩ := lz_spec y (by omega) hy
  have c0 : Calls Try.prog 75 #[.int .u64 (y : Int)] w fun e w' => e = .returned (.int .i64 (s : Int)) ∧ w = w' := (Try.bits_LeadingZeros64 _ _ (by omega) (by omega)).mono fun e w' ⟨he, hw⟩ => ⟨by rw [he, hl], hw.symm⟩
  clear hl
  have g1 : ((y : Int) == 0) = false := by simp; omega
  have g2 : ((hi : Int) == 0) = false := by simp; omega
  have g3 : ¬ y ≤ hi := by omega
  obtain ⟨Y, hY⟩ : ∃ Y, Y = y * 2 ^ s := ⟨_, rfl⟩
  have k1 : IntKind.u64.wrap ((y : Int) * 2 ^ s) = (Y : Int) := by
    have e : (y : Int) * 2 ^ s = ((y * 2 ^ s : Nat) : Int) := by simp
    rw [e, ← hY, IntKind.wrap_u64]; omega
  rw [← hY] at hY1 hY2
  have HY := Lib.hid hY
  clear hY
  obtain ⟨y1, y0, hYY, b1, b2, b3⟩ : ∃ y1 y0, Y = y1 * 4294967296 + y0 ∧ 2147483648 ≤ y1 ∧ y1 < 4294967296 ∧ y0 < 4294967296 := ⟨Y / 4294967296, Y % 4294967296, by omega, by omega, by omega, by omega⟩
  have k2 : (Y : Int) / 4294967296 = y1 := by omega
  have k3 : bits .and .u64 (Y : Int) 4294967295 = y0 := by rw [Mul64.maskN Y hY2]; omega
  obtain ⟨e1, e2⟩ := shift_two hi lo s (by omega) hlo
  have hhs : hi * 2 ^ s < 18446744073709551616 := by
    have := Nat.mul_le_mul_right (2 ^ s) (Nat.le_of_lt hh)
    rw [← HY.out] at this; omega
  obtain ⟨H, hH⟩ : ∃ H, H = hi * 2 ^ s := ⟨_, rfl⟩
  obtain ⟨L, hL⟩ : ∃ L, L = lo / 2 ^ (64 - s) := ⟨_, rfl⟩
  obtain ⟨T, hT⟩ : ∃ T, T = lo * 2 ^ s % 18446744073709551616 := ⟨_, rfl⟩
  have k4 : IntKind.u64.wrap ((hi : Int) * 2 ^ s) = (H : Int) := by
    have e : (hi : Int) * 2 ^ s = ((hi * 2 ^ s : Nat) : Int) := by simp
    rw [e, ← hH, IntKind.wrap_u64]; omega
  have k5 : (lo : Int) / 2 ^ (64 - s) = (L : Int) := by
    rw [hL]; simp
  have k6 : IntKind.u64.wrap ((lo : Int) * 2 ^ s) = (T : Int) := by
    have e : (lo : Int) * 2 ^ s = ((lo * 2 ^ s : Nat) : Int) := by simp
    rw [e, IntKind.wrap_u64, hT]; omega
  rw [← hH, ← hL, ← hT] at e1
  rw [← hH, ← hL] at e2
  have hTlt : T < 18446744073709551616 := by rw [hT]; exact Nat.mod_lt _ (by omega)
  have hUY : H + L < Y := by
    have h1 : (hi * 18446744073709551616 + lo) * 2 ^ s < y * 2 ^ s * 18446744073709551616 := by
      have : hi * 18446744073709551616 + lo < y * 18446744073709551616 := by omega
      have := Nat.mul_lt_mul_of_pos_right this (Nat.two_pow_pos s)
      calc _ < _ := this
        _ = _ := by grind
    rw [e1, ← HY.out] at h1
    omega
  clear hH hL hT
  obtain ⟨U, hU⟩ : ∃ U, U = H + L := ⟨_, rfl⟩
  rw [← hU] at e1 e2 hUY
  have hL64 : L < 18446744073709551616 := by omega
  have k7 : bits .or .u64 (H : Int) (L : Int) = (U : Int) := by rw [bits_or_u64_nat H L (by omega) hL64, e2]
  clear e2 hhs hU
  obtain ⟨t1, t0, hTT, b4, b5⟩ : ∃ t1 t0, T = t1 * 4294967296 + t0 ∧ t1 < 4294967296 ∧ t0 < 4294967296 := ⟨T / 4294967296, T % 4294967296, by omega, by omega, by omega⟩
  have k8 : (T : Int) / 4294967296 = t1 := by omega
  have k9 : bits .and .u64 (T : Int) 4294967295 = t0 := by rw [Mul64.maskN T hTlt]; omega
  have E1 := Lib.hid e1
  have HTT := Lib.hid hTT
  have HYY := Lib.hid hYY
  have d0 := DivAt.start (u := U) (d := t1) (y1 := y1) (y0 := y0) (by omega) b4 b1 b2 b3
  have dsm := d0.small
  clear hYY hTT e1
  have hqm : U / y1 * y1 ≤ U := Nat.div_mul_le_self U y1
  have hmr : U - U / y1 * y1 = U % y1 := by have := Nat.mod_add_div U y1; rw [Nat.mul_comm] at this; omega
  obtain ⟨q, hq⟩ : ∃ q, q = U / y1 := ⟨_, rfl⟩
  obtain ⟨r, hr⟩ : ∃ r, r = U % y1 := ⟨_, rfl⟩
  obtain ⟨m, hm⟩ : ∃ m, m = q * y1 := ⟨_, rfl⟩
  have k10 : IntKind.u64.wrap ((U : Int) / (y1 : Int)) = (q : Int) := by rw [wrap_div U y1 (by omega), hq]
  rw [← hq] at hqm hmr d0
  rw [← hr] at hmr d0
  rw [← hm] at hqm hmr
  have k11 : IntKind.u64.wrap ((q : Int) * (y1 : Int)) = (m : Int) := by
    have e : (q : Int) * (y1 : Int) = ((q * y1 : Nat) : Int) := by simp
    rw [e, ← hm, IntKind.wrap_u64]; omega
  have k12 : (U : Int) - (m : Int) = (r : Int) := by omega
  obtain ⟨A1, hA1⟩ : ∃ A1, A1 = (U * 4294967296 + t1) / Y := ⟨_, rfl⟩
  rw [← HYY.out, ← hA1] at dsm
  have HA1 := Lib.hid hA1
  clear hA1 hq hr hm hmr
  have D0 := Lib.hid d0
  have z1 : (Y : Int) < 18446744073709551616 := by omega
  have z2 : 9223372036854775808 ≤ (Y : Int) := by omega
  have z3 : 2147483648 ≤ (y1 : Int) := by omega
  have z4 : (y1 : Int) < 4294967296 := by omega
  have z5 : (y0 : Int) < 4294967296 := by omega
  have z6 : (t1 : Int) < 4294967296 := by omega
  have z7 : (t0 : Int) < 4294967296 := by omega
  have z8 : (T : Int) < 18446744073709551616 := by omega
  have z9 : (A1 : Int) < 4294967296 := by omega
  have HB := Lib.hid (And.intro hlo (And.intro hy (And.intro hY1 (And.intro hY2 (And.intro hTlt (And.intro b1 (And.intro b2 (And.intro b3 (And.intro b4 (And.intro b5 (And.intro hL64 dsm)))))))))))
  clear d0 hlo hy hY1 hY2 hTlt b1 b2 b3 b4 b5 hL64 dsm
  go_enter Try.func61, Try.ntmps61
  go_upto_block 0 with (go_at_call 75; refine c0.mono ?_; rintro e w' ⟨rfl, rfl⟩)
  go_cut [15] (fun t wx => wx = w ∧ t = .int .u64 A1)
  case first =>
    go_wp2_with fail
    go_loopg [15, 16] q (fun k a b wr => wr = w ∧ ∃ r : Nat, a = .int .u64 k ∧ b = .int .u64 r ∧ Hid (DivAt U t1 y1 y0 k r))
    case atStart => exact ⟨rfl, r, rfl, rfl, D0⟩
    case round =>
      obtain ⟨rfl, r, rfl, rfl, HD⟩ := hrel
      obtain ⟨q, rfl⟩ : ∃ q, q = gk := ⟨_, rfl⟩
      clear k10 k11 k12
      have hd := HD.out
      obtain ⟨_, _, _, _, _, b1, b2, b3, b4, b5, _, _⟩ := HB.out
      have htop := hd.top
      have hlo := hd.lo
      have x1 : (q : Int) ≤ 4294967297 := by omega
      have x2 : (r : Int) < 4294967296 := by omega
      have num : ∀ {a b : Int}, a = b → Value.int .u64 a = .int .u64 b := fun h => by rw [h]
      by_cases c1 : (4294967296 : Int) ≤ q
      · by_cases c2 : ¬ (4294967296 : Int) ≤ (r : Int) + (y1 : Int)
        · have hn := Lib.hid (hd.next (Or.inl (by omega)) (by omega))
          clear hd htop hlo b1 b2 b3 b4 b5
          go_wp2
          go_roundg (q - 1)
          case measure => omega
          case rel => exact ⟨rfl, r + y1, num (by omega), num (by omega), hn⟩
        · have c2 := Decidable.of_not_not c2
          have hn := Lib.hid (hd.leave (Or.inl (by omega)) (by omega))
          clear hd htop hlo b1 b2 b3 b4 b5
          go_wp2_with fail
          go_meet
          exact ⟨rfl, num (by rw [HA1.out, HYY.out, ← hn.out]; omega)⟩
      · have hqy : q * y0 < 18446744073709551616 := by
          have := Nat.mul_le_mul (show q ≤ 4294967295 by omega) (show y0 ≤ 4294967295 by omega)
          omega
        obtain ⟨n, hn0⟩ : ∃ n, n = q * y0 := ⟨_, rfl⟩
        have k20 : IntKind.u64.wrap ((q : Int) * (y0 : Int)) = (n : Int) := by
          have e : (q : Int) * (y0 : Int) = ((q * y0 : Nat) : Int) := by simp
          rw [e, ← hn0, IntKind.wrap_u64]; omega
        have HN := Lib.hid hn0
        by_cases c3 : 4294967296 * (r : Int) + (t1 : Int) < n
        · have x0 : 1 ≤ (q : Int) := by rcases Nat.eq_zero_or_pos q with h | h; subst h; simp at hn0; omega; omega
          by_cases c2 : ¬ (4294967296 : Int) ≤ (r : Int) + (y1 : Int)
          · have hn := Lib.hid (hd.next (Or.inr (by omega)) (by omega))
            clear hd htop hlo b1 b2 b3 b4 b5 hqy hn0
            go_wp2
            go_roundg (q - 1)
            case measure => omega
            case rel => exact ⟨rfl, r + y1, num (by omega), num (by omega), hn⟩
          · have c2 := Decidable.of_not_not c2
            have hn := Lib.hid (hd.leave (Or.inr (by omega)) (by omega))
            clear hd htop hlo b1 b2 b3 b4 b5 hqy hn0
            go_wp2_with fail
            go_meet
            exact ⟨rfl, num (by rw [HA1.out, HYY.out, ← hn.out]; omega)⟩
        · have hn := Lib.hid (hd.stop (by omega))
          clear hd htop hlo b1 b2 b3 b4 b5 hqy hn0
          go_wp2_with fail
          go_meet
          exact ⟨rfl, by rw [HA1.out, HYY.out, ← hn.out]⟩
  case rest =>
    obtain ⟨rfl, rfl⟩ := hcut
    clear k10 k11 k12
    obtain ⟨hlo, hy, hY1, hY2, hTlt, b1, b2, b3, b4, b5, hL64, dsm⟩ := HB.out
    obtain ⟨V, hV⟩ : ∃ V, V = (U * 4294967296 + t1) % Y := ⟨_, rfl⟩
    have hVY : V < Y := by rw [hV]; exact Nat.mod_lt _ (by omega)
    have hdm := Nat.div_add_mod (U * 4294967296 + t1) Y
    rw [← HA1.out, ← hV] at hdm
    obtain ⟨a, ha⟩ : ∃ a, a = U * 4294967296 % 18446744073709551616 := ⟨_, rfl⟩
    obtain ⟨b, hb⟩ : ∃ b, b = (a + t1) % 18446744073709551616 := ⟨_, rfl⟩
    obtain ⟨c, hc⟩ : ∃ c, c = Y * A1 % 18446744073709551616 := ⟨_, rfl⟩
    have k13 : IntKind.u64.wrap ((U : Int) * 4294967296) = (a : Int) := by rw [IntKind.wrap_u64]; omega
    have k14 : IntKind.u64.wrap ((a : Int) + (t1 : Int)) = (b : Int) := by rw [IntKind.wrap_u64]; omega
    have k15 : IntKind.u64.wrap ((A1 : Int) * (Y : Int)) = (c : Int) := by
      have e : (A1 : Int) * (Y : Int) = ((Y * A1 : Nat) : Int) := by rw [Nat.mul_comm]; simp
      rw [e, IntKind.wrap_u64]; omega
    have k16 : IntKind.u64.wrap ((b : Int) - (c : Int)) = (V : Int) := by rw [IntKind.wrap_u64]; omega
    have HV := Lib.hid hV
    have hqm : V / y1 * y1 ≤ V := Nat.div_mul_le_self V y1
    have hmr : V - V / y1 * y1 = V % y1 := by have := Nat.mod_add_div V y1; rw [Nat.mul_comm] at this; omega
    have hVu : V < y1 * 4294967296 + y0 := by rw [← HYY.out]; exact hVY
    have d1 := DivAt.start (u := V) (d := t0) hVu b5 b1 b2 b3
    have dsm2 := d1.small
    obtain ⟨q, hq⟩ : ∃ q, q = V / y1 := ⟨_, rfl⟩
    obtain ⟨r, hr⟩ : ∃ r, r = V % y1 := ⟨_, rfl⟩
    obtain ⟨m, hm⟩ : ∃ m, m = q * y1 := ⟨_, rfl⟩
    have k30 : IntKind.u64.wrap ((V : Int) / (y1 : Int)) = (q : Int) := by rw [wrap_div V y1 (by omega), hq]
    rw [← hq] at hqm hmr d1
    rw [← hr] at hmr d1
    rw [← hm] at hqm hmr
    have k31 : IntKind.u64.wrap ((q : Int) * (y1 : Int)) = (m : Int) := by
      have e : (q : Int) * (y1 : Int) = ((q * y1 : Nat) : Int) := by simp
      rw [e, ← hm, IntKind.wrap_u64]; omega
    have k32 : (V : Int) - (m : Int) = (r : Int) := by omega
    obtain ⟨A0, hA0⟩ : ∃ A0, A0 = (V * 4294967296 + t0) / Y := ⟨_, rfl⟩
    rw [← HYY.out, ← hA0] at dsm2
    have HA0 := Lib.hid hA0
    have D1 := Lib.hid d1
    have z10 : (A0 : Int) < 4294967296 := by omega
    clear d1 hA0 hq hr hm hmr hV hVu hdm ha hb hc hlo hy hY1 hY2 hTlt b1 b2 b3 b4 b5 hL64 dsm dsm2
    go_upto_block 2 with (fail)
    go_cut [18] (fun t wx => wx = wc ∧ t = .int .u64 A0)
    case first =>
      go_wp2_with fail
      go_loopg [18, 16] q (fun k a b wr => wr = wc ∧ ∃ r : Nat, a = .int .u64 k ∧ b = .int .u64 r ∧ Hid (DivAt V t0 y1 y0 k r))
      case atStart => exact ⟨rfl, r, rfl, rfl, D1⟩
      case round =>
        obtain ⟨rfl, r, rfl, rfl, HD⟩ := hrel
        obtain ⟨q, rfl⟩ : ∃ q, q = gk := ⟨_, rfl⟩
        clear k30 k31 k32
        have hd := HD.out
        obtain ⟨_, _, _, _, _, b1, b2, b3, b4, b5, _, _⟩ := HB.out
        have htop := hd.top
        have hlo := hd.lo
        have x1 : (q : Int) ≤ 4294967297 := by omega
        have x2 : (r : Int) < 4294967296 := by omega
        have num : ∀ {a b : Int}, a = b → Value.int .u64 a = .int .u64 b := fun h => by rw [h]
        by_cases c1 : (4294967296 : Int) ≤ q
        · by_cases c2 : ¬ (4294967296 : Int) ≤ (r : Int) + (y1 : Int)
          · have hn := Lib.hid (hd.next (Or.inl (by omega)) (by omega))
            clear hd htop hlo b1 b2 b3 b4 b5
            go_wp2
            go_roundg (q - 1)
            case measure => omega
            case rel => exact ⟨rfl, r + y1, num (by omega), num (by omega), hn⟩
          · have c2 := Decidable.of_not_not c2
            have hn := Lib.hid (hd.leave (Or.inl (by omega)) (by omega))
            clear hd htop hlo b1 b2 b3 b4 b5
            go_wp2_with fail
            go_meet
            exact ⟨rfl, num (by rw [HA0.out, HYY.out, ← hn.out]; omega)⟩
        · have hqy : q * y0 < 18446744073709551616 := by
            have := Nat.mul_le_mul (show q ≤ 4294967295 by omega) (show y0 ≤ 4294967295 by omega)
            omega
          obtain ⟨n, hn0⟩ : ∃ n, n = q * y0 := ⟨_, rfl⟩
          have k20 : IntKind.u64.wrap ((q : Int) * (y0 : Int)) = (n : Int) := by
            have e : (q : Int) * (y0 : Int) = ((q * y0 : Nat) : Int) := by simp
            rw [e, ← hn0, IntKind.wrap_u64]; omega
          have HN := Lib.hid hn0
          by_cases c3 : 4294967296 * (r : Int) + (t0 : Int) < n
          · have x0 : 1 ≤ (q : Int) := by rcases Nat.eq_zero_or_pos q with h | h; subst h; simp at hn0; omega; omega
            by_cases c2 : ¬ (4294967296 : Int) ≤ (r : Int) + (y1 : Int)
            · have hn := Lib.hid (hd.next (Or.inr (by omega)) (by omega))
              clear hd htop hlo b1 b2 b3 b4 b5 hqy hn0
              go_wp2
              go_roundg (q - 1)
              case measure => omega
              case rel => exact ⟨rfl, r + y1, num (by omega), num (by omega), hn⟩
            · have c2 := Decidable.of_not_not c2
              have hn := Lib.hid (hd.leave (Or.inr (by omega)) (by omega))
              clear hd htop hlo b1 b2 b3 b4 b5 hqy hn0
              go_wp2_with fail
              go_meet
              exact ⟨rfl, num (by rw [HA0.out, HYY.out, ← hn.out]; omega)⟩
          · have hn := Lib.hid (hd.stop (by omega))
            clear hd htop hlo b1 b2 b3 b4 b5 hqy hn0
            go_wp2_with fail
            go_meet
            exact ⟨rfl, by rw [HA0.out, HYY.out, ← hn.out]⟩
    case rest =>
      obtain ⟨rfl, rfl⟩ := hcut
      clear k13 k14 k15 k16 k30 k31 k32
      obtain ⟨hlo, hy, hY1, hY2, hTlt, b1, b2, b3, b4, b5, hL64, dsm⟩ := HB.out
      obtain ⟨X, hX⟩ : ∃ X, X = (V * 4294967296 + t0) % Y := ⟨_, rfl⟩
      have hXY : X < Y := by rw [hX]; exact Nat.mod_lt _ (by omega)
      have hdm := Nat.div_add_mod (V * 4294967296 + t0) Y
      rw [← HA0.out, ← hX] at hdm
      obtain ⟨a, ha⟩ : ∃ a, a = V * 4294967296 % 18446744073709551616 := ⟨_, rfl⟩
      obtain ⟨b, hb⟩ : ∃ b, b = (a + t0) % 18446744073709551616 := ⟨_, rfl⟩
      obtain ⟨c, hc⟩ : ∃ c, c = Y * A0 % 18446744073709551616 := ⟨_, rfl⟩
      have k13 : IntKind.u64.wrap ((V : Int) * 4294967296) = (a : Int) := by rw [IntKind.wrap_u64]; omega
      have k14 : IntKind.u64.wrap ((a : Int) + (t0 : Int)) = (b : Int) := by rw [IntKind.wrap_u64]; omega
      have k15 : IntKind.u64.wrap ((A0 : Int) * (Y : Int)) = (c : Int) := by
        have e : (A0 : Int) * (Y : Int) = ((Y * A0 : Nat) : Int) := by rw [Nat.mul_comm]; simp
        rw [e, IntKind.wrap_u64]; omega
      have k16 : IntKind.u64.wrap ((b : Int) - (c : Int)) = (X : Int) := by rw [IntKind.wrap_u64]; omega
      have HX := Lib.hid hX
      clear hX hdm ha hb hc hlo hy hY1 hY2 hTlt b1 b2 b3 b4 b5 hL64 dsm
      go_wp2
      go_ret2
      obtain ⟨f1, f2⟩ := div_fin _ y s Y U T t1 t0 A1 V A0 X (by omega) HY.out E1.out HTT.out HA1.out HV.out HA0.out HX.out
      rw [f1, f2]
      exact ⟨ret_two (by simp) (by simp), 0, rfl⟩

/-- math/bits.Div64, EVERY hi < y, EVERY lo. -/
theorem div64 (hi lo y : Nat) (hh : hi < y) (hlo : lo < 18446744073709551616) (hy : y < 18446744073709551616) (w : World) :
    Calls Try.prog 61 #[.int .u64 hi, .int .u64 lo, .int .u64 y] w fun e w' => e = .returned (.tuple #[.int .u64 (((hi * 18446744073709551616 + lo) / y : Nat) : Int), .int .u64 (((hi * 18446744073709551616 + lo) % y : Nat) : Int)]) ∧ ∃ n, w' = w.drewN n := by
  rcases Nat.eq_zero_or_pos hi with h | h
  · subst h
    have := div64_low lo y hh hlo hy w
    rwa [Nat.zero_mul, Nat.zero_add]
  · exact div64_high hi lo y h hh hlo hy w
end Go.Proofs.Ytaibpldolbemfaa

/- Plain: the field of 2^61 - 1. No program in sight. -/
namespace Go.Proofs.Ytaibpldolbemfaa

theorem and_P (a : Nat) : a &&& 2305843009213693951 = a % 2305843009213693952 := Nat.and_two_pow_sub_one_eq_mod a 61

/-- The two words' number, folded: 2^61 is 1. -/
theorem fold_step (x n m : Nat) (hx : x < 5316911983139663491615228241121378304) (hn : n = x % 2305843009213693952 + x / 2305843009213693952) (hm : m = n % 2305843009213693952 + n / 2305843009213693952) :
    n < 4611686018427387904 ∧ m ≤ 2305843009213693951 ∧ (if 2305843009213693951 ≤ m then m - 2305843009213693951 else m) = x % bP := by
  have h1 : x / 2305843009213693952 < 2305843009213693952 := by
    rw [Nat.div_lt_iff_lt_mul (by omega)]; exact hx
  have h2 : x % 2305843009213693952 < 2305843009213693952 := Nat.mod_lt _ (by omega)
  have h3 := Nat.div_add_mod x 2305843009213693952
  generalize x / 2305843009213693952 = q at *
  generalize x % 2305843009213693952 = r at *
  subst h3
  have h4 : n / 2305843009213693952 ≤ 1 := by omega
  have h5 : m ≤ 2305843009213693951 := by omega
  refine ⟨by omega, h5, ?_⟩
  have e1 : (2305843009213693952 * q + r) % bP = (r + q) % bP := by
    have : 2305843009213693952 * q + r = r + q + bP * q := by unfold bP; omega
    rw [this, Nat.add_mul_mod_self_left]
  have e2 : (r + q) % bP = m % bP := by
    rw [← hn]
    have hd := Nat.div_add_mod n 2305843009213693952
    have : n = m + bP * (n / 2305843009213693952) := by unfold bP; omega
    conv => lhs; rw [this, Nat.add_mul_mod_self_left]
  rw [e1, e2]
  split
  · have : m = bP := by unfold bP; omega
    rw [this, Nat.mod_self]; unfold bP; omega
  · rw [Nat.mod_eq_of_lt (by unfold bP; omega)]

theorem fold_two (hi lo : Nat) (hlo : lo < 18446744073709551616) :
    (hi * 18446744073709551616 + lo) / 2305843009213693952 = hi * 8 + lo / 2305843009213693952 ∧ (hi * 18446744073709551616 + lo) % 2305843009213693952 = lo % 2305843009213693952 ∧ hi * 8 ||| lo / 2305843009213693952 = hi * 8 + lo / 2305843009213693952 := by
  refine ⟨by omega, by omega, ?_⟩
  have h : lo / 2305843009213693952 < 2 ^ 3 := by
    show lo / 2305843009213693952 < 8
    omega
  have e := Nat.two_pow_add_eq_or_of_lt h hi
  rw [show (2 : Nat) ^ 3 = 8 from rfl] at e
  rw [Nat.mul_comm hi 8, ← e]

def subP (a b : Nat) : Nat := (a + (bP - b % bP)) % bP
end Go.Proofs.Ytaibpldolbemfaa
