/- Plain: signing. No program in sight. -/
import Derived.Test.YtbomfnlipbdigaaHaTag
import Derived.Test.YtbomfnlipbdigaaHaNum
import Derived.Test.YtbomfnlipbdigaaCyLaw
namespace Go.Proofs.Ytbomfnlipbdigaa
set_option linter.unusedVariables false

def secretS : ByteArray := { data := #[115, 101, 99, 114, 101, 116] }
def nonceS : ByteArray := { data := #[110, 111, 110, 99, 101] }
def signS : ByteArray := { data := #[115, 105, 103, 110] }
/-- The number of what is hashed of a tag and parts. -/
def hNum (tag : ByteArray) (ps : List (List Nat)) (m : Nat) : Nat := numM (hSum (coded (strN tag) ps)).1 (hSum (coded (strN tag) ps)).2 m
def someN (tag : ByteArray) (ps : List (List Nat)) : Nat := hNum tag ps (bR - 1) + 1
def chalN (commit pub : Nat) (msg : List Nat) : Nat := hNum signS [be commit 8, be pub 8, msg] bR
def secN (seed : List Nat) : Nat := someN secretS [seed]
def nonceN (s : Nat) (msg : List Nat) : Nat := someN nonceS [be s 8, msg]
def oddN (s : Nat) : Bool := decide (s = 0) || decide (bR ≤ s)
def sgE (s : Nat) (msg : List Nat) : Nat := chalN (powM bQ 4 (nonceN s msg)) (powM bQ 4 s) msg
def sgS (s : Nat) (msg : List Nat) : Nat := addM bR (mulM bR (sgE s msg) s) (nonceN s msg)
def checkN (p : Nat) (msg : List Nat) (E S : Nat) : Nat :=
  if inB p = false then 1 else if bR ≤ E ∨ bR ≤ S then 40 else if chalN (mulM bQ (powM bQ 4 S) (invM bQ (powM bQ p E))) p msg = E then 0 else 40

theorem numM_lt (a b : Nat) {m : Nat} (h : 0 < m) : numM a b m < m := by
  unfold numM; rw [if_neg (by omega)]; exact Nat.mod_lt _ h
theorem hNum_lt (tag : ByteArray) (ps : List (List Nat)) {m : Nat} (h : 0 < m) : hNum tag ps m < m := numM_lt _ _ h
theorem someN_pos (tag : ByteArray) (ps : List (List Nat)) : 1 ≤ someN tag ps := Nat.le_add_left 1 _
theorem someN_lt (tag : ByteArray) (ps : List (List Nat)) : someN tag ps < bR := by
  have := hNum_lt tag ps (m := bR - 1) (by decide)
  unfold someN bR at *; omega
theorem chalN_lt (commit pub : Nat) (msg : List Nat) : chalN commit pub msg < bR := hNum_lt _ _ (by decide)
theorem oddN_some (tag : ByteArray) (ps : List (List Nat)) : oddN (someN tag ps) = false := by
  have h1 := someN_pos tag ps
  have h2 := someN_lt tag ps
  unfold oddN; simp; omega
theorem inv_pow {p : Nat} (h : inB p = true) (E : Nat) (hE : E ≤ bR) : invM bQ (powM bQ p E) = powM bQ p (bR - E) := by
  obtain ⟨h1, h2, h3⟩ := (inB_iff p).1 h
  have hne : powM bQ p E % bQ ≠ 0 := inB_ne (inB_pow h E)
  have e := inv_unique (b := invM bQ (powM bQ p E)) (c := powM bQ p (bR - E)) pr_Q hne (by rw [invM_mul pr_Q hne, powM_add, show E + (bR - E) = bR by omega, h3])
  rwa [Nat.mod_eq_of_lt (invM_lt (by decide) _), Nat.mod_eq_of_lt (powM_lt (by decide) _ _)] at e
/-- What a signature's numbers come back to. -/
theorem commit_back (s k c : Nat) (hc : c ≤ bR) : mulM bQ (powM bQ 4 (addM bR (mulM bR c s) k)) (invM bQ (powM bQ (powM bQ 4 s) c)) = powM bQ 4 k := by
  rw [inv_pow (inB_base s) c hc]
  have e1 : addM bR (mulM bR c s) k = (c * s + k) % bR := by unfold addM mulM; rw [Nat.mod_add_mod]
  rw [e1, base_period, powM_pow, powM_add, ← base_period]
  have e2 : c * s + k + s * (bR - c) = k + bR * s := by
    have : s * (bR - c) + c * s = bR * s := by rw [Nat.mul_comm c s, ← Nat.mul_add, Nat.sub_add_cancel hc, Nat.mul_comm]
    omega
  rw [e2, Nat.add_mul_mod_self_left, base_period]
theorem check_right (s k : Nat) (msg : List Nat) (c : Nat) (hc : c = chalN (powM bQ 4 k) (powM bQ 4 s) msg) : checkN (powM bQ 4 s) msg c (addM bR (mulM bR c s) k) = 0 := by
  have hlt : c < bR := by rw [hc]; exact chalN_lt _ _ _
  unfold checkN
  rw [if_neg (by rw [inB_base]; decide), if_neg (by have := addM_lt' (m := bR) (by decide) (mulM bR c s) k; omega), commit_back s k c (by omega), if_pos hc.symm]
theorem check_sign (s : Nat) (msg : List Nat) : checkN (powM bQ 4 s) msg (sgE s msg) (sgS s msg) = 0 := check_right s _ msg _ rfl
theorem check_nonce (s k : Nat) (msg : List Nat) (c : Nat) (hc : c = chalN (powM bQ 4 k) (powM bQ 4 s) msg) : checkN (powM bQ 4 s) msg c (addM bR k (mulM bR c s)) = 0 := by
  rw [addM_comm]; exact check_right s k msg c hc
theorem sgE_lt (s : Nat) (msg : List Nat) : sgE s msg < bR := chalN_lt _ _ _
theorem sgS_lt (s : Nat) (msg : List Nat) : sgS s msg < bR := addM_lt' (by decide) _ _
theorem pow_eq_iff {x y : Nat} (hx : x < bR) (hy : y < bR) : powM bQ 4 x = powM bQ 4 y ↔ x = y := by
  constructor
  · intro h
    have := base_inj h
    rwa [Nat.mod_eq_of_lt hx, Nat.mod_eq_of_lt hy] at this
  · intro h; rw [h]
theorem subM_mulM (c d s : Nat) : mulM bR (subM bR c d) s = subM bR (mulM bR c s) (mulM bR d s) := by
  have h1 := mulM_addM bR (subM bR c d) d s
  have h2 : addM bR (subM bR c d) d = c % bR := by unfold addM subM bR; omega
  rw [h2, mulM_mod_left] at h1
  rw [h1, subM_addM _ _ _ (by decide), Nat.mod_eq_of_lt (mulM_lt (by decide) _ _)]
theorem subM_both (k u v : Nat) : subM bR (addM bR k u) (addM bR k v) = subM bR u v := by unfold subM addM bR; omega
/-- Who uses a nonce twice gives the secret away. -/
theorem twice (k s c d : Nat) (hs : s < bR) (hc : c < bR) (hd : d < bR) (hne : c ≠ d) :
    mulM bR (subM bR (addM bR k (mulM bR c s)) (addM bR k (mulM bR d s))) (invM bR (subM bR c d)) = s := by
  have h0 : subM bR c d % bR ≠ 0 := by
    intro h
    rw [Nat.mod_eq_of_lt (subM_lt (by decide) _ _), subM_zero_iff _ _ _ (by decide), Nat.mod_eq_of_lt hc, Nat.mod_eq_of_lt hd] at h
    exact hne h
  rw [subM_both, ← subM_mulM, mulM_comm bR (subM bR c d) s, mul_inv_back pr_R h0, Nat.mod_eq_of_lt hs]
/-- A secret of any number. -/
def secretN (n : Nat) : Nat := 1 + n % (bR - 1)
theorem secretN_lt (n : Nat) : secretN n < bR := by unfold secretN bR; omega
theorem secretN_pos (n : Nat) : 1 ≤ secretN n := Nat.le_add_right 1 _
theorem oddN_secret (n : Nat) : oddN (secretN n) = false := by
  have h1 := secretN_pos n
  have h2 := secretN_lt n
  unfold oddN; simp; omega
end Go.Proofs.Ytbomfnlipbdigaa
