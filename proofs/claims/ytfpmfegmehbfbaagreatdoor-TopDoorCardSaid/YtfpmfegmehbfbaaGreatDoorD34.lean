/- Parts of the proofs, put together: Or42, Or43, TdS, Or44. -/
import Derived.Test.YtfpmfegmehbfbaaGreatDoorD13
import Derived.Test.YtfpmfegmehbfbaaGreatDoorD16
import Derived.Test.YtfpmfegmehbfbaaGreatDoorD28
import Derived.Test.YtfpmfegmehbfbaaGreatDoorD33
/- The laws of layer 22, walked: key, signed. -/
namespace Go.Proofs.YtfpmfegmehbfbaaGreatDoor
set_option linter.unusedVariables false
set_option linter.unusedSimpArgs false
set_option linter.unusedSimpArgs false
open Go.RowKit Go.Shelf Go.Maps

section
variable {W w : World} {g : Nat} {T : TypeId} {x0 x1 x2 x3 x4 x5 x6 x7 x8 : Value}
theorem st9 (k : Blk W g T #[x0, x1, x2, x3, x4, x5, x6, x7, x8]) : (W.cell? ⟨g, 0, none⟩ = some x0 ∧ W.cell? ⟨g, 1, none⟩ = some x1 ∧ W.cell? ⟨g, 2, none⟩ = some x2 ∧ W.cell? ⟨g, 3, none⟩ = some x3 ∧ W.cell? ⟨g, 4, none⟩ = some x4 ∧ W.cell? ⟨g, 5, none⟩ = some x5 ∧ W.cell? ⟨g, 6, none⟩ = some x6 ∧ W.cell? ⟨g, 7, none⟩ = some x7 ∧ W.cell? ⟨g, 8, none⟩ = some x8) ∧ W.frozen? ⟨g, 0, none⟩ = false ∧ W.frozen? ⟨g, 1, none⟩ = false ∧ W.frozen? ⟨g, 2, none⟩ = false ∧ W.frozen? ⟨g, 3, none⟩ = false ∧ W.frozen? ⟨g, 4, none⟩ = false ∧ W.frozen? ⟨g, 5, none⟩ = false ∧ W.frozen? ⟨g, 6, none⟩ = false ∧ W.frozen? ⟨g, 7, none⟩ = false ∧ W.frozen? ⟨g, 8, none⟩ = false :=
  ⟨⟨k.cell 0, k.cell 1, k.cell 2, k.cell 3, k.cell 4, k.cell 5, k.cell 6, k.cell 7, k.cell 8⟩, k.frozen 0, k.frozen 1, k.frozen 2, k.frozen 3, k.frozen 4, k.frozen 5, k.frozen 6, k.frozen 7, k.frozen 8⟩
theorem set9_blk (k : Blk W g T #[x0, x1, x2, x3, x4, x5, x6, x7, x8]) (y0 y1 y2 y3 y4 y5 y6 y7 y8 : Value) : Blk (((((((((W.setCell ⟨g, 0, none⟩ y0).setCell ⟨g, 1, none⟩ y1).setCell ⟨g, 2, none⟩ y2).setCell ⟨g, 3, none⟩ y3).setCell ⟨g, 4, none⟩ y4).setCell ⟨g, 5, none⟩ y5).setCell ⟨g, 6, none⟩ y6).setCell ⟨g, 7, none⟩ y7).setCell ⟨g, 8, none⟩ y8) g T #[y0, y1, y2, y3, y4, y5, y6, y7, y8] := by
  have k1 : Blk (W.setCell ⟨g, 0, none⟩ y0) g T #[y0, x1, x2, x3, x4, x5, x6, x7, x8] := k.set_ 0 y0
  have k2 : Blk ((W.setCell ⟨g, 0, none⟩ y0).setCell ⟨g, 1, none⟩ y1) g T #[y0, y1, x2, x3, x4, x5, x6, x7, x8] := k1.set_ 1 y1
  have k3 : Blk (((W.setCell ⟨g, 0, none⟩ y0).setCell ⟨g, 1, none⟩ y1).setCell ⟨g, 2, none⟩ y2) g T #[y0, y1, y2, x3, x4, x5, x6, x7, x8] := k2.set_ 2 y2
  have k4 : Blk ((((W.setCell ⟨g, 0, none⟩ y0).setCell ⟨g, 1, none⟩ y1).setCell ⟨g, 2, none⟩ y2).setCell ⟨g, 3, none⟩ y3) g T #[y0, y1, y2, y3, x4, x5, x6, x7, x8] := k3.set_ 3 y3
  have k5 : Blk (((((W.setCell ⟨g, 0, none⟩ y0).setCell ⟨g, 1, none⟩ y1).setCell ⟨g, 2, none⟩ y2).setCell ⟨g, 3, none⟩ y3).setCell ⟨g, 4, none⟩ y4) g T #[y0, y1, y2, y3, y4, x5, x6, x7, x8] := k4.set_ 4 y4
  have k6 : Blk ((((((W.setCell ⟨g, 0, none⟩ y0).setCell ⟨g, 1, none⟩ y1).setCell ⟨g, 2, none⟩ y2).setCell ⟨g, 3, none⟩ y3).setCell ⟨g, 4, none⟩ y4).setCell ⟨g, 5, none⟩ y5) g T #[y0, y1, y2, y3, y4, y5, x6, x7, x8] := k5.set_ 5 y5
  have k7 : Blk (((((((W.setCell ⟨g, 0, none⟩ y0).setCell ⟨g, 1, none⟩ y1).setCell ⟨g, 2, none⟩ y2).setCell ⟨g, 3, none⟩ y3).setCell ⟨g, 4, none⟩ y4).setCell ⟨g, 5, none⟩ y5).setCell ⟨g, 6, none⟩ y6) g T #[y0, y1, y2, y3, y4, y5, y6, x7, x8] := k6.set_ 6 y6
  have k8 : Blk ((((((((W.setCell ⟨g, 0, none⟩ y0).setCell ⟨g, 1, none⟩ y1).setCell ⟨g, 2, none⟩ y2).setCell ⟨g, 3, none⟩ y3).setCell ⟨g, 4, none⟩ y4).setCell ⟨g, 5, none⟩ y5).setCell ⟨g, 6, none⟩ y6).setCell ⟨g, 7, none⟩ y7) g T #[y0, y1, y2, y3, y4, y5, y6, y7, x8] := k7.set_ 7 y7
  have k9 : Blk (((((((((W.setCell ⟨g, 0, none⟩ y0).setCell ⟨g, 1, none⟩ y1).setCell ⟨g, 2, none⟩ y2).setCell ⟨g, 3, none⟩ y3).setCell ⟨g, 4, none⟩ y4).setCell ⟨g, 5, none⟩ y5).setCell ⟨g, 6, none⟩ y6).setCell ⟨g, 7, none⟩ y7).setCell ⟨g, 8, none⟩ y8) g T #[y0, y1, y2, y3, y4, y5, y6, y7, y8] := k8.set_ 8 y8
  exact k9
theorem set9_ext (h : Ext w W) (hg : w.heap.size ≤ g) (y0 y1 y2 y3 y4 y5 y6 y7 y8 : Value) : Ext w (((((((((W.setCell ⟨g, 0, none⟩ y0).setCell ⟨g, 1, none⟩ y1).setCell ⟨g, 2, none⟩ y2).setCell ⟨g, 3, none⟩ y3).setCell ⟨g, 4, none⟩ y4).setCell ⟨g, 5, none⟩ y5).setCell ⟨g, 6, none⟩ y6).setCell ⟨g, 7, none⟩ y7).setCell ⟨g, 8, none⟩ y8) := (((((((((h.setCell (p := ⟨g, 0, none⟩) hg y0).setCell (p := ⟨g, 1, none⟩) hg y1).setCell (p := ⟨g, 2, none⟩) hg y2).setCell (p := ⟨g, 3, none⟩) hg y3).setCell (p := ⟨g, 4, none⟩) hg y4).setCell (p := ⟨g, 5, none⟩) hg y5).setCell (p := ⟨g, 6, none⟩) hg y6).setCell (p := ⟨g, 7, none⟩) hg y7).setCell (p := ⟨g, 8, none⟩) hg y8)
end
theorem mk_pk (a : Nat → List Nat → Nat → Nat → Nat) (b : Nat → List Nat → Nat × Nat) (c : Nat → Nat) (n : Nat) : (SigR.mk a b c).pk n = c n := rfl
theorem mk_sgn (a : Nat → List Nat → Nat → Nat → Nat) (b : Nat → List Nat → Nat × Nat) (c : Nat → Nat) (n : Nat) (l : List Nat) : (SigR.mk a b c).sgn n l = b n l := rfl
theorem mk_sg (a : Nat → List Nat → Nat → Nat → Nat) (b : Nat → List Nat → Nat × Nat) (c : Nat → Nat) (k : Nat) (l : List Nat) (e s : Nat) : (SigR.mk a b c).sg k l e s = a k l e s := rfl
theorem sec_odd (l : List Nat) : oddN (secN l) = false := oddN_some _ _
theorem sec_lt (l : List Nat) : secN l < 18446744073709551616 := r64 (someN_lt _ _)
end Go.Proofs.YtfpmfegmehbfbaaGreatDoor

/- The laws of layer 22, walked: asks. -/
namespace Go.Proofs.YtfpmfegmehbfbaaGreatDoor
set_option linter.unusedVariables false
set_option linter.unusedSimpArgs false
set_option linter.unusedSimpArgs false
open Go.RowKit Go.Shelf Go.Maps

theorem boxes4 (w : World) (x y z u : Array Value) (T U V R : TypeId) : ∃ W, (((w.alloc (.cells x T)).alloc (.cells y U)).alloc (.cells z V)).alloc (.cells u R) = W ∧ Blk W w.heap.size T x ∧ Blk W (w.heap.size + 1) U y ∧ Blk W (w.heap.size + 2) V z ∧ Blk W (w.heap.size + 3) R u ∧ Ext w W ∧ W.heap.size = w.heap.size + 4 := by
  refine ⟨_, rfl, (((Blk.new w T x).alloc _).alloc _).alloc _, ?_, ?_, ?_, ((((Ext.refl w).alloc _).alloc _).alloc _).alloc _, by simp⟩
  · have := ((Blk.new (w.alloc (.cells x T)) U y).alloc (.cells z V)).alloc (.cells u R)
    rwa [World.size_alloc] at this
  · have := (Blk.new ((w.alloc (.cells x T)).alloc (.cells y U)) V z).alloc (.cells u R)
    rwa [World.size_alloc, World.size_alloc] at this
  · have := Blk.new (((w.alloc (.cells x T)).alloc (.cells y U)).alloc (.cells z V)) R u
    rwa [World.size_alloc, World.size_alloc, World.size_alloc] at this
theorem QueW.with_ {w : World} {B : Nat} {q : QueR} {A : Option Addr} {c : Nat} (h : QueW w B q A c) {n : Int} {e s : Nat} (hn : wf64 n) (he : e < 18446744073709551616) (hs : s < 18446744073709551616) : QueW w B { q with nonce := n, e := e, s := s } A c :=
  ⟨h.kind, h.acc, hn, h.key, h.life, h.id, he, hs, h.names, h.nc, h.nl, h.ns⟩
theorem grown9 (w : World) (g : Nat) (y0 y1 y2 y3 y4 y5 y6 y7 y8 : Value) : w.grownBy (((((((((w.setCell ⟨g, 0, none⟩ (y0)).setCell ⟨g, 1, none⟩ (y1)).setCell ⟨g, 2, none⟩ (y2)).setCell ⟨g, 3, none⟩ (y3)).setCell ⟨g, 4, none⟩ (y4)).setCell ⟨g, 5, none⟩ (y5)).setCell ⟨g, 6, none⟩ (y6)).setCell ⟨g, 7, none⟩ (y7)).setCell ⟨g, 8, none⟩ (y8)) (some g) :=
  ((((((((grown_set _ _ _ _).trans (grown_set _ _ _ _)).trans (grown_set _ _ _ _)).trans (grown_set _ _ _ _)).trans (grown_set _ _ _ _)).trans (grown_set _ _ _ _)).trans (grown_set _ _ _ _)).trans (grown_set _ _ _ _)).trans (grown_set _ _ _ _)
/-- A door and a request as results of two boxes. -/
theorem asks_fin {w W : World} {d : DoorX} {q : QueR} {A : Option Addr} {c b2 b3 : Nat} (x : Ext w W) (h2 : w.heap.size ≤ b2) (h3 : w.heap.size ≤ b3) (hd : DoorW W W.heap.size d) (hl : DoorL (fun k => k ≠ b2 ∧ k ≠ b3) d) (hq : QueW w w.heap.size q A c) :
    DoorW (((((((((((((((W.setCell ⟨b2, 0, none⟩ (.int .i64 d.next)).setCell ⟨b2, 1, none⟩ (.slice d.oA d.opn.length d.oc)).setCell ⟨b2, 2, none⟩ (.slice d.cA d.accs.length d.cc)).setCell ⟨b2, 3, none⟩ (.slice d.uA d.auts.length d.uc)).setCell ⟨b2, 4, none⟩ (.slice d.rA d.ords.length d.rc)).setCell ⟨b2, 5, none⟩ (.int .i64 d.ser)).setCell ⟨b3, 0, none⟩ (.int .i64 q.kind)).setCell ⟨b3, 1, none⟩ (.int .i64 q.acc)).setCell ⟨b3, 2, none⟩ (.int .i64 q.nonce)).setCell ⟨b3, 3, none⟩ (.int .u64 (q.key : Int))).setCell ⟨b3, 4, none⟩ (.slice A q.names.length c)).setCell ⟨b3, 5, none⟩ (.int .i64 q.life)).setCell ⟨b3, 6, none⟩ (.int .i64 q.id)).setCell ⟨b3, 7, none⟩ (.int .u64 (q.e : Int))).setCell ⟨b3, 8, none⟩ (.int .u64 (q.s : Int))) (((((((((((((((W.setCell ⟨b2, 0, none⟩ (.int .i64 d.next)).setCell ⟨b2, 1, none⟩ (.slice d.oA d.opn.length d.oc)).setCell ⟨b2, 2, none⟩ (.slice d.cA d.accs.length d.cc)).setCell ⟨b2, 3, none⟩ (.slice d.uA d.auts.length d.uc)).setCell ⟨b2, 4, none⟩ (.slice d.rA d.ords.length d.rc)).setCell ⟨b2, 5, none⟩ (.int .i64 d.ser)).setCell ⟨b3, 0, none⟩ (.int .i64 q.kind)).setCell ⟨b3, 1, none⟩ (.int .i64 q.acc)).setCell ⟨b3, 2, none⟩ (.int .i64 q.nonce)).setCell ⟨b3, 3, none⟩ (.int .u64 (q.key : Int))).setCell ⟨b3, 4, none⟩ (.slice A q.names.length c)).setCell ⟨b3, 5, none⟩ (.int .i64 q.life)).setCell ⟨b3, 6, none⟩ (.int .i64 q.id)).setCell ⟨b3, 7, none⟩ (.int .u64 (q.e : Int))).setCell ⟨b3, 8, none⟩ (.int .u64 (q.s : Int))).heap.size d ∧ QueW (((((((((((((((W.setCell ⟨b2, 0, none⟩ (.int .i64 d.next)).setCell ⟨b2, 1, none⟩ (.slice d.oA d.opn.length d.oc)).setCell ⟨b2, 2, none⟩ (.slice d.cA d.accs.length d.cc)).setCell ⟨b2, 3, none⟩ (.slice d.uA d.auts.length d.uc)).setCell ⟨b2, 4, none⟩ (.slice d.rA d.ords.length d.rc)).setCell ⟨b2, 5, none⟩ (.int .i64 d.ser)).setCell ⟨b3, 0, none⟩ (.int .i64 q.kind)).setCell ⟨b3, 1, none⟩ (.int .i64 q.acc)).setCell ⟨b3, 2, none⟩ (.int .i64 q.nonce)).setCell ⟨b3, 3, none⟩ (.int .u64 (q.key : Int))).setCell ⟨b3, 4, none⟩ (.slice A q.names.length c)).setCell ⟨b3, 5, none⟩ (.int .i64 q.life)).setCell ⟨b3, 6, none⟩ (.int .i64 q.id)).setCell ⟨b3, 7, none⟩ (.int .u64 (q.e : Int))).setCell ⟨b3, 8, none⟩ (.int .u64 (q.s : Int))) (((((((((((((((W.setCell ⟨b2, 0, none⟩ (.int .i64 d.next)).setCell ⟨b2, 1, none⟩ (.slice d.oA d.opn.length d.oc)).setCell ⟨b2, 2, none⟩ (.slice d.cA d.accs.length d.cc)).setCell ⟨b2, 3, none⟩ (.slice d.uA d.auts.length d.uc)).setCell ⟨b2, 4, none⟩ (.slice d.rA d.ords.length d.rc)).setCell ⟨b2, 5, none⟩ (.int .i64 d.ser)).setCell ⟨b3, 0, none⟩ (.int .i64 q.kind)).setCell ⟨b3, 1, none⟩ (.int .i64 q.acc)).setCell ⟨b3, 2, none⟩ (.int .i64 q.nonce)).setCell ⟨b3, 3, none⟩ (.int .u64 (q.key : Int))).setCell ⟨b3, 4, none⟩ (.slice A q.names.length c)).setCell ⟨b3, 5, none⟩ (.int .i64 q.life)).setCell ⟨b3, 6, none⟩ (.int .i64 q.id)).setCell ⟨b3, 7, none⟩ (.int .u64 (q.e : Int))).setCell ⟨b3, 8, none⟩ (.int .u64 (q.s : Int))).heap.size q A c ∧ Ext w (((((((((((((((W.setCell ⟨b2, 0, none⟩ (.int .i64 d.next)).setCell ⟨b2, 1, none⟩ (.slice d.oA d.opn.length d.oc)).setCell ⟨b2, 2, none⟩ (.slice d.cA d.accs.length d.cc)).setCell ⟨b2, 3, none⟩ (.slice d.uA d.auts.length d.uc)).setCell ⟨b2, 4, none⟩ (.slice d.rA d.ords.length d.rc)).setCell ⟨b2, 5, none⟩ (.int .i64 d.ser)).setCell ⟨b3, 0, none⟩ (.int .i64 q.kind)).setCell ⟨b3, 1, none⟩ (.int .i64 q.acc)).setCell ⟨b3, 2, none⟩ (.int .i64 q.nonce)).setCell ⟨b3, 3, none⟩ (.int .u64 (q.key : Int))).setCell ⟨b3, 4, none⟩ (.slice A q.names.length c)).setCell ⟨b3, 5, none⟩ (.int .i64 q.life)).setCell ⟨b3, 6, none⟩ (.int .i64 q.id)).setCell ⟨b3, 7, none⟩ (.int .u64 (q.e : Int))).setCell ⟨b3, 8, none⟩ (.int .u64 (q.s : Int))) := by
  have h := hd.grownTo (hl.mono fun k hk => hk.1) (grown6 W b2 (.int .i64 d.next) (.slice d.oA d.opn.length d.oc) (.slice d.cA d.accs.length d.cc) (.slice d.uA d.auts.length d.uc) (.slice d.rA d.ords.length d.rc) (.int .i64 d.ser))
  have h' := h.grownTo (hl.mono fun k hk => hk.2) (grown9 _ b3 (.int .i64 q.kind) (.int .i64 q.acc) (.int .i64 q.nonce) (.int .u64 (q.key : Int)) (.slice A q.names.length c) (.int .i64 q.life) (.int .i64 q.id) (.int .u64 (q.e : Int)) (.int .u64 (q.s : Int)))
  have x2 := set9_ext (ext6 x h2 (.int .i64 d.next) (.slice d.oA d.opn.length d.oc) (.slice d.cA d.accs.length d.cc) (.slice d.uA d.auts.length d.uc) (.slice d.rA d.ords.length d.rc) (.int .i64 d.ser)) h3 (.int .i64 q.kind) (.int .i64 q.acc) (.int .i64 q.nonce) (.int .u64 (q.key : Int)) (.slice A q.names.length c) (.int .i64 q.life) (.int .i64 q.id) (.int .u64 (q.e : Int)) (.int .u64 (q.s : Int))
  exact ⟨h', hq.ext x2, x2⟩
def asksPost (d0 : DoorX) (A : Option Addr) (c : Nat) (r : FroR × QueR × Int × Nat) (w : World) (e : Ending) (w' : World) : Prop :=
  ∃ d, e = .returned (.tuple #[frontV d, queV r.2.1 A c, .int .i64 r.2.2.1, .int .i64 (r.2.2.2 : Nat)]) ∧ d.fro = r.1 ∧ DoorW w' w'.heap.size d ∧ (∀ S, DoorL S d0 → DoorL (orNew S w) d) ∧ QueW w' w'.heap.size r.2.1 A c ∧ Ext w w'
theorem asksF_1 {S : SigR} {f : FroR} {q : QueR} {seed : Nat} {now : Int} {E : Nat} (h : (nonF f now).2.2 = E) (h0 : E ≠ 0) : asksF S f q seed now = (f, q, 0, E) := by
  unfold asksF; rw [if_pos (by rw [h]; exact h0), h]
theorem asksF_2 {S : SigR} {f : FroR} {q q1 : QueR} {seed : Nat} {now : Int} (h : (nonF f now).2.2 = 0) (hq : q1 = { q with nonce := (nonF f now).2.1 }) (h1 : byteE q1 ≠ 0) : asksF S f q seed now = (f, q1, 0, 1) := by
  subst hq; unfold asksF; rw [if_neg (by rw [h]; simp)]; dsimp only; rw [if_pos h1]
theorem bytR_ok {q : QueR} (h : byteE q = 0) : bytR q = byteL q := by unfold bytR; rw [if_pos h]
theorem mk_sgf (a : Nat → List Nat → Nat → Nat → Nat) (b : Nat → List Nat → Nat × Nat) (c : Nat → Nat) : (SigR.mk a b c).sg = a := rfl
theorem asksF_3g {S : SigR} {f : FroR} {q q1 q2 : QueR} {seed : Nat} {now : Int} (h : (nonF f now).2.2 = 0) (hq : q1 = { q with nonce := (nonF f now).2.1 }) (h1 : byteE q1 = 0) (h2 : q2 = { q1 with e := (S.sgn seed (byteL q1)).1, s := (S.sgn seed (byteL q1)).2 }) :
    asksF S f q seed now = if (doF S.sg (nonF f now).1 q2 now).2.2 ≠ 0 then ((nonF f now).1, q2, 0, (doF S.sg (nonF f now).1 q2 now).2.2) else ((doF S.sg (nonF f now).1 q2 now).1, q2, (doF S.sg (nonF f now).1 q2 now).2.1, 0) := by
  subst h2; subst hq; unfold asksF; rw [if_neg (by rw [h]; simp)]; dsimp only; rw [if_neg (by rw [h1]; simp)]
section
variable {W : World} {g : Nat} {T : TypeId} {cs : Array Value}
theorem z9_far {g' : Nat} (k : Blk W (g' + 1) T cs) (y0 y1 y2 y3 y4 y5 : Value) : Blk ((((((W.setCell ⟨g', 0, none⟩ (y0)).setCell ⟨g', 1, none⟩ (y1)).setCell ⟨g', 2, none⟩ (y2)).setCell ⟨g', 3, none⟩ (y3)).setCell ⟨g', 4, none⟩ (y4)).setCell ⟨g', 5, none⟩ (y5)) (g' + 1) T cs :=
  ((((((k.far (p := ⟨g', 0, none⟩) (by simp) _).far (p := ⟨g', 1, none⟩) (by simp) _).far (p := ⟨g', 2, none⟩) (by simp) _).far (p := ⟨g', 3, none⟩) (by simp) _).far (p := ⟨g', 4, none⟩) (by simp) _).far (p := ⟨g', 5, none⟩) (by simp) _)
theorem z6_far {g' : Nat} (k : Blk W g' T cs) (y0 y1 y2 y3 y4 y5 y6 y7 y8 : Value) : Blk (((((((((W.setCell ⟨g' + 1, 0, none⟩ (y0)).setCell ⟨g' + 1, 1, none⟩ (y1)).setCell ⟨g' + 1, 2, none⟩ (y2)).setCell ⟨g' + 1, 3, none⟩ (y3)).setCell ⟨g' + 1, 4, none⟩ (y4)).setCell ⟨g' + 1, 5, none⟩ (y5)).setCell ⟨g' + 1, 6, none⟩ (y6)).setCell ⟨g' + 1, 7, none⟩ (y7)).setCell ⟨g' + 1, 8, none⟩ (y8)) g' T cs :=
  (((((((((k.far (p := ⟨g' + 1, 0, none⟩) (by simp) _).far (p := ⟨g' + 1, 1, none⟩) (by simp) _).far (p := ⟨g' + 1, 2, none⟩) (by simp) _).far (p := ⟨g' + 1, 3, none⟩) (by simp) _).far (p := ⟨g' + 1, 4, none⟩) (by simp) _).far (p := ⟨g' + 1, 5, none⟩) (by simp) _).far (p := ⟨g' + 1, 6, none⟩) (by simp) _).far (p := ⟨g' + 1, 7, none⟩) (by simp) _).far (p := ⟨g' + 1, 8, none⟩) (by simp) _)
end
end Go.Proofs.YtfpmfegmehbfbaaGreatDoor

/- TopDoor: the one secret's signatures, and what 'asked' hands back. No program in sight. -/
namespace Go.Proofs.YtfpmfegmehbfbaaGreatDoor
set_option linter.unusedVariables false
set_option linter.unusedSimpArgs false

/-- Whatever the number, the key of one seed of bytes. -/
def topR (l : List Nat) : SigR := ⟨checkN, fun _ m => (sgE (secN l) m, sgS (secN l) m), fun _ => powM bQ 4 (secN l)⟩
theorem topR_pk (l : List Nat) (n : Nat) : (topR l).pk n = powM bQ 4 (secN l) := mk_pk checkN (fun _ m => (sgE (secN l) m, sgS (secN l) m)) (fun _ => powM bQ 4 (secN l)) n
theorem topR_sgn (l : List Nat) (n : Nat) (m : List Nat) : (topR l).sgn n m = (sgE (secN l) m, sgS (secN l) m) := mk_sgn checkN (fun _ m => (sgE (secN l) m, sgS (secN l) m)) (fun _ => powM bQ 4 (secN l)) n m
theorem topR_sg (l : List Nat) (k : Nat) (m : List Nat) (e s : Nat) : (topR l).sg k m e s = checkN k m e s := mk_sg checkN (fun _ m => (sgE (secN l) m, sgS (secN l) m)) (fun _ => powM bQ 4 (secN l)) k m e s
theorem topR_sgf (l : List Nat) : (topR l).sg = checkN := mk_sgf checkN (fun _ m => (sgE (secN l) m, sgS (secN l) m)) (fun _ => powM bQ 4 (secN l))
theorem topR_ok (l : List Nat) : SigOk (topR l) where
  inb := fun k m e s h => by
    rw [topR_sg] at h
    cases hk : inB k with
    | true => rfl
    | false => rw [checkN_out hk] at h; cases h
  ok := fun seed hs m => by rw [topR_sg, topR_pk, topR_sgn]; exact check_sign _ _
/-- As asksF, but the door as it was where it can't be done. -/
def askT (S : SigR) (f : FroR) (q : QueR) (now : Int) : FroR × QueR × Int × Nat :=
  if (asksF S f q 0 now).2.2.2 ≠ 0 then (f, (asksF S f q 0 now).2.1, 0, (asksF S f q 0 now).2.2.2) else asksF S f q 0 now
theorem askT_ok {S : SigR} {f x : FroR} {q s : QueR} {now n : Int} (h : asksF S f q 0 now = (x, s, n, 0)) : askT S f q now = (x, s, n, 0) := by
  unfold askT; rw [h, if_neg (by simp)]
theorem askT_no {S : SigR} {f : FroR} {q : QueR} {now : Int} (h : (asksF S f q 0 now).2.2.2 ≠ 0) : (askT S f q now).2.2.2 ≠ 0 ∧ (askT S f q now).1 = f := by
  unfold askT; rw [if_pos h]; exact ⟨h, rfl⟩
/-- The four ways out of 'asked'. -/
theorem askT_1 {S : SigR} {f : FroR} {q : QueR} {now : Int} {E : Nat} (h : (nonF f now).2.2 = E) (h0 : E ≠ 0) : askT S f q now = (f, q, 0, E) := by
  unfold askT; rw [asksF_1 h h0, if_pos h0]
theorem askT_2 {S : SigR} {f : FroR} {q q1 : QueR} {now : Int} (h : (nonF f now).2.2 = 0) (hq : q1 = { q with nonce := (nonF f now).2.1 }) (h1 : byteE q1 ≠ 0) : askT S f q now = (f, q1, 0, 1) := by
  unfold askT; rw [asksF_2 h hq h1, if_pos (by simp)]
theorem askT_3 {l : List Nat} {f : FroR} {q q1 : QueR} {now : Int} (h : (nonF f now).2.2 = 0) (hq : q1 = { q with nonce := (nonF f now).2.1 }) (h1 : byteE q1 = 0) {E : Nat}
    (he : (doF checkN (nonF f now).1 { q1 with e := sgE (secN l) (byteL q1), s := sgS (secN l) (byteL q1) } now).2.2 = E) (h0 : E ≠ 0) :
    askT (topR l) f q now = (f, { q1 with e := sgE (secN l) (byteL q1), s := sgS (secN l) (byteL q1) }, 0, E) := by
  have := asksF_3g (S := topR l) (seed := 0) h hq h1 rfl
  rw [topR_sgn, topR_sgf, he, if_pos h0] at this
  unfold askT; rw [this, if_pos h0]
theorem askT_4 {l : List Nat} {f : FroR} {q q1 : QueR} {now : Int} (h : (nonF f now).2.2 = 0) (hq : q1 = { q with nonce := (nonF f now).2.1 }) (h1 : byteE q1 = 0)
    (he : (doF checkN (nonF f now).1 { q1 with e := sgE (secN l) (byteL q1), s := sgS (secN l) (byteL q1) } now).2.2 = 0) :
    askT (topR l) f q now = ((doF checkN (nonF f now).1 { q1 with e := sgE (secN l) (byteL q1), s := sgS (secN l) (byteL q1) } now).1, { q1 with e := sgE (secN l) (byteL q1), s := sgS (secN l) (byteL q1) }, (doF checkN (nonF f now).1 { q1 with e := sgE (secN l) (byteL q1), s := sgS (secN l) (byteL q1) } now).2.1, 0) := by
  have := asksF_3g (S := topR l) (seed := 0) h hq h1 rfl
  rw [topR_sgn, topR_sgf, he, if_neg (by simp)] at this
  unfold askT; rw [this, if_neg (by simp)]
end Go.Proofs.YtfpmfegmehbfbaaGreatDoor

/- The laws of layer 22, walked: what the chapter's example needs. -/
namespace Go.Proofs.YtfpmfegmehbfbaaGreatDoor
set_option linter.unusedVariables false
set_option linter.unusedSimpArgs false
set_option linter.unusedSimpArgs false
open Go.RowKit Go.Shelf Go.Maps

def ansP (d0 : DoorX) (A : Option Addr) (c : Nat) (f : FroR) (q : QueR) (n : Int) (E : Nat) (w : World) (e : Ending) (w' : World) : Prop :=
  ∃ d, e = .returned (.tuple #[.agg #[.int .i64 d.next, .slice d.oA d.opn.length d.oc, .slice d.cA d.accs.length d.cc, .slice d.uA d.auts.length d.uc, .slice d.rA d.ords.length d.rc, .int .i64 d.ser], .agg #[.int .i64 q.kind, .int .i64 q.acc, .int .i64 q.nonce, .int .u64 (q.key : Int), .slice A q.names.length c, .int .i64 q.life, .int .i64 q.id, .int .u64 (q.e : Int), .int .u64 (q.s : Int)], .int .i64 n, .int .i64 (E : Int)]) ∧ d.fro = f ∧ DoorW w' w'.heap.size d ∧ (∀ S, DoorL S d0 → DoorL (orNew S w) d) ∧ QueW w' w'.heap.size q A c ∧ Ext w w'
theorem blk_new1 (w : World) (o : Obj) (t : TypeId) (cs : Array Value) : Blk ((w.alloc o).alloc (.cells cs t)) (w.heap.size + 1) t cs := by
  have := Blk.new (w.alloc o) t cs
  rwa [World.size_alloc] at this
theorem wf_small {n : Int} (h1 : -1000 ≤ n) (h2 : n ≤ 1000) : wf64 n := wf64_of (by omega) (by omega)
/-- A request that has no names. -/
theorem que_lit (W : World) (B : Nat) (k a i l : Int) (key : Nat) (hk : -1000 ≤ k ∧ k ≤ 1000) (ha : -1000 ≤ a ∧ a ≤ 1000) (hi : -1000 ≤ i ∧ i ≤ 1000) (hl : -1000 ≤ l ∧ l ≤ 1000) (hkey : key < 18446744073709551616) : QueW W B ⟨k, a, 0, key, [], l, i, 0, 0⟩ none 0 :=
  ⟨wf_small hk.1 hk.2, wf_small ha.1 ha.2, (show wf64 0 from wf_small (by decide) (by decide)), hkey, wf_small hl.1 hl.2, wf_small hi.1 hi.2, (show 0 < 18446744073709551616 by decide), (show 0 < 18446744073709551616 by decide), Reads.none_, Nat.le_refl _, Nat.zero_le _, by simp⟩
theorem oNewV (w : World) : Calls Tryz.prog 37 #[] w fun e w' => e = .returned (.agg #[.int .i64 0, .slice none 0 0, .slice none 0 0, .slice none 0 0, .slice none 0 0, .int .i64 0]) ∧ Ext w w' := oNew_any w
end Go.Proofs.YtfpmfegmehbfbaaGreatDoor
