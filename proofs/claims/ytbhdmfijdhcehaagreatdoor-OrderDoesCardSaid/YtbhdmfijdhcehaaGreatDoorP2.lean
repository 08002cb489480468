/- Parts of the proofs, put together: Base, Eq. -/
import Derived.Test.YtbhdmfijdhcehaaGreatDoorRows
import Derived.WalkKit
import Derived.WalkSmall
import Derived.Lib.Hide
import Derived.RowKit3
import Derived.Below
import Derived.ChangeKeysEq
set_option maxRecDepth 100000
set_option maxHeartbeats 64000000
namespace Go.Proofs.YtbhdmfijdhcehaaGreatDoor
open Go.RowKit
theorem zpA {α:Type} (l:List α) (i:Nat) (a:α):l.toArray.setIfInBounds i a=(l.set i a).toArray:=List.setIfInBounds_toArray ..
theorem zpB {α:Type} (x:α) (l:List α) (a:α):(x :: l).set 0 a=a :: l:=rfl
theorem zpC {α:Type} (x:α) (l:List α) (n:Nat) (a:α):(x :: l).set (n+1) a=x :: l.set n a:=rfl
def Ext (w w':World):Prop:=Below w.heap.size w w'
theorem Ext.refl (w:World):Ext w w:=Below.refl _ _
theorem Ext.trans {a b c:World} (h:Ext a b) (k:Ext b c):Ext a c:=Below.trans h (Below.mono k (Below.size h))
theorem Ext.drewN {a b:World} (h:Ext a b) (n:Nat):Ext a (b.drewN n):=below_drewN h n
theorem Ext.drew {a b:World} (h:Ext a b):Ext a b.drew:=Below.drew h
theorem Ext.alloc {a b:World} (h:Ext a b) (o:Obj):Ext a (b.alloc o):=Below.alloc h (Below.size h) o
theorem Ext.setCell {a b:World} (h:Ext a b) {p:Addr} (hp:a.heap.size≤p.block) (v:Value):Ext a (b.setCell p v):=Below.setCell h hp v
theorem Ext.of {w w':World} (h:Below w.heap.size w w'):Ext w w':=h
theorem Ext.out {w w':World} (h:Ext w w'):Below w.heap.size w w':=h
theorem Ext.size {w w':World} (h:Ext w w'):w.heap.size≤w'.heap.size:=Below.size h
theorem Ext.cell {w w':World} (h:Ext w w') {p:Addr} {v:Value} (hc:w.cell? p=some v):w'.cell? p=some v:=by
 refine (Below.cell h ?_).trans hc
 refine Nat.lt_of_not_le fun hle=>?_
 have:w.heap[p.block]?=none:=Array.getElem?_eq_none hle
 unfold World.cell? at hc
 simp [this] at hc
theorem Ext.frozen {w w':World} (h:Ext w w') {p:Addr} {v:Value} (hc:w.cell? p=some v):w'.frozen? p=w.frozen? p:=by
 refine Below.frozen h ?_
 refine Nat.lt_of_not_le fun hle=>?_
 have:w.heap[p.block]?=none:=Array.getElem?_eq_none hle
 unfold World.cell? at hc
 simp [this] at hc
theorem ret_one {k:IntKind} {a b:Int} (h:a=b):Ending.returned (.int k a)=.returned (.int k b):=by rw [h]
theorem ret_two {k l:IntKind} {a b c d:Int} (h1:a=b) (h2:c=d):Ending.returned (.tuple #[.int k a,.int l c])=.returned (.tuple #[.int k b,.int l d]):=by rw [h1,h2]
theorem ret_bool {a b:Bool} (h:a=b):Ending.returned (.bool a)=.returned (.bool b):=by rw [h]
theorem int_congr {k:IntKind} {a b:Int} (h:a=b):Value.int k a=.int k b:=by rw [h]
end Go.Proofs.YtbhdmfijdhcehaaGreatDoor
namespace Go.Proofs.YtbhdmfijdhcehaaGreatDoor
open Go.RowKit
set_option linter.unusedSimpArgs false
set_option linter.unusedVariables false
