/- Parts of the proofs, put together: OrSame, OrSame2. -/
import Derived.Test.YtbhdmfijdhcehaaGreatDoorP22
import Derived.Test.YtbhdmfijdhcehaaGreatDoorP24
set_option maxRecDepth 100000
set_option maxHeartbeats 64000000
namespace Go.Proofs.YtbhdmfijdhcehaaGreatDoor
open Go.RowKit Go.Shelf Go.Maps
set_option linter.unusedSimpArgs false
set_option linter.unusedVariables false
theorem take_eq_succ {α:Type} {l m:List α} {j:Nat} {s t:α} (hs:l[j]?=some s) (ht:m[j]?=some t) (h:l.take j=m.take j) (k:s=t):l.take (j+1)=m.take (j+1):=by rw [List.take_add_one,List.take_add_one,hs,ht,h,k]
theorem eq_no {α:Type} {l m:List α} {j:Nat} {s t:α} (hs:l[j]?=some s) (ht:m[j]?=some t) (k:s≠t):l≠m:=fun e=>k (by rw [e,ht] at hs;exact (Option.some.inj hs).symm)
theorem reads_num {w:World} {B n:Nat} {A:Option Addr} {l:List Int} (h:Reads w B 1 A n (iv l)) {j:Nat} {s:Int} (hs:l[j]?=some s):∃ ad,A=some ad∧w.cell? (ad.add j)=some (.int .i64 s):=by
 have hl:=(List.getElem?_eq_some_iff.1 hs).1
 obtain ⟨ad,e,hb,hc⟩:=h.2 (by have:=h.1;simp [iv] at this;omega)
 exact ⟨ad,e,hc j _ (by simp [iv,hs])⟩
theorem Texts22_any (l m:List ByteArray) (A B:Option Addr) (c d:Nat) (hn:l.length≤140737488355328) (w:World) (hr:Reads w w.heap.size 1 A l.length (tv l)) (hs:Reads w w.heap.size 1 B m.length (tv m)) :
  Calls Tryz.prog 16 #[.slice A l.length c,.slice B m.length d] w fun e w'=>e=.returned (.bool (decide (l=m)))∧Ext w w':=by
 by_cases hl:l.length=m.length
 ·have hr0:Hid (Reads w w.heap.size 1 A l.length (tv l)):=Lib.hid hr
  have hs0:Hid (Reads w w.heap.size 1 B m.length (tv m)):=Lib.hid hs
  have HN:=Lib.hid hn
  have HL:=Lib.hid hl
  rw [← hl]
  clear hr hs hn hl
  go_enter Tryz.func16,Tryz.ntmps16
  go_wp2
  go_loopg [5] l.length (fun g s5 wr=>∃ j:Nat,j+g=l.length∧s5=.int .i64 j∧l.take j=m.take j∧Ext w wr)
  case atStart=>exact ⟨0,by omega,rfl,by simp,Ext.refl w⟩
  case round =>
   obtain ⟨j,hj,rfl,hok,hx⟩:=hrel
   by_cases h:j<l.length
   ·obtain ⟨s,hs⟩:∃ s,l[j]?=some s:=⟨_,List.getElem?_eq_getElem h⟩
    obtain ⟨t,ht⟩:∃ s,m[j]?=some s:=⟨_,List.getElem?_eq_getElem (by rw [← HL.out];exact h)⟩
    obtain ⟨ad,rfl,q0⟩:=reads_text (hr0.out.below hx.out) hs
    obtain ⟨bd,rfl,r0⟩:=reads_text (hs0.out.below hx.out) ht
    have hjb:(j:Int)≤140737488355328:=by have:=HN.out;omega
    have HX:=Lib.hid hx
    have HJ:=Lib.hid hj
    have q0':=fun n:Nat=>show (wr.drewN n).cell? _=_ from q0
    have r0':=fun n:Nat=>show (wr.drewN n).cell? _=_ from r0
    by_cases hst:s=t
    ·have hok':Hid (l.take (j+1)=m.take (j+1)):=Lib.hid (take_eq_succ hs ht hok hst)
     have d2:(s.toList==t.toList)=true:=str_beq_true hst
     have d3:(s.toList != t.toList)=false:=by rw [bne,d2];rfl
     clear hx hj hok hs ht hst
     go_wp2
     go_region
     all_goals go_wp2
     have hj:=HJ.out
     all_goals go_roundg (gk-1)
     case measure=>omega
     case rel=>exact ⟨j+1,by omega,int_congr (by omega),hok'.out,HX.out.drew⟩
    ·have k:decide (l=m)=false:=decide_eq_false (eq_no hs ht hst)
     have d2:(s.toList==t.toList)=false:=str_beq_false hst
     have d3:(s.toList != t.toList)=true:=by rw [bne,d2];rfl
     clear hx hj hok hs ht hst
     go_wp2
     go_region
     all_goals go_wp2
     all_goals go_ret
     all_goals first|exact ⟨ret_bool k.symm,HX.out.drew⟩|exact ⟨rfl,HX.out.drew⟩
   ·obtain rfl:j=l.length:=by omega
    have k:decide (l=m)=true:=decide_eq_true (by rw [List.take_length] at hok;rw [hok,HL.out,List.take_length])
    have HX:=Lib.hid hx
    clear hx hok hj
    go_wp2
    go_ret
    first|exact ⟨ret_bool k.symm,HX.out⟩|exact ⟨rfl,HX.out⟩
 ·have k:decide (l=m)=false:=decide_eq_false fun e=>hl (by rw [e])
  have d1:((l.length:Int) != (m.length:Int))=true:=by simp;omega
  clear hr hs hn
  go_enter Tryz.func16,Tryz.ntmps16
  go_wp2
  go_ret
  first|exact ⟨ret_bool k.symm,Ext.refl w⟩|exact ⟨rfl,Ext.refl w⟩
theorem ints22_any (l m:List Int) (A B:Option Addr) (c d:Nat) (hn:l.length≤140737488355328) (w:World) (hr:Reads w w.heap.size 1 A l.length (iv l)) (hs:Reads w w.heap.size 1 B m.length (iv m)) :
  Calls Tryz.prog 80 #[.slice A l.length c,.slice B m.length d] w fun e w'=>e=.returned (.bool (decide (l=m)))∧Ext w w':=by
 by_cases hl:l.length=m.length
 ·have hr0:Hid (Reads w w.heap.size 1 A l.length (iv l)):=Lib.hid hr
  have hs0:Hid (Reads w w.heap.size 1 B m.length (iv m)):=Lib.hid hs
  have HN:=Lib.hid hn
  have HL:=Lib.hid hl
  rw [← hl]
  clear hr hs hn hl
  go_enter Tryz.func80,Tryz.ntmps80
  go_wp2
  go_loopg [5] l.length (fun g s5 wr=>∃ j:Nat,j+g=l.length∧s5=.int .i64 j∧l.take j=m.take j∧Ext w wr)
  case atStart=>exact ⟨0,by omega,rfl,by simp,Ext.refl w⟩
  case round =>
   obtain ⟨j,hj,rfl,hok,hx⟩:=hrel
   by_cases h:j<l.length
   ·obtain ⟨s,hs⟩:∃ s,l[j]?=some s:=⟨_,List.getElem?_eq_getElem h⟩
    obtain ⟨t,ht⟩:∃ s,m[j]?=some s:=⟨_,List.getElem?_eq_getElem (by rw [← HL.out];exact h)⟩
    obtain ⟨ad,rfl,q0⟩:=reads_num (hr0.out.below hx.out) hs
    obtain ⟨bd,rfl,r0⟩:=reads_num (hs0.out.below hx.out) ht
    have hjb:(j:Int)≤140737488355328:=by have:=HN.out;omega
    have HX:=Lib.hid hx
    have HJ:=Lib.hid hj
    have q0':=fun n:Nat=>show (wr.drewN n).cell? _=_ from q0
    have r0':=fun n:Nat=>show (wr.drewN n).cell? _=_ from r0
    by_cases hst:s=t
    ·have hok':Hid (l.take (j+1)=m.take (j+1)):=Lib.hid (take_eq_succ hs ht hok hst)
     have d2:(s==t)=true:=by simp [hst]
     have d3:(s != t)=false:=by simp [hst]
     clear hx hj hok hs ht hst
     go_wp2
     go_region
     all_goals go_wp2
     have hj:=HJ.out
     all_goals go_roundg (gk-1)
     case measure=>omega
     case rel=>exact ⟨j+1,by omega,int_congr (by omega),hok'.out,HX.out.drew⟩
    ·have k:decide (l=m)=false:=decide_eq_false (eq_no hs ht hst)
     have d2:(s==t)=false:=by simp [hst]
     have d3:(s != t)=true:=by simp [hst]
     clear hx hj hok hs ht hst
     go_wp2
     go_region
     all_goals go_wp2
     all_goals go_ret
     all_goals first|exact ⟨ret_bool k.symm,HX.out.drew⟩|exact ⟨rfl,HX.out.drew⟩
   ·obtain rfl:j=l.length:=by omega
    have k:decide (l=m)=true:=decide_eq_true (by rw [List.take_length] at hok;rw [hok,HL.out,List.take_length])
    have HX:=Lib.hid hx
    clear hx hok hj
    go_wp2
    go_ret
    first|exact ⟨ret_bool k.symm,HX.out⟩|exact ⟨rfl,HX.out⟩
 ·have k:decide (l=m)=false:=decide_eq_false fun e=>hl (by rw [e])
  have d1:((l.length:Int) != (m.length:Int))=true:=by simp;omega
  clear hr hs hn
  go_enter Tryz.func80,Tryz.ntmps80
  go_wp2
  go_ret
  first|exact ⟨ret_bool k.symm,Ext.refl w⟩|exact ⟨rfl,Ext.refl w⟩
structure OrdsW (w:World) (A:Option Addr) (l:List OrdX):Prop where
 lst:Reads w w.heap.size 8 A l.length (ordV l)
 len:l.length≤140737488355328
 each:∀ x∈l,OrdW w w.heap.size x
theorem OrdsW.ext {w w':World} {A:Option Addr} {l:List OrdX} (h:OrdsW w A l) (x:Ext w w'):OrdsW w' A l:=⟨(h.lst.below x.out).more x.size,h.len,fun y hy=>(h.each y hy).ext x⟩
theorem map_take_succ {l m:List OrdX} {j:Nat} {x y:OrdX} (hx:l[j]?=some x) (hy:m[j]?=some y) (h:(l.map (·.o)).take j=(m.map (·.o)).take j) (k:x.o=y.o):(l.map (·.o)).take (j+1)=(m.map (·.o)).take (j+1) :=
 take_eq_succ (s:=x.o) (t:=y.o) (by rw [List.getElem?_map,hx];rfl) (by rw [List.getElem?_map,hy];rfl) h k
theorem map_no {l m:List OrdX} {j:Nat} {x y:OrdX} (hx:l[j]?=some x) (hy:m[j]?=some y) (k:x.o≠y.o):l.map (·.o)≠m.map (·.o) :=
 eq_no (s:=x.o) (t:=y.o) (by rw [List.getElem?_map,hx];rfl) (by rw [List.getElem?_map,hy];rfl) k
theorem Orders22_any (l m:List OrdX) (A B:Option Addr) (c d:Nat) (w:World) (hl:OrdsW w A l) (hm:OrdsW w B m) :
  Calls Tryz.prog 37 #[.slice A l.length c,.slice B m.length d] w fun e w'=>e=.returned (.bool (decide (l.map (·.o)=m.map (·.o))))∧Ext w w':=by
 by_cases hlen:l.length=m.length
 ·have HLW:=Lib.hid hl
  have HMW:=Lib.hid hm
  have HL:=Lib.hid hlen
  rw [← hlen]
  clear hl hm hlen
  go_enter Tryz.func37,Tryz.ntmps37
  go_wp2
  go_loopg [5] l.length (fun g s5 wr=>∃ j:Nat,j+g=l.length∧s5=.int .i64 j∧(l.map (·.o)).take j=(m.map (·.o)).take j∧Ext w wr)
  case atStart=>exact ⟨0,by omega,rfl,by simp,Ext.refl w⟩
  case round =>
   obtain ⟨j,hj,rfl,hok,hx⟩:=hrel
   by_cases h:j<l.length
   ·obtain ⟨x,hsx⟩:∃ s,l[j]?=some s:=⟨_,List.getElem?_eq_getElem h⟩
    obtain ⟨y,hsy⟩:∃ s,m[j]?=some s:=⟨_,List.getElem?_eq_getElem (by rw [← HL.out];exact h)⟩
    obtain ⟨ad,hA,hltA,q0,q1,q2,q3,q4,q5,q6,q7⟩:=reads_ord (HLW.out.ext hx).lst hsx
    obtain ⟨bd,hB,hltB,o0,o1,o2,o3,o4,o5,o6,o7⟩:=reads_ord (HMW.out.ext hx).lst hsy
    have hjb:(j:Int)≤140737488355328:=by have:=HLW.out.len;omega
    have hjl:(j:Int)<(l.length:Int):=by omega
    subst hA
    subst hB
    have HX:=Lib.hid hx
    have HJ:=Lib.hid hj
    have HOK:=Lib.hid hok
    have HSX:=Lib.hid hsx
    have HSY:=Lib.hid hsy
    have Q0:=fun o:Obj=>(Ext.refl wr).alloc o
    have b0:=fun o:Obj=>(Q0 o).cell o0
    have b1:=fun o:Obj=>(Q0 o).cell o1
    have b2:=fun o:Obj=>(Q0 o).cell o2
    have b3:=fun o:Obj=>(Q0 o).cell o3
    have b4:=fun o:Obj=>(Q0 o).cell o4
    have b5:=fun o:Obj=>(Q0 o).cell o5
    have b6:=fun o:Obj=>(Q0 o).cell o6
    have b7:=fun o:Obj=>(Q0 o).cell o7
    clear hx hj hok hsx hsy hltA hltB Q0 o0 o1 o2 o3 o4 o5 o6 o7
    go_upto_region 8 with (fail)
    obtain ⟨W2,e2⟩:∃ W,(wr.alloc (.cells #[.int .i64 x.o.id,.int .i64 x.o.acc,.slice x.nA x.o.names.length x.nc,.int .u64 (x.o.key:Int),.int .i64 x.o.life,.slice x.aA x.o.auths.length x.ac,.int .i64 x.o.st,.int .i64 x.o.ser] 78)).alloc (.cells #[.int .i64 y.o.id,.int .i64 y.o.acc,.slice y.nA y.o.names.length y.nc,.int .u64 (y.o.key:Int),.int .i64 y.o.life,.slice y.aA y.o.auths.length y.ac,.int .i64 y.o.st,.int .i64 y.o.ser] 78)=W:=⟨_,rfl⟩
    try rw [e2]
    have HY:Hid (Ext w W2):=Lib.hid (by rw [← e2];exact (HX.out.alloc _).alloc _)
    have HKX:Hid (∀ W,Ext W2 W→_):=Lib.hid fun W z=>arr8 (ext_blk z (show Blk W2 wr.heap.size 78 #[.int .i64 x.o.id,.int .i64 x.o.acc,.slice x.nA x.o.names.length x.nc,.int .u64 (x.o.key:Int),.int .i64 x.o.life,.slice x.aA x.o.auths.length x.ac,.int .i64 x.o.st,.int .i64 x.o.ser] by rw [← e2];exact (Blk.new _ _ _).alloc _))
    have HKY:Hid (∀ W,Ext W2 W→_):=Lib.hid fun W z=>arr8 (ext_blk z (show Blk W2 (wr.heap.size+1) 78 #[.int .i64 y.o.id,.int .i64 y.o.acc,.slice y.nA y.o.names.length y.nc,.int .u64 (y.o.key:Int),.int .i64 y.o.life,.slice y.aA y.o.auths.length y.ac,.int .i64 y.o.st,.int .i64 y.o.ser] by rw [← e2];have:=Blk.new (wr.alloc (.cells #[.int .i64 x.o.id,.int .i64 x.o.acc,.slice x.nA x.o.names.length x.nc,.int .u64 (x.o.key:Int),.int .i64 x.o.life,.slice x.aA x.o.auths.length x.ac,.int .i64 x.o.st,.int .i64 x.o.ser] 78)) 78 #[.int .i64 y.o.id,.int .i64 y.o.acc,.slice y.nA y.o.names.length y.nc,.int .u64 (y.o.key:Int),.int .i64 y.o.life,.slice y.aA y.o.auths.length y.ac,.int .i64 y.o.st,.int .i64 y.o.ser];rwa [World.size_alloc] at this))
    have xw:=HLW.out.each x (List.mem_of_getElem? HSX.out)
    have yw:=HMW.out.each y (List.mem_of_getElem? HSY.out)
    have cT:=Texts22_any x.o.names y.o.names x.nA y.nA x.nc y.nc (by have:=xw.nl;omega) W2 ((xw.names.below HY.out.out).more HY.out.size) ((yw.names.below HY.out.out).more HY.out.size)
    have cN:=fun W (z:Ext W2 W)=>ints22_any x.o.auths y.o.auths x.aA y.aA x.ac y.ac (by have:=xw.al;omega) W ((xw.auths.below (HY.out.trans z).out).more (HY.out.trans z).size) ((yw.auths.below (HY.out.trans z).out).more (HY.out.trans z).size)
    obtain ⟨p0,p1,p2,p3,p4,p5,p6,p7⟩:=HKX.out W2 (Ext.refl W2)
    obtain ⟨r0,r1,r2,r3,r4,r5,r6,r7⟩:=HKY.out W2 (Ext.refl W2)
    clear e2 xw yw q0 q1 q2 q3 q4 q5 q6 q7 b0 b1 b2 b3 b4 b5 b6 b7
    by_cases g0:x.o.id=y.o.id
    case neg =>
     have hno:Hid (decide (l.map (·.o)=m.map (·.o))=false):=Lib.hid (decide_eq_false (map_no HSX.out HSY.out (fun e=>g0 (by rw [e]))))
     have d0:(x.o.id != y.o.id)=true:=by simp [g0]
     clear g0 cN cT
     go_wp2
     go_ret
     exact ⟨ret_bool hno.out.symm,HY.out⟩
    have d0:(x.o.id != y.o.id)=false:=by simp [g0]
    by_cases g1:x.o.acc=y.o.acc
    case neg =>
     have hno:Hid (decide (l.map (·.o)=m.map (·.o))=false):=Lib.hid (decide_eq_false (map_no HSX.out HSY.out (fun e=>g1 (by rw [e]))))
     have d1:(x.o.acc != y.o.acc)=true:=by simp [g1]
     clear g0 g1 cN cT
     go_wp2
     go_ret
     exact ⟨ret_bool hno.out.symm,HY.out⟩
    have d1:(x.o.acc != y.o.acc)=false:=by simp [g1]
    by_cases g2:x.o.names=y.o.names
    case neg =>
     have hno:Hid (decide (l.map (·.o)=m.map (·.o))=false):=Lib.hid (decide_eq_false (map_no HSX.out HSY.out (fun e=>g2 (by rw [e]))))
     rw [decide_eq_false g2] at cT
     clear g0 g1 g2 cN
     go_wp2_with (go_at_call 16;refine cT.mono ?_;clear cT;rintro e w3 ⟨rfl,x3⟩;obtain ⟨p0,p1,p2,p3,p4,p5,p6,p7⟩:=HKX.out _ x3;obtain ⟨r0,r1,r2,r3,r4,r5,r6,r7⟩:=HKY.out _ x3)
     go_ret
     exact ⟨ret_bool hno.out.symm,HY.out.trans x3⟩
    rw [decide_eq_true g2] at cT
    by_cases g3:x.o.key=y.o.key
    case neg =>
     have hno:Hid (decide (l.map (·.o)=m.map (·.o))=false):=Lib.hid (decide_eq_false (map_no HSX.out HSY.out (fun e=>g3 (by rw [e]))))
     have d3:((x.o.key:Int) != (y.o.key:Int))=true:=by simp;omega
     clear g0 g1 g2 g3 cN
     go_wp2_with (go_at_call 16;refine cT.mono ?_;clear cT;rintro e w3 ⟨rfl,x3⟩;obtain ⟨p0,p1,p2,p3,p4,p5,p6,p7⟩:=HKX.out _ x3;obtain ⟨r0,r1,r2,r3,r4,r5,r6,r7⟩:=HKY.out _ x3)
     go_ret
     exact ⟨ret_bool hno.out.symm,HY.out.trans x3⟩
    have d3:((x.o.key:Int) != (y.o.key:Int))=false:=by simp;omega
    by_cases g4:x.o.life=y.o.life
    case neg =>
     have hno:Hid (decide (l.map (·.o)=m.map (·.o))=false):=Lib.hid (decide_eq_false (map_no HSX.out HSY.out (fun e=>g4 (by rw [e]))))
     have d4:(x.o.life != y.o.life)=true:=by simp [g4]
     clear g0 g1 g2 g3 g4 cN
     go_wp2_with (go_at_call 16;refine cT.mono ?_;clear cT;rintro e w3 ⟨rfl,x3⟩;obtain ⟨p0,p1,p2,p3,p4,p5,p6,p7⟩:=HKX.out _ x3;obtain ⟨r0,r1,r2,r3,r4,r5,r6,r7⟩:=HKY.out _ x3)
     go_ret
     exact ⟨ret_bool hno.out.symm,HY.out.trans x3⟩
    have d4:(x.o.life != y.o.life)=false:=by simp [g4]
    by_cases g5:x.o.auths=y.o.auths
    case neg =>
     have hno:Hid (decide (l.map (·.o)=m.map (·.o))=false):=Lib.hid (decide_eq_false (map_no HSX.out HSY.out (fun e=>g5 (by rw [e]))))
     rw [decide_eq_false g5] at cN
     clear g0 g1 g2 g3 g4 g5
     go_wp2_with (first
      | (go_at_call 16;refine cT.mono ?_;clear cT;rintro e w3 ⟨rfl,x3⟩;obtain ⟨p0,p1,p2,p3,p4,p5,p6,p7⟩:=HKX.out _ x3;obtain ⟨r0,r1,r2,r3,r4,r5,r6,r7⟩:=HKY.out _ x3)
      | (go_at_call 80;refine (cN _ x3).mono ?_;clear cN;rintro e w4 ⟨rfl,x4⟩;obtain ⟨p0,p1,p2,p3,p4,p5,p6,p7⟩:=HKX.out _ (x3.trans x4);obtain ⟨r0,r1,r2,r3,r4,r5,r6,r7⟩:=HKY.out _ (x3.trans x4)))
     go_ret
     exact ⟨ret_bool hno.out.symm,HY.out.trans (x3.trans x4)⟩
    rw [decide_eq_true g5] at cN
    by_cases g6:x.o.st=y.o.st
    case neg =>
     have hno:Hid (decide (l.map (·.o)=m.map (·.o))=false):=Lib.hid (decide_eq_false (map_no HSX.out HSY.out (fun e=>g6 (by rw [e]))))
     have d6:(x.o.st != y.o.st)=true:=by simp [g6]
     clear g0 g1 g2 g3 g4 g5 g6
     go_wp2_with (first
      | (go_at_call 16;refine cT.mono ?_;clear cT;rintro e w3 ⟨rfl,x3⟩;obtain ⟨p0,p1,p2,p3,p4,p5,p6,p7⟩:=HKX.out _ x3;obtain ⟨r0,r1,r2,r3,r4,r5,r6,r7⟩:=HKY.out _ x3)
      | (go_at_call 80;refine (cN _ x3).mono ?_;clear cN;rintro e w4 ⟨rfl,x4⟩;obtain ⟨p0,p1,p2,p3,p4,p5,p6,p7⟩:=HKX.out _ (x3.trans x4);obtain ⟨r0,r1,r2,r3,r4,r5,r6,r7⟩:=HKY.out _ (x3.trans x4)))
     go_ret
     exact ⟨ret_bool hno.out.symm,HY.out.trans (x3.trans x4)⟩
    have d6:(x.o.st != y.o.st)=false:=by simp [g6]
    by_cases g7:x.o.ser=y.o.ser
    case neg =>
     have hno:Hid (decide (l.map (·.o)=m.map (·.o))=false):=Lib.hid (decide_eq_false (map_no HSX.out HSY.out (fun e=>g7 (by rw [e]))))
     have d7:(x.o.ser != y.o.ser)=true:=by simp [g7]
     clear g0 g1 g2 g3 g4 g5 g6 g7
     go_wp2_with (first
      | (go_at_call 16;refine cT.mono ?_;clear cT;rintro e w3 ⟨rfl,x3⟩;obtain ⟨p0,p1,p2,p3,p4,p5,p6,p7⟩:=HKX.out _ x3;obtain ⟨r0,r1,r2,r3,r4,r5,r6,r7⟩:=HKY.out _ x3)
      | (go_at_call 80;refine (cN _ x3).mono ?_;clear cN;rintro e w4 ⟨rfl,x4⟩;obtain ⟨p0,p1,p2,p3,p4,p5,p6,p7⟩:=HKX.out _ (x3.trans x4);obtain ⟨r0,r1,r2,r3,r4,r5,r6,r7⟩:=HKY.out _ (x3.trans x4)))
     go_ret
     exact ⟨ret_bool hno.out.symm,HY.out.trans (x3.trans x4)⟩
    have d7:(x.o.ser != y.o.ser)=false:=by simp [g7]
    have hst:x.o=y.o:=by
     obtain ⟨⟨a1,a2,a3,a4,a5,a6,a7,a8⟩,_,_,_,_⟩:=x
     obtain ⟨⟨b1,b2,b3,b4,b5,b6,b7,b8⟩,_,_,_,_⟩:=y
     simp only at g0 g1 g2 g3 g4 g5 g6 g7
     subst g0;subst g1;subst g2;subst g3;subst g4;subst g5;subst g6;subst g7;rfl
    have hok':Hid ((l.map (·.o)).take (j+1)=(m.map (·.o)).take (j+1)):=Lib.hid (map_take_succ HSX.out HSY.out HOK.out hst)
    clear hst g0 g1 g2 g3 g4 g5 g6 g7
    go_wp2_with (first
     | (go_at_call 16;refine cT.mono ?_;clear cT;rintro e w3 ⟨rfl,x3⟩;obtain ⟨p0,p1,p2,p3,p4,p5,p6,p7⟩:=HKX.out _ x3;obtain ⟨r0,r1,r2,r3,r4,r5,r6,r7⟩:=HKY.out _ x3)
     | (go_at_call 80;refine (cN _ x3).mono ?_;clear cN;rintro e w4 ⟨rfl,x4⟩;obtain ⟨p0,p1,p2,p3,p4,p5,p6,p7⟩:=HKX.out _ (x3.trans x4);obtain ⟨r0,r1,r2,r3,r4,r5,r6,r7⟩:=HKY.out _ (x3.trans x4)))
    have hj:=HJ.out
    go_roundg (gk-1)
    case measure=>omega
    case rel=>exact ⟨j+1,by omega,int_congr (by omega),hok'.out,HY.out.trans (x3.trans x4)⟩
   ·obtain rfl:j=l.length:=by omega
    have k:decide (l.map (·.o)=m.map (·.o))=true:=decide_eq_true (by rw [← List.map_take,← List.map_take,List.take_length,HL.out,List.take_length] at hok;exact hok)
    have HX:=Lib.hid hx
    clear hx hok hj
    go_wp2
    go_ret
    first|exact ⟨ret_bool k.symm,HX.out⟩|exact ⟨rfl,HX.out⟩
 ·have k:decide (l.map (·.o)=m.map (·.o))=false:=decide_eq_false fun e=>hlen (by have:=congrArg List.length e;simpa using this)
  have d1:((l.length:Int) != (m.length:Int))=true:=by simp;omega
  clear hl hm
  go_enter Tryz.func37,Tryz.ntmps37
  go_wp2
  go_ret
  first|exact ⟨ret_bool k.symm,Ext.refl w⟩|exact ⟨rfl,Ext.refl w⟩
theorem fro_eq {d f:DoorX} (h:d.fro=f.fro):d.next=f.next∧d.opn=f.opn∧d.accs=f.accs∧d.auts=f.auts∧d.ords.map (·.o)=f.ords.map (·.o)∧d.ser=f.ser:=by
 unfold DoorX.fro at h
 simp only [FroR.mk.injEq] at h
 exact h
theorem fro_eq_mk {d f:DoorX} (h1:d.next=f.next) (h2:d.opn=f.opn) (h3:d.accs=f.accs) (h4:d.auts=f.auts) (h5:d.ser=f.ser):d.fro=f.fro ↔ d.ords.map (·.o)=f.ords.map (·.o):=by
 unfold DoorX.fro
 simp [h1,h2,h3,h4,h5]
theorem DoorW.ords {w:World} {d:DoorX} (h:DoorW w w.heap.size d):OrdsW w d.rA d.ords:=⟨h.ord,by have:=h.rl;omega,h.rw⟩
theorem Same22_any (d f:DoorX) (w:World) (hd:DoorW w w.heap.size d) (hf:DoorW w w.heap.size f) :
  Calls Tryz.prog 20 #[frontV d,frontV f] w fun e w'=>e=.returned (.bool (decide (d.fro=f.fro)))∧Ext w w':=by
 obtain ⟨W0,e0,b0,b1,x0,s0⟩:=startP w #[.int .i64 d.next,.slice d.oA d.opn.length d.oc,.slice d.cA d.accs.length d.cc,.slice d.uA d.auts.length d.uc,.slice d.rA d.ords.length d.rc,.int .i64 d.ser] #[.int .i64 f.next,.slice f.oA f.opn.length f.oc,.slice f.cA f.accs.length f.cc,.slice f.uA f.auts.length f.uc,.slice f.rA f.ords.length f.rc,.int .i64 f.ser] 43 43
 have HD:=Lib.hid (hd.ext x0)
 have HF:=Lib.hid (hf.ext x0)
 have HB0:=Lib.hid b0
 have HB1:=Lib.hid b1
 have HX0:=Lib.hid x0
 obtain ⟨m0,m1,m2,m3,m4,m5⟩:=arr6f b0
 obtain ⟨n0,n1,n2,n3,n4,n5⟩:=arr6f b1
 unfold frontV
 clear b0 b1 x0 s0 hd hf
 go_enter Tryz.func20,Tryz.ntmps20
 go_upto_region 1 with (fail)
 try rw [e0]
 clear e0
 by_cases h1:d.next=f.next
 case neg =>
  have hno:Hid (decide (d.fro=f.fro)=false):=Lib.hid (decide_eq_false fun e=>h1 (fro_eq e).1)
  have kh1:(d.next != f.next)=true:=by simp;omega
  clear h1
  go_wp2
  go_ret
  exact ⟨ret_bool hno.out.symm,HX0.out⟩
 have kh1:(d.next != f.next)=false:=by simp;omega
 by_cases h2:d.opn.length=f.opn.length
 case neg =>
  have hno:Hid (decide (d.fro=f.fro)=false):=Lib.hid (decide_eq_false fun e=>h2 (by rw [(fro_eq e).2.1]))
  have kh2:((d.opn.length:Int) != (f.opn.length:Int))=true:=by simp;omega
  clear h1 h2
  go_wp2
  go_ret
  exact ⟨ret_bool hno.out.symm,HX0.out⟩
 have kh2:((d.opn.length:Int) != (f.opn.length:Int))=false:=by simp;omega
 by_cases h3:d.accs.length=f.accs.length
 case neg =>
  have hno:Hid (decide (d.fro=f.fro)=false):=Lib.hid (decide_eq_false fun e=>h3 (by rw [(fro_eq e).2.2.1]))
  have kh3:((d.accs.length:Int) != (f.accs.length:Int))=true:=by simp;omega
  clear h1 h2 h3
  go_wp2
  go_ret
  exact ⟨ret_bool hno.out.symm,HX0.out⟩
 have kh3:((d.accs.length:Int) != (f.accs.length:Int))=false:=by simp;omega
 by_cases h4:d.auts.length=f.auts.length
 case neg =>
  have hno:Hid (decide (d.fro=f.fro)=false):=Lib.hid (decide_eq_false fun e=>h4 (by rw [(fro_eq e).2.2.2.1]))
  have kh4:((d.auts.length:Int) != (f.auts.length:Int))=true:=by simp;omega
  clear h1 h2 h3 h4
  go_wp2
  go_ret
  exact ⟨ret_bool hno.out.symm,HX0.out⟩
 have kh4:((d.auts.length:Int) != (f.auts.length:Int))=false:=by simp;omega
 by_cases h5:d.ser=f.ser
 case neg =>
  have hno:Hid (decide (d.fro=f.fro)=false):=Lib.hid (decide_eq_false fun e=>h5 (fro_eq e).2.2.2.2.2)
  have kh5:(d.ser != f.ser)=true:=by simp;omega
  clear h1 h2 h3 h4 h5
  go_wp2
  go_ret
  exact ⟨ret_bool hno.out.symm,HX0.out⟩
 have kh5:(d.ser != f.ser)=false:=by simp;omega
 have H1:=Lib.hid h1
 have H2:=Lib.hid h2
 have H3:=Lib.hid h3
 have H4:=Lib.hid h4
 have H5:=Lib.hid h5
 clear h1 h2 h3 h4 h5
 go_wp2
 go_loopg [5] d.opn.length (fun g s5 wr=>∃ j:Nat,j+g=d.opn.length∧s5=.int .i64 j∧d.opn.take j=f.opn.take j∧Ext W0 wr)
 case atStart=>exact ⟨0,by omega,rfl,by simp,Ext.refl W0⟩
 case round =>
  obtain ⟨j,hj,rfl,hok,hx⟩:=hrel
  have XW:=Lib.hid ((Ext.refl W0).trans hx)
  obtain ⟨m0,m1,m2,m3,m4,m5⟩:=arr6f (ext_blk XW.out HB0.out)
  obtain ⟨n0,n1,n2,n3,n4,n5⟩:=arr6f (ext_blk XW.out HB1.out)
  by_cases h:j<d.opn.length
  ·obtain ⟨s,hs⟩:∃ s,d.opn[j]?=some s:=⟨_,List.getElem?_eq_getElem h⟩
   obtain ⟨t,ht⟩:∃ s,f.opn[j]?=some s:=⟨_,List.getElem?_eq_getElem (by rw [← H2.out];exact h)⟩
   obtain ⟨ad,hA,hlA,q0,q1⟩:=reads_non (HD.out.ext XW.out).non.lst hs
   obtain ⟨bd,hB,hlB,r0,r1⟩:=reads_non (HF.out.ext XW.out).non.lst ht
   rw [hA] at m1
   rw [hB] at n1
   have hjb:(j:Int)≤1099511627776:=by have:=HD.out.non.len;omega
   have hjd:(j:Int)<(d.opn.length:Int):=by omega
   have hjf:(j:Int)<(f.opn.length:Int):=by have:=H2.out;omega
   have HJ:=Lib.hid hj
   have hXd:=Lib.hid hx.drew
   have m1':=fun n:Nat=>show (wr.drewN n).cell? _=_ from m1
   have n1':=fun n:Nat=>show (wr.drewN n).cell? _=_ from n1
   have q0':=fun n:Nat=>show (wr.drewN n).cell? _=_ from q0
   have q1':=fun n:Nat=>show (wr.drewN n).cell? _=_ from q1
   have r0':=fun n:Nat=>show (wr.drewN n).cell? _=_ from r0
   have r1':=fun n:Nat=>show (wr.drewN n).cell? _=_ from r1
   have hse:=fun w:World=>eqNon s t w
   by_cases hst:s=t
   ·have hok':Hid (d.opn.take (j+1)=f.opn.take (j+1)):=Lib.hid (take_eq_succ hs ht hok hst)
    rw [decide_eq_true hst] at hse
    clear hx hj hok hs ht hst hA hB hlA hlB
    go_wp2
    go_region
    all_goals go_wp2
    have hj:=HJ.out
    all_goals go_roundg (gk-1)
    case measure=>omega
    case rel=>exact ⟨j+1,by omega,int_congr (by omega),hok'.out,hXd.out⟩
   ·have hno:Hid (decide (d.fro=f.fro)=false):=Lib.hid (decide_eq_false fun e=>eq_no hs ht hst (fro_eq e).2.1)
    rw [decide_eq_false hst] at hse
    clear hx hj hok hs ht hst hA hB hlA hlB
    go_wp2
    go_region
    all_goals go_wp2
    all_goals go_ret
    all_goals exact ⟨ret_bool hno.out.symm,(HX0.out.trans XW.out).drew⟩
  ·obtain rfl:j=d.opn.length:=by omega
   have E2:Hid (d.opn=f.opn):=Lib.hid (by rw [List.take_length] at hok;rw [hok,H2.out,List.take_length])
   obtain ⟨W1,hW1⟩:∃ W,W=wr:=⟨_,rfl⟩
   rw [← hW1] at XW m0 m1 m2 m3 m4 m5 n0 n1 n2 n3 n4 n5 ⊢
   have X1:=XW
   clear hx hj hok hW1 h XW
   go_wp2
   go_loopg [6] d.accs.length (fun g s6 wr=>∃ j:Nat,j+g=d.accs.length∧s6=.int .i64 j∧d.accs.take j=f.accs.take j∧Ext W1 wr)
   case atStart=>exact ⟨0,by omega,rfl,by simp,Ext.refl W1⟩
   case round =>
    obtain ⟨j,hj,rfl,hok,hx⟩:=hrel
    have XW:=Lib.hid (X1.out.trans hx)
    obtain ⟨m0,m1,m2,m3,m4,m5⟩:=arr6f (ext_blk XW.out HB0.out)
    obtain ⟨n0,n1,n2,n3,n4,n5⟩:=arr6f (ext_blk XW.out HB1.out)
    by_cases h:j<d.accs.length
    ·obtain ⟨s,hs⟩:∃ s,d.accs[j]?=some s:=⟨_,List.getElem?_eq_getElem h⟩
     obtain ⟨t,ht⟩:∃ s,f.accs[j]?=some s:=⟨_,List.getElem?_eq_getElem (by rw [← H3.out];exact h)⟩
     obtain ⟨ad,hA,hlA,q0,q1⟩:=reads_acc (HD.out.ext XW.out).acc hs
     obtain ⟨bd,hB,hlB,r0,r1⟩:=reads_acc (HF.out.ext XW.out).acc ht
     rw [hA] at m2
     rw [hB] at n2
     have hjb:(j:Int)≤1099511627776:=by have:=HD.out.cl;omega
     have hjd:(j:Int)<(d.accs.length:Int):=by omega
     have hjf:(j:Int)<(f.accs.length:Int):=by have:=H3.out;omega
     have HJ:=Lib.hid hj
     have hXd:=Lib.hid hx.drew
     have m2':=fun n:Nat=>show (wr.drewN n).cell? _=_ from m2
     have n2':=fun n:Nat=>show (wr.drewN n).cell? _=_ from n2
     have q0':=fun n:Nat=>show (wr.drewN n).cell? _=_ from q0
     have q1':=fun n:Nat=>show (wr.drewN n).cell? _=_ from q1
     have r0':=fun n:Nat=>show (wr.drewN n).cell? _=_ from r0
     have r1':=fun n:Nat=>show (wr.drewN n).cell? _=_ from r1
     have hse:=fun w:World=>eqAcc s t w
     by_cases hst:s=t
     ·have hok':Hid (d.accs.take (j+1)=f.accs.take (j+1)):=Lib.hid (take_eq_succ hs ht hok hst)
      rw [decide_eq_true hst] at hse
      clear hx hj hok hs ht hst hA hB hlA hlB
      go_wp2
      go_region
      all_goals go_wp2
      have hj:=HJ.out
      all_goals go_roundg (gk-1)
      case measure=>omega
      case rel=>exact ⟨j+1,by omega,int_congr (by omega),hok'.out,hXd.out⟩
     ·have hno:Hid (decide (d.fro=f.fro)=false):=Lib.hid (decide_eq_false fun e=>eq_no hs ht hst (fro_eq e).2.2.1)
      rw [decide_eq_false hst] at hse
      clear hx hj hok hs ht hst hA hB hlA hlB
      go_wp2
      go_region
      all_goals go_wp2
      all_goals go_ret
      all_goals exact ⟨ret_bool hno.out.symm,(HX0.out.trans XW.out).drew⟩
    ·obtain rfl:j=d.accs.length:=by omega
     have E3:Hid (d.accs=f.accs):=Lib.hid (by rw [List.take_length] at hok;rw [hok,H3.out,List.take_length])
     obtain ⟨W2,hW2⟩:∃ W,W=wr:=⟨_,rfl⟩
     rw [← hW2] at XW m0 m1 m2 m3 m4 m5 n0 n1 n2 n3 n4 n5 ⊢
     have X2:=XW
     clear hx hj hok hW2 h XW
     go_wp2
     go_loopg [7] d.auts.length (fun g s7 wr=>∃ j:Nat,j+g=d.auts.length∧s7=.int .i64 j∧d.auts.take j=f.auts.take j∧Ext W2 wr)
     case atStart=>exact ⟨0,by omega,rfl,by simp,Ext.refl W2⟩
     case round =>
      obtain ⟨j,hj,rfl,hok,hx⟩:=hrel
      have XW:=Lib.hid (X2.out.trans hx)
      obtain ⟨m0,m1,m2,m3,m4,m5⟩:=arr6f (ext_blk XW.out HB0.out)
      obtain ⟨n0,n1,n2,n3,n4,n5⟩:=arr6f (ext_blk XW.out HB1.out)
      by_cases h:j<d.auts.length
      ·obtain ⟨s,hs⟩:∃ s,d.auts[j]?=some s:=⟨_,List.getElem?_eq_getElem h⟩
       obtain ⟨t,ht⟩:∃ s,f.auts[j]?=some s:=⟨_,List.getElem?_eq_getElem (by rw [← H4.out];exact h)⟩
       obtain ⟨ad,hA,hlA,q0,q1,q2,q3,q4,q5,q6⟩:=reads_aut (HD.out.ext XW.out).aut hs
       obtain ⟨bd,hB,hlB,r0,r1,r2,r3,r4,r5,r6⟩:=reads_aut (HF.out.ext XW.out).aut ht
       rw [hA] at m3
       rw [hB] at n3
       have hjb:(j:Int)≤1099511627776:=by have:=HD.out.ul;omega
       have hjd:(j:Int)<(d.auts.length:Int):=by omega
       have hjf:(j:Int)<(f.auts.length:Int):=by have:=H4.out;omega
       have HJ:=Lib.hid hj
       have hXd:=Lib.hid hx.drew
       have m3':=fun n:Nat=>show (wr.drewN n).cell? _=_ from m3
       have n3':=fun n:Nat=>show (wr.drewN n).cell? _=_ from n3
       have q0':=fun n:Nat=>show (wr.drewN n).cell? _=_ from q0
       have q1':=fun n:Nat=>show (wr.drewN n).cell? _=_ from q1
       have q2':=fun n:Nat=>show (wr.drewN n).cell? _=_ from q2
       have q3':=fun n:Nat=>show (wr.drewN n).cell? _=_ from q3
       have q4':=fun n:Nat=>show (wr.drewN n).cell? _=_ from q4
       have q5':=fun n:Nat=>show (wr.drewN n).cell? _=_ from q5
       have q6':=fun n:Nat=>show (wr.drewN n).cell? _=_ from q6
       have r0':=fun n:Nat=>show (wr.drewN n).cell? _=_ from r0
       have r1':=fun n:Nat=>show (wr.drewN n).cell? _=_ from r1
       have r2':=fun n:Nat=>show (wr.drewN n).cell? _=_ from r2
       have r3':=fun n:Nat=>show (wr.drewN n).cell? _=_ from r3
       have r4':=fun n:Nat=>show (wr.drewN n).cell? _=_ from r4
       have r5':=fun n:Nat=>show (wr.drewN n).cell? _=_ from r5
       have r6':=fun n:Nat=>show (wr.drewN n).cell? _=_ from r6
       have hse:=fun w:World=>eqAut s t w
       by_cases hst:s=t
       ·have hok':Hid (d.auts.take (j+1)=f.auts.take (j+1)):=Lib.hid (take_eq_succ hs ht hok hst)
        rw [decide_eq_true hst] at hse
        clear hx hj hok hs ht hst hA hB hlA hlB
        go_wp2
        go_region
        all_goals go_wp2
        have hj:=HJ.out
        all_goals go_roundg (gk-1)
        case measure=>omega
        case rel=>exact ⟨j+1,by omega,int_congr (by omega),hok'.out,hXd.out⟩
       ·have hno:Hid (decide (d.fro=f.fro)=false):=Lib.hid (decide_eq_false fun e=>eq_no hs ht hst (fro_eq e).2.2.2.1)
        rw [decide_eq_false hst] at hse
        clear hx hj hok hs ht hst hA hB hlA hlB
        go_wp2
        go_region
        all_goals go_wp2
        all_goals go_ret
        all_goals exact ⟨ret_bool hno.out.symm,(HX0.out.trans XW.out).drew⟩
      ·obtain rfl:j=d.auts.length:=by omega
       have E4:Hid (d.auts=f.auts):=Lib.hid (by rw [List.take_length] at hok;rw [hok,H4.out,List.take_length])
       have cO:=Orders22_any d.ords f.ords d.rA f.rA d.rc f.rc wr (HD.out.ext XW.out).ords (HF.out.ext XW.out).ords
       have HE:Hid (decide (d.ords.map (·.o)=f.ords.map (·.o))=decide (d.fro=f.fro)):=Lib.hid (by rw [decide_eq_decide];exact (fro_eq_mk H1.out E2.out E3.out E4.out H5.out).symm)
       clear hx hj hok h
       go_wp2_with (go_at_call 37;refine cO.mono ?_;clear cO;rintro e w9 ⟨rfl,x9⟩)
       go_ret
       exact ⟨ret_bool HE.out,HX0.out.trans (XW.out.trans x9)⟩
