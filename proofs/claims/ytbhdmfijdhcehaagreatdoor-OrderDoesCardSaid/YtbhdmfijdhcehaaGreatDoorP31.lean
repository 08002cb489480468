/- Parts of the proofs, put together: OrT17, OrT26. -/
import Derived.Test.YtbhdmfijdhcehaaGreatDoorP21
import Derived.Test.YtbhdmfijdhcehaaGreatDoorP24
import Derived.Test.YtbhdmfijdhcehaaGreatDoorP29
import Derived.Test.YtbhdmfijdhcehaaGreatDoorP30
set_option maxRecDepth 100000
set_option maxHeartbeats 64000000
namespace Go.Proofs.YtbhdmfijdhcehaaGreatDoor
open Go.RowKit Go.Shelf Go.Maps
set_option linter.unusedSimpArgs false
set_option linter.unusedVariables false
theorem join_yes {f:FroR} {q:QueR} {j:Nat} {x:AccR} (h:f.accs[j]?=some x) (hk:x.key=q.key) (hn:∀ y∈f.accs.take j,y.key≠q.key):joinF f q=(f,(j:Int)+1,0):=by
 have e:(f.accs.findIdx? fun a=>decide (a.key=q.key))=some j:=by
  obtain ⟨hj,rfl⟩:=List.getElem?_eq_some_iff.1 h
  rw [List.findIdx?_eq_some_iff_getElem]
  refine ⟨hj,by simpa using hk,fun i hi=>?_⟩
  have:=hn f.accs[i] (List.mem_of_getElem? (i:=i) (by rw [List.getElem?_take,if_pos hi];exact List.getElem?_eq_getElem (by omega)))
  simpa using this
 unfold joinF
 rw [e]
theorem join_no {f:FroR} {q:QueR} (hn:∀ y∈f.accs,y.key≠q.key):joinF f q=if f.accs.length=64 then bad 2 else ({ f with accs:=f.accs++[⟨(f.accs.length:Int)+1,q.key⟩] },(f.accs.length:Int)+1,0):=by
 have e:(f.accs.findIdx? fun a=>decide (a.key=q.key))=none:=by
  rw [List.findIdx?_eq_none_iff]
  intro y hy
  simpa using hn y hy
 unfold joinF
 rw [e]
theorem keyn_succ {l:List AccR} {k:Nat} {j:Nat} {x:AccR} (h:l[j]?=some x) (hn:∀ y∈l.take j,y.key≠k) (hx:x.key≠k):∀ y∈l.take (j+1),y.key≠k:=fun y hy=>by
 rw [List.take_add_one,h] at hy
 simp only [Option.toList_some,List.mem_append,List.mem_singleton] at hy
 rcases hy with hy|rfl
 ·exact hn y hy
 ·exact hx
theorem reads_blk2 {W:World} {g:Nat} {T:TypeId} {x y:Value} (k:Blk W g T #[x,y]):Reads W W.heap.size 2 (some ⟨g,0,none⟩) 1 [x,y] :=
 ⟨rfl,fun _=>⟨_,rfl,Blk.lt k,fun j u hj=>by
  match j,hj with
  | 0,hj=>simp at hj;subst hj;simpa [Addr.add] using k.cell 0
  | 1,hj=>simp at hj;subst hj;simpa [Addr.add] using k.cell 1⟩⟩
theorem raccount_any (d:DoorX) (q:QueR) (A:Option Addr) (c:Nat) (w:World) (hw:DoorW w w.heap.size d) (hq:QueW w w.heap.size q A c) (ha9:d.accs.length<100) :
  Calls Tryz.prog 57 #[frontV d,queV q A c] w (outD d (joinF d.fro q) w):=by
 obtain ⟨W1,W0,e0,e1,b0,b1,x1,s1,b2,x2⟩:=start3r w #[.int .i64 d.next,.slice d.oA d.opn.length d.oc,.slice d.cA d.accs.length d.cc,.slice d.uA d.auts.length d.uc,.slice d.rA d.ords.length d.rc,.int .i64 d.ser] #[.int .i64 q.kind,.int .i64 q.acc,.int .i64 q.nonce,.int .u64 (q.key:Int),.slice A q.names.length c,.int .i64 q.life,.int .i64 q.id,.int .u64 (q.e:Int),.int .u64 (q.s:Int)] #[.int .i64 0,.slice none 0 0,.slice none 0 0,.slice none 0 0,.slice none 0 0,.int .i64 0] 43 27 43
 have HW:=Lib.hid (hw.ext (x1.trans x2))
 have HW_:=Lib.hid hw
 have HQK:=Lib.hid hq.key
 have HB0:=Lib.hid (ext_blk x2 b0)
 have HB1:=Lib.hid (ext_blk x2 b1)
 have HB2:=Lib.hid b2
 have HX0:=Lib.hid (x1.trans x2)
 have HSZ:Hid (w.heap.size+3≤W0.heap.size):=Lib.hid (by have:=b2.lt;omega)
 have E0:=Lib.hid e0
 have HA9:=Lib.hid ha9
 unfold frontV queV
 clear e0 e1 b0 b1 x1 s1 b2 x2 hw hq ha9
 go_enter Tryz.func57,Tryz.ntmps57
 go_upto_region 1 with (fail)
 have e0:=E0.out
 rw [e0]
 clear e0 E0
 go_wp2
 go_loopg [7] d.accs.length (fun m s7 wr=>∃ j:Nat,j+m=d.accs.length∧s7=.int .i64 j∧(∀ y∈d.accs.take j,y.key≠q.key)∧Ext W0 wr)
 case atStart=>exact ⟨0,by omega,rfl,by simp,Ext.refl W0⟩
 case round =>
  obtain ⟨j,hj,rfl,hok,hx⟩:=hrel
  have hjb:(j:Int)≤1000:=by have:=HA9.out;omega
  obtain ⟨m0,m1,m2,m3,m4,m5⟩:=arr6f (ext_blk hx HB0.out)
  have y3:=(ext_blk hx HB1.out).cell 3
  by_cases h:j<d.accs.length
  ·obtain ⟨x,hs⟩:∃ s,d.accs[j]?=some s:=⟨_,List.getElem?_eq_getElem h⟩
   obtain ⟨ad,hA,hlt,q0,q1⟩:=reads_acc (HW.out.ext hx).acc hs
   rw [hA] at m2
   have hjl:(j:Int)<(d.accs.length:Int):=by omega
   have HSO:=Lib.hid hs
   have HO:=Lib.hid hok
   have HX:=Lib.hid hx
   have HJ:=Lib.hid hj
   have j0:=fun i:Later wr=>i.cell m2
   have j1:=fun i:Later wr=>i.cell q1
   have j2:=fun i:Later wr=>i.cell y3
   clear hx hj hs hok hA hlt h m0 m1 m3 m4 m5 q0
   by_cases g1:x.key=q.key
   ·have d1:((x.key:Int)==(q.key:Int))=true:=by simp [g1]
    have d1n:(x.key==q.key)=true:=by simp [g1]
    have HR:=Lib.hid (join_yes (f:=d.fro) HSO.out g1 HO.out)
    clear g1
    go_wp2
    clear m2 q1 y3
    refine wp_region_later (by kernel_rfl) (by kernel_rfl) ?_
    repeat (go_big_quiet_step ((fail)))
    refine wpQuiet_nil ?_
    rintro W2 ⟨p,hp⟩
    have HX2:Hid (Ext W0 W2):=Lib.hid (by rw [hp];exact HX.out.trans p.ext)
    clear hp p j0 j1 j2
    obtain ⟨m0,m1,m2,m3,m4,m5⟩:=arr6f (ext_blk HX2.out HB0.out)
    have b2:=ext_blk HX2.out HB2.out
    obtain ⟨z0,z1,z2,z3,z4,z5,f0,f1,f2,f3,f4,f5⟩:=st6 b2
    have BB:=Lib.hid (blk6 b2 (.int .i64 d.next) (.slice d.oA d.opn.length d.oc) (.slice d.cA d.accs.length d.cc) (.slice d.uA d.auts.length d.uc) (.slice d.rA d.ords.length d.rc) (.int .i64 d.ser))
    clear b2
    go_wp2
    rw [HR.out]
    obtain ⟨r0,r1,r2,r3,r4,r5⟩:=arr6f BB.out
    refine bodyPost_ret (v:=.tuple #[.agg #[.int .i64 d.next,.slice d.oA d.opn.length d.oc,.slice d.cA d.accs.length d.cc,.slice d.uA d.auts.length d.uc,.slice d.rA d.ords.length d.rc,.int .i64 d.ser],.int .i64 ((j:Int)+1),.int .i64 0]) (by simp [results,Tryz.results57,go_sem,r0,r1,r2,r3,r4,r5]) rfl ⟨d,rfl,rfl,((HW.out.ext (HX2.out)).grownTo (HW_.out.lies.mono (fun b hb=>(by omega:b≠w.heap.size+2))) (grown6 _ (w.heap.size+2) (.int .i64 d.next) (.slice d.oA d.opn.length d.oc) (.slice d.cA d.accs.length d.cc) (.slice d.uA d.auts.length d.uc) (.slice d.rA d.ords.length d.rc) (.int .i64 d.ser))),fun S hS=>hS.mono (fun b hb=>.inl hb),ext6 (HX0.out.trans (HX2.out)) (by omega) (.int .i64 d.next) (.slice d.oA d.opn.length d.oc) (.slice d.cA d.accs.length d.cc) (.slice d.uA d.auts.length d.uc) (.slice d.rA d.ords.length d.rc) (.int .i64 d.ser)⟩
   ·have d1:((x.key:Int)==(q.key:Int))=false:=by simp;omega
    have d1n:(x.key==q.key)=false:=by simp [g1]
    have HT:=Lib.hid (keyn_succ HSO.out HO.out g1)
    clear g1
    go_wp2
    clear m2 q1 y3
    refine wp_region_later (by kernel_rfl) (by kernel_rfl) ?_
    repeat (go_big_quiet_step ((fail)))
    refine wpQuiet_nil ?_
    rintro W2 ⟨p,hp⟩
    have HX2:Hid (Ext W0 W2):=Lib.hid (by rw [hp];exact HX.out.trans p.ext)
    clear hp p j0 j1 j2
    go_wp2
    have hj:=HJ.out
    go_roundg (gk-1)
    case measure=>omega
    case rel=>exact ⟨j+1,by omega,int_congr (by omega),HT.out,HX2.out⟩
  ·obtain rfl:j=d.accs.length:=by omega
   rw [List.take_length] at hok
   have HRS:=Lib.hid (join_no (f:=d.fro) hok)
   have HX:=Lib.hid hx
   obtain ⟨Wb,hWb⟩:∃ W,W=wr:=⟨_,rfl⟩
   rw [← hWb] at HX m0 m1 m2 m3 m4 m5 y3 ⊢
   clear hx hj h hok hWb
   by_cases g6:d.accs.length=64
   ·have d1:((d.accs.length:Int)==64)=true:=by simp [g6]
    have HR:=Lib.hid (HRS.out.trans (if_pos (show d.fro.accs.length=64 from g6)))
    clear g6
    have b2:=ext_blk (HX.out) HB2.out
    obtain ⟨z0,z1,z2,z3,z4,z5,f0,f1,f2,f3,f4,f5⟩:=st6 b2
    have BB:=Lib.hid (blk6 b2 (.int .i64 0) (.slice none 0 0) (.slice none 0 0) (.slice none 0 0) (.slice none 0 0) (.int .i64 0))
    clear b2
    go_wp2
    rw [HR.out]
    obtain ⟨r0,r1,r2,r3,r4,r5⟩:=arr6f BB.out
    refine bodyPost_ret (v:=.tuple #[.agg #[.int .i64 0,.slice none 0 0,.slice none 0 0,.slice none 0 0,.slice none 0 0,.int .i64 0],.int .i64 0,.int .i64 2]) (by simp [results,Tryz.results57,go_sem,r0,r1,r2,r3,r4,r5]) rfl (outD_bad rfl (ext6 (HX0.out.trans (HX.out)) (by omega) _ _ _ _ _ _))
   have d1:((d.accs.length:Int)==64)=false:=by simp;omega
   have HR:=Lib.hid (HRS.out.trans (if_neg (show ¬ d.fro.accs.length=64 from g6)))
   have ks:IntKind.i64.wrap ((d.accs.length:Int)+1)=(d.accs.length:Int)+1:=by rw [IntKind.wrap_i64];omega
   obtain ⟨i0,hi,hz0,hz1,hz2⟩:=info_parts Tryz.infoAcc
   clear g6
   go_upto_region 9 with (fail)
   have HC:Hid (∀ W,Ext Wb W→(W.cell? ⟨w.heap.size,2,none⟩=some (.slice d.cA d.accs.length d.cc)∧W.cell? ⟨w.heap.size+1,3,none⟩=some (.int .u64 (q.key:Int)))):=Lib.hid fun W y=>⟨y.cell m2,y.cell y3⟩
   have HRD:Hid (∀ W,Ext Wb W→Reads W W.heap.size 2 d.cA d.accs.length (accV d.accs)):=Lib.hid fun W y=>(HW.out.ext (HX.out.trans y)).acc
   have HSB:Hid (w.heap.size+3≤Wb.heap.size):=Lib.hid (by have:=HSZ.out;have:=HX.out.size;omega)
   have hal:d.accs.length<100:=HA9.out
   clear m0 m1 m2 m3 m4 m5 y3
   refine E_start (n:=12) (ls:=#[false,false,false,false,false,false,false,false,false,false,false,false]) (fun w'=>w'.cell? ⟨w.heap.size,2,none⟩=some (.slice d.cA d.accs.length d.cc)∧w'.cell? ⟨w.heap.size+1,3,none⟩=some (.int .u64 (q.key:Int))) 11 (by kernel_rfl) (by kernel_rfl) (by kernel_rfl) (HC.out _ (Ext.refl Wb).drew) (fun hHeld=>?_)
   refine E_tk (i:=1) (some 38) (v:=?_) rfl rfl (by kernel_rfl) hHeld (fun w hSw=>?_) ?_;rotate_left 1
   ·(try dsimp only at hSw);go_simp;try with_reducible rfl
   try simp only [Act.put,zpA,zpB,zpC]
   refine E_tk (i:=2) (some 39) (v:=?_) rfl rfl (by kernel_rfl) hHeld (fun w hSw=>?_) ?_;rotate_left 1
   ·(try dsimp only at hSw);go_simp;try with_reducible rfl
   try simp only [Act.put,zpA,zpB,zpC]
   refine E_tk (i:=4) (some 41) (v:=?_) rfl rfl (by kernel_rfl) hHeld (fun w hSw=>?_) ?_;rotate_left 1
   ·(try dsimp only at hSw);go_simp;try with_reducible rfl
   try simp only [Act.put,zpA,zpB,zpC]
   refine E_tk (i:=5) (some 42) (v:=?_) rfl rfl (by kernel_rfl) hHeld (fun w hSw=>?_) ?_;rotate_left 1
   ·(try dsimp only at hSw);go_simp;try with_reducible rfl
   try simp only [Act.put,zpA,zpB,zpC]
   refine E_tk (i:=6) (some 43) (v:=?_) rfl rfl (by kernel_rfl) hHeld (fun w hSw=>?_) ?_;rotate_left 1
   ·(try dsimp only at hSw);go_simp;try with_reducible rfl
   try simp only [Act.put,zpA,zpB,zpC]
   refine E_tk (i:=7) (some 44) (v:=?_) rfl rfl (by kernel_rfl) hHeld (fun w hSw=>?_) ?_;rotate_left 1
   ·(try dsimp only at hSw);go_simp;try with_reducible rfl
   try simp only [Act.put,zpA,zpB,zpC]
   refine E_tw (i:=0) (k:=8) rfl rfl (by kernel_rfl) (by kernel_rfl) (by kernel_rfl) (fun K hK=>?_) (fun K hK=>?_)
   ·go_simp
    replace hHeld:=HC.out _ (((Ext.refl Wb).drew).alloc (.cells #[] 75))
    refine hK _ _ (fun _=>hHeld) ?_
    clear hK K
    try simp only [Act.put,zpA,zpB,zpC]
    refine E_tw (i:=3) (k:=8) rfl rfl (by kernel_rfl) (by kernel_rfl) (by kernel_rfl) (fun K hK=>?_) (fun K hK=>?_)
    ·refine wp_append_any _ (.tmp 37) (.tmp 39) 39 rfl Wb.heap.size 75 i0 (.agg #[.int .i64 0,.int .u64 0]) 2 16 Tryz.underlying39 hi hz0 hz1 hz2 rfl (by decide) (.slice (some ⟨Wb.heap.size,0,none⟩) 0 0) 0 [] rfl (own_empty Wb.drew Wb.heap.size Wb.heap.size rfl (Nat.le_refl _) 75 2) _ d.cA d.accs.length d.cc (accV d.accs) rfl (HRD.out _ (((Ext.refl Wb).drew).alloc (.cells #[] 75))) (accV_one _) (by simp only [maxLen];omega) (by omega) (by simp;try omega) ?_
     intro v8 w8 hown8 hg8 _
     rw [Nat.zero_add,List.nil_append] at hown8
     have HX8:Hid (Ext Wb w8):=Lib.hid (ext_grown (((Ext.refl Wb).drew).alloc (.cells #[] 75)) (own_empty Wb.drew Wb.heap.size Wb.heap.size rfl (Nat.le_refl _) 75 2) hg8)
     have O8:=Lib.hid hown8
     clear hown8 hg8
     replace hHeld:=HC.out _ HX8.out
     refine hK _ _ (fun _=>hHeld) ?_
     clear hK K
     try simp only [Act.put,zpA,zpB,zpC]
     refine E_on (i:=8) rfl (by kernel_rfl) (by kernel_rfl) (fun K hK=>?_)
     go_simp
     replace hHeld:=HC.out _ (HX8.out.alloc (.cells #[.int .i64 ((d.accs.length:Int)+1),.int .u64 (q.key:Int)] 75))
     refine hK _ _ (fun _=>hHeld) ?_
     clear hK K
     try simp only [Act.put,zpA,zpB,zpC]
     refine E_on (i:=9) rfl (by kernel_rfl) (by kernel_rfl) (fun K hK=>?_)
     refine wp_append_any _ (.tmp 40) (.tmp 45) 39 rfl Wb.heap.size 75 i0 (.agg #[.int .i64 0,.int .u64 0]) 2 16 Tryz.underlying39 hi hz0 hz1 hz2 rfl (by decide) v8 d.accs.length (accV d.accs) rfl (O8.out.alloc _) _ (some ⟨w8.heap.size,0,none⟩) 1 1 [.int .i64 ((d.accs.length:Int)+1),.int .u64 (q.key:Int)] rfl (reads_new2 w8 75 _ _) (by simp [Value.oneCell']) (by simp only [maxLen];omega) (by omega) (by have:=HX8.out.size;simp;try omega) ?_
     intro v9 w9 hown9 hg9 _
     have HX9:Hid (Ext Wb w9):=Lib.hid (ext_grown (HX8.out.alloc _) (O8.out.alloc _) hg9)
     obtain ⟨A9,c9,rfl,hc9,-⟩:=own_slice2 hown9
     have HC9:=Lib.hid hc9
     have O9:=Lib.hid hown9
     have f9:=(ext_blk (HX.out.trans HX9.out) HB0.out).frozen 2
     clear hown9 hg9 hc9
     replace hHeld:=HC.out _ HX9.out
     refine hK _ _ (fun _=>hHeld) ?_
     clear hK K
     try simp only [Act.put,zpA,zpB,zpC]
     refine E_on (i:=10) rfl (by kernel_rfl) (by kernel_rfl) (fun K hK=>?_)
     go_simp
     refine hK _ _ (fun _=>hHeld) ?_
     clear hK K
     try simp only [Act.put,zpA,zpB,zpC]
     refine E_on (i:=11) rfl (by kernel_rfl) (by kernel_rfl) (fun K hK=>?_)
     go_simp
     refine hK _ _ (fun h=>absurd rfl h) ?_
     clear hK K
     try simp only [Act.put,zpA,zpB,zpC]
     refine E_done (by kernel_rfl) ?_
     clear hHeld f9
     obtain ⟨W9,e9⟩:∃ W,W=w9.setCell ⟨w.heap.size,2,none⟩ (.slice A9 (d.accs.length+1) c9):=⟨_,rfl⟩
     rw [← e9]
     have HB09:Hid (Blk W9 w.heap.size 43 #[.int .i64 d.next,.slice d.oA d.opn.length d.oc,.slice A9 (d.accs.length+1) c9,.slice d.uA d.auts.length d.uc,.slice d.rA d.ords.length d.rc,.int .i64 d.ser]):=Lib.hid (by rw [e9];exact (ext_blk (HX.out.trans HX9.out) HB0.out).set_ 2 _)
     have b29:Blk W9 (w.heap.size+2) 43 #[.int .i64 0,.slice none 0 0,.slice none 0 0,.slice none 0 0,.slice none 0 0,.int .i64 0]:=by rw [e9];exact (ext_blk (HX.out.trans HX9.out) HB2.out).far (p:=⟨w.heap.size,2,none⟩) (by simp) _
     have HO9:Hid (W9.ownsRow Wb.heap.size 75 2 (.slice A9 (d.accs.length+1) c9) (d.accs.length+1) (accV d.accs++[.int .i64 ((d.accs.length:Int)+1),.int .u64 (q.key:Int)])):=Lib.hid (by rw [e9];exact own_far O9.out (by have:=HSB.out;omega) 2 _)
     have HX09:Hid (Ext w W9):=Lib.hid (by rw [e9];exact (HX0.out.trans (HX.out.trans HX9.out)).setCell (Nat.le_refl _) _)
     clear e9 O9
     obtain ⟨m0,m1,m2,m3,m4,m5⟩:=arr6f HB09.out
     obtain ⟨z0,z1,z2,z3,z4,z5,f0,f1,f2,f3,f4,f5⟩:=st6 b29
     have BB:=Lib.hid (blk6 b29 (.int .i64 d.next) (.slice d.oA d.opn.length d.oc) (.slice A9 (d.accs.length+1) c9) (.slice d.uA d.auts.length d.uc) (.slice d.rA d.ords.length d.rc) (.int .i64 d.ser))
     clear b29
     go_wp2
     rw [HR.out]
     obtain ⟨r0,r1,r2,r3,r4,r5⟩:=arr6f BB.out
     have hsb:=HSB.out
     have hlen:(d.accs++[AccR.mk ((d.accs.length:Int)+1) q.key]).length=d.accs.length+1:=by simp
     have o10:=own_far (own_far (own_far (own_far (own_far (own_far HO9.out (g:=w.heap.size+2) (by omega) 0 (.int .i64 d.next)) (g:=w.heap.size+2) (by omega) 1 (.slice d.oA d.opn.length d.oc)) (g:=w.heap.size+2) (by omega) 2 (.slice A9 (d.accs.length+1) c9)) (g:=w.heap.size+2) (by omega) 3 (.slice d.uA d.auts.length d.uc)) (g:=w.heap.size+2) (by omega) 4 (.slice d.rA d.ords.length d.rc)) (g:=w.heap.size+2) (by omega) 5 (.int .i64 d.ser)
     rw [show accV d.accs++[.int .i64 ((d.accs.length:Int)+1),.int .u64 (q.key:Int)]=accV (d.accs++[AccR.mk ((d.accs.length:Int)+1) q.key]) by rw [accV_append];rfl] at o10
     have xx0:=ext6 HX09.out (g:=w.heap.size+2) (by omega) (.int .i64 d.next) (.slice d.oA d.opn.length d.oc) (.slice A9 (d.accs.length+1) c9) (.slice d.uA d.auts.length d.uc) (.slice d.rA d.ords.length d.rc) (.int .i64 d.ser)
     have hr:=Reads.of_own o10
     refine bodyPost_ret (v:=.tuple #[.agg #[.int .i64 d.next,.slice d.oA d.opn.length d.oc,.slice A9 (d.accs.length+1) c9,.slice d.uA d.auts.length d.uc,.slice d.rA d.ords.length d.rc,.int .i64 d.ser],.int .i64 ((d.accs.length:Int)+1),.int .i64 0]) (by simp [results,Tryz.results57,go_sem,r0,r1,r2,r3,r4,r5]) rfl ⟨withC d (d.accs++[AccR.mk ((d.accs.length:Int)+1) q.key]) A9 c9,?_,rfl,?_,fun S hS=>?_,xx0⟩
     ·unfold frontV withC
      simp only
      rw [hlen]
      rfl
     ·refine withC_w (HW_.out.ext xx0) (by rw [hlen];exact hr) (by rw [hlen];exact HC9.out) (by rw [hlen];omega) (fun y hy=>?_)
      rcases List.mem_append.1 hy with hy|hy
      ·exact HW_.out.cw y hy
      ·rw [List.mem_singleton] at hy
       subst hy
       exact ⟨wf64_of (by simp only;omega) (by simp only;omega),HQK.out⟩
     ·refine withC_l hS (fun k hk=>.inl hk) ?_
      rw [hlen]
      exact Lies.own o10 (fun k hk=>.inr (by omega))
    ·go_simp
     replace hHeld:=HC.out _ ((((Ext.refl Wb).drew).alloc (.cells #[] 75)).alloc (.cells #[.int .i64 ((d.accs.length:Int)+1),.int .u64 (q.key:Int)] 75))
     refine hK _ _ (fun _=>hHeld) ?_
     clear hK K
     try simp only [Act.put,zpA,zpB,zpC]
     refine E_on (i:=3) rfl (by kernel_rfl) (by kernel_rfl) (fun K hK=>?_)
     refine wp_append_any _ (.tmp 37) (.tmp 39) 39 rfl Wb.heap.size 75 i0 (.agg #[.int .i64 0,.int .u64 0]) 2 16 Tryz.underlying39 hi hz0 hz1 hz2 rfl (by decide) (.slice (some ⟨Wb.heap.size,0,none⟩) 0 0) 0 [] rfl ((own_empty Wb.drew Wb.heap.size Wb.heap.size rfl (Nat.le_refl _) 75 2).alloc (.cells #[.int .i64 ((d.accs.length:Int)+1),.int .u64 (q.key:Int)] 75)) _ d.cA d.accs.length d.cc (accV d.accs) rfl (HRD.out _ ((((Ext.refl Wb).drew).alloc (.cells #[] 75)).alloc (.cells #[.int .i64 ((d.accs.length:Int)+1),.int .u64 (q.key:Int)] 75))) (accV_one _) (by simp only [maxLen];omega) (by omega) (by simp;try omega) ?_
     intro v8 w8 hown8 hg8 _
     rw [Nat.zero_add,List.nil_append] at hown8
     have HX8:Hid (Ext Wb w8):=Lib.hid (ext_grown ((((Ext.refl Wb).drew).alloc (.cells #[] 75)).alloc (.cells #[.int .i64 ((d.accs.length:Int)+1),.int .u64 (q.key:Int)] 75)) ((own_empty Wb.drew Wb.heap.size Wb.heap.size rfl (Nat.le_refl _) 75 2).alloc (.cells #[.int .i64 ((d.accs.length:Int)+1),.int .u64 (q.key:Int)] 75)) hg8)
     have O8:=Lib.hid hown8
     have hb8:=Blk.grown (Blk.new (Wb.drew.alloc (.cells #[] 75)) 75 #[.int .i64 ((d.accs.length:Int)+1),.int .u64 (q.key:Int)]) hg8 (by simp [Value.ownBlock])
     rw [show (Wb.drew.alloc (.cells #[] 75)).heap.size=Wb.heap.size+1 by simp] at hb8
     have B8:=Lib.hid (reads_blk2 hb8)
     clear hb8
     clear hown8 hg8
     replace hHeld:=HC.out _ HX8.out
     refine hK _ _ (fun _=>hHeld) ?_
     clear hK K
     try simp only [Act.put,zpA,zpB,zpC]
     refine E_on (i:=9) rfl (by kernel_rfl) (by kernel_rfl) (fun K hK=>?_)
     refine wp_append_any _ (.tmp 40) (.tmp 45) 39 rfl Wb.heap.size 75 i0 (.agg #[.int .i64 0,.int .u64 0]) 2 16 Tryz.underlying39 hi hz0 hz1 hz2 rfl (by decide) v8 d.accs.length (accV d.accs) rfl (O8.out) _ (some ⟨Wb.heap.size+1,0,none⟩) 1 1 [.int .i64 ((d.accs.length:Int)+1),.int .u64 (q.key:Int)] rfl (B8.out) (by simp [Value.oneCell']) (by simp only [maxLen];omega) (by omega) (by have:=HX8.out.size;simp;try omega) ?_
     intro v9 w9 hown9 hg9 _
     have HX9:Hid (Ext Wb w9):=Lib.hid (ext_grown (HX8.out) (O8.out) hg9)
     obtain ⟨A9,c9,rfl,hc9,-⟩:=own_slice2 hown9
     have HC9:=Lib.hid hc9
     have O9:=Lib.hid hown9
     have f9:=(ext_blk (HX.out.trans HX9.out) HB0.out).frozen 2
     clear hown9 hg9 hc9
     replace hHeld:=HC.out _ HX9.out
     refine hK _ _ (fun _=>hHeld) ?_
     clear hK K
     try simp only [Act.put,zpA,zpB,zpC]
     refine E_on (i:=10) rfl (by kernel_rfl) (by kernel_rfl) (fun K hK=>?_)
     go_simp
     refine hK _ _ (fun _=>hHeld) ?_
     clear hK K
     try simp only [Act.put,zpA,zpB,zpC]
     refine E_on (i:=11) rfl (by kernel_rfl) (by kernel_rfl) (fun K hK=>?_)
     go_simp
     refine hK _ _ (fun h=>absurd rfl h) ?_
     clear hK K
     try simp only [Act.put,zpA,zpB,zpC]
     refine E_done (by kernel_rfl) ?_
     clear hHeld f9
     obtain ⟨W9,e9⟩:∃ W,W=w9.setCell ⟨w.heap.size,2,none⟩ (.slice A9 (d.accs.length+1) c9):=⟨_,rfl⟩
     rw [← e9]
     have HB09:Hid (Blk W9 w.heap.size 43 #[.int .i64 d.next,.slice d.oA d.opn.length d.oc,.slice A9 (d.accs.length+1) c9,.slice d.uA d.auts.length d.uc,.slice d.rA d.ords.length d.rc,.int .i64 d.ser]):=Lib.hid (by rw [e9];exact (ext_blk (HX.out.trans HX9.out) HB0.out).set_ 2 _)
     have b29:Blk W9 (w.heap.size+2) 43 #[.int .i64 0,.slice none 0 0,.slice none 0 0,.slice none 0 0,.slice none 0 0,.int .i64 0]:=by rw [e9];exact (ext_blk (HX.out.trans HX9.out) HB2.out).far (p:=⟨w.heap.size,2,none⟩) (by simp) _
     have HO9:Hid (W9.ownsRow Wb.heap.size 75 2 (.slice A9 (d.accs.length+1) c9) (d.accs.length+1) (accV d.accs++[.int .i64 ((d.accs.length:Int)+1),.int .u64 (q.key:Int)])):=Lib.hid (by rw [e9];exact own_far O9.out (by have:=HSB.out;omega) 2 _)
     have HX09:Hid (Ext w W9):=Lib.hid (by rw [e9];exact (HX0.out.trans (HX.out.trans HX9.out)).setCell (Nat.le_refl _) _)
     clear e9 O9
     obtain ⟨m0,m1,m2,m3,m4,m5⟩:=arr6f HB09.out
     obtain ⟨z0,z1,z2,z3,z4,z5,f0,f1,f2,f3,f4,f5⟩:=st6 b29
     have BB:=Lib.hid (blk6 b29 (.int .i64 d.next) (.slice d.oA d.opn.length d.oc) (.slice A9 (d.accs.length+1) c9) (.slice d.uA d.auts.length d.uc) (.slice d.rA d.ords.length d.rc) (.int .i64 d.ser))
     clear b29
     go_wp2
     rw [HR.out]
     obtain ⟨r0,r1,r2,r3,r4,r5⟩:=arr6f BB.out
     have hsb:=HSB.out
     have hlen:(d.accs++[AccR.mk ((d.accs.length:Int)+1) q.key]).length=d.accs.length+1:=by simp
     have o10:=own_far (own_far (own_far (own_far (own_far (own_far HO9.out (g:=w.heap.size+2) (by omega) 0 (.int .i64 d.next)) (g:=w.heap.size+2) (by omega) 1 (.slice d.oA d.opn.length d.oc)) (g:=w.heap.size+2) (by omega) 2 (.slice A9 (d.accs.length+1) c9)) (g:=w.heap.size+2) (by omega) 3 (.slice d.uA d.auts.length d.uc)) (g:=w.heap.size+2) (by omega) 4 (.slice d.rA d.ords.length d.rc)) (g:=w.heap.size+2) (by omega) 5 (.int .i64 d.ser)
     rw [show accV d.accs++[.int .i64 ((d.accs.length:Int)+1),.int .u64 (q.key:Int)]=accV (d.accs++[AccR.mk ((d.accs.length:Int)+1) q.key]) by rw [accV_append];rfl] at o10
     have xx0:=ext6 HX09.out (g:=w.heap.size+2) (by omega) (.int .i64 d.next) (.slice d.oA d.opn.length d.oc) (.slice A9 (d.accs.length+1) c9) (.slice d.uA d.auts.length d.uc) (.slice d.rA d.ords.length d.rc) (.int .i64 d.ser)
     have hr:=Reads.of_own o10
     refine bodyPost_ret (v:=.tuple #[.agg #[.int .i64 d.next,.slice d.oA d.opn.length d.oc,.slice A9 (d.accs.length+1) c9,.slice d.uA d.auts.length d.uc,.slice d.rA d.ords.length d.rc,.int .i64 d.ser],.int .i64 ((d.accs.length:Int)+1),.int .i64 0]) (by simp [results,Tryz.results57,go_sem,r0,r1,r2,r3,r4,r5]) rfl ⟨withC d (d.accs++[AccR.mk ((d.accs.length:Int)+1) q.key]) A9 c9,?_,rfl,?_,fun S hS=>?_,xx0⟩
     ·unfold frontV withC
      simp only
      rw [hlen]
      rfl
     ·refine withC_w (HW_.out.ext xx0) (by rw [hlen];exact hr) (by rw [hlen];exact HC9.out) (by rw [hlen];omega) (fun y hy=>?_)
      rcases List.mem_append.1 hy with hy|hy
      ·exact HW_.out.cw y hy
      ·rw [List.mem_singleton] at hy
       subst hy
       exact ⟨wf64_of (by simp only;omega) (by simp only;omega),HQK.out⟩
     ·refine withC_l hS (fun k hk=>.inl hk) ?_
      rw [hlen]
      exact Lies.own o10 (fun k hk=>.inr (by omega))
   ·go_simp
    replace hHeld:=HC.out _ (((Ext.refl Wb).drew).alloc (.cells #[.int .i64 ((d.accs.length:Int)+1),.int .u64 (q.key:Int)] 75))
    refine hK _ _ (fun _=>hHeld) ?_
    clear hK K
    try simp only [Act.put,zpA,zpB,zpC]
    refine E_on (i:=0) rfl (by kernel_rfl) (by kernel_rfl) (fun K hK=>?_)
    go_simp
    replace hHeld:=HC.out _ ((((Ext.refl Wb).drew).alloc (.cells #[.int .i64 ((d.accs.length:Int)+1),.int .u64 (q.key:Int)] 75)).alloc (.cells #[] 75))
    refine hK _ _ (fun _=>hHeld) ?_
    clear hK K
    try simp only [Act.put,zpA,zpB,zpC]
    refine E_on (i:=3) rfl (by kernel_rfl) (by kernel_rfl) (fun K hK=>?_)
    refine wp_append_any _ (.tmp 37) (.tmp 39) 39 rfl Wb.heap.size 75 i0 (.agg #[.int .i64 0,.int .u64 0]) 2 16 Tryz.underlying39 hi hz0 hz1 hz2 rfl (by decide) (.slice (some ⟨Wb.heap.size+1,0,none⟩) 0 0) 0 [] rfl (own_empty (Wb.drew.alloc (.cells #[.int .i64 ((d.accs.length:Int)+1),.int .u64 (q.key:Int)] 75)) Wb.heap.size (Wb.heap.size+1) (by simp) (by omega) 75 2) _ d.cA d.accs.length d.cc (accV d.accs) rfl (HRD.out _ ((((Ext.refl Wb).drew).alloc (.cells #[.int .i64 ((d.accs.length:Int)+1),.int .u64 (q.key:Int)] 75)).alloc (.cells #[] 75))) (accV_one _) (by simp only [maxLen];omega) (by omega) (by simp;try omega) ?_
    intro v8 w8 hown8 hg8 _
    rw [Nat.zero_add,List.nil_append] at hown8
    have HX8:Hid (Ext Wb w8):=Lib.hid (ext_grown ((((Ext.refl Wb).drew).alloc (.cells #[.int .i64 ((d.accs.length:Int)+1),.int .u64 (q.key:Int)] 75)).alloc (.cells #[] 75)) (own_empty (Wb.drew.alloc (.cells #[.int .i64 ((d.accs.length:Int)+1),.int .u64 (q.key:Int)] 75)) Wb.heap.size (Wb.heap.size+1) (by simp) (by omega) 75 2) hg8)
    have O8:=Lib.hid hown8
    have B8:=Lib.hid (reads_blk2 (Blk.grown ((Blk.new Wb.drew 75 #[.int .i64 ((d.accs.length:Int)+1),.int .u64 (q.key:Int)]).alloc (.cells #[] 75)) hg8 (by simp [Value.ownBlock])))
    clear hown8 hg8
    replace hHeld:=HC.out _ HX8.out
    refine hK _ _ (fun _=>hHeld) ?_
    clear hK K
    try simp only [Act.put,zpA,zpB,zpC]
    refine E_on (i:=9) rfl (by kernel_rfl) (by kernel_rfl) (fun K hK=>?_)
    refine wp_append_any _ (.tmp 40) (.tmp 45) 39 rfl Wb.heap.size 75 i0 (.agg #[.int .i64 0,.int .u64 0]) 2 16 Tryz.underlying39 hi hz0 hz1 hz2 rfl (by decide) v8 d.accs.length (accV d.accs) rfl (O8.out) _ (some ⟨Wb.heap.size,0,none⟩) 1 1 [.int .i64 ((d.accs.length:Int)+1),.int .u64 (q.key:Int)] rfl (B8.out) (by simp [Value.oneCell']) (by simp only [maxLen];omega) (by omega) (by have:=HX8.out.size;simp;try omega) ?_
    intro v9 w9 hown9 hg9 _
    have HX9:Hid (Ext Wb w9):=Lib.hid (ext_grown (HX8.out) (O8.out) hg9)
    obtain ⟨A9,c9,rfl,hc9,-⟩:=own_slice2 hown9
    have HC9:=Lib.hid hc9
    have O9:=Lib.hid hown9
    have f9:=(ext_blk (HX.out.trans HX9.out) HB0.out).frozen 2
    clear hown9 hg9 hc9
    replace hHeld:=HC.out _ HX9.out
    refine hK _ _ (fun _=>hHeld) ?_
    clear hK K
    try simp only [Act.put,zpA,zpB,zpC]
    refine E_on (i:=10) rfl (by kernel_rfl) (by kernel_rfl) (fun K hK=>?_)
    go_simp
    refine hK _ _ (fun _=>hHeld) ?_
    clear hK K
    try simp only [Act.put,zpA,zpB,zpC]
    refine E_on (i:=11) rfl (by kernel_rfl) (by kernel_rfl) (fun K hK=>?_)
    go_simp
    refine hK _ _ (fun h=>absurd rfl h) ?_
    clear hK K
    try simp only [Act.put,zpA,zpB,zpC]
    refine E_done (by kernel_rfl) ?_
    clear hHeld f9
    obtain ⟨W9,e9⟩:∃ W,W=w9.setCell ⟨w.heap.size,2,none⟩ (.slice A9 (d.accs.length+1) c9):=⟨_,rfl⟩
    rw [← e9]
    have HB09:Hid (Blk W9 w.heap.size 43 #[.int .i64 d.next,.slice d.oA d.opn.length d.oc,.slice A9 (d.accs.length+1) c9,.slice d.uA d.auts.length d.uc,.slice d.rA d.ords.length d.rc,.int .i64 d.ser]):=Lib.hid (by rw [e9];exact (ext_blk (HX.out.trans HX9.out) HB0.out).set_ 2 _)
    have b29:Blk W9 (w.heap.size+2) 43 #[.int .i64 0,.slice none 0 0,.slice none 0 0,.slice none 0 0,.slice none 0 0,.int .i64 0]:=by rw [e9];exact (ext_blk (HX.out.trans HX9.out) HB2.out).far (p:=⟨w.heap.size,2,none⟩) (by simp) _
    have HO9:Hid (W9.ownsRow Wb.heap.size 75 2 (.slice A9 (d.accs.length+1) c9) (d.accs.length+1) (accV d.accs++[.int .i64 ((d.accs.length:Int)+1),.int .u64 (q.key:Int)])):=Lib.hid (by rw [e9];exact own_far O9.out (by have:=HSB.out;omega) 2 _)
    have HX09:Hid (Ext w W9):=Lib.hid (by rw [e9];exact (HX0.out.trans (HX.out.trans HX9.out)).setCell (Nat.le_refl _) _)
    clear e9 O9
    obtain ⟨m0,m1,m2,m3,m4,m5⟩:=arr6f HB09.out
    obtain ⟨z0,z1,z2,z3,z4,z5,f0,f1,f2,f3,f4,f5⟩:=st6 b29
    have BB:=Lib.hid (blk6 b29 (.int .i64 d.next) (.slice d.oA d.opn.length d.oc) (.slice A9 (d.accs.length+1) c9) (.slice d.uA d.auts.length d.uc) (.slice d.rA d.ords.length d.rc) (.int .i64 d.ser))
    clear b29
    go_wp2
    rw [HR.out]
    obtain ⟨r0,r1,r2,r3,r4,r5⟩:=arr6f BB.out
    have hsb:=HSB.out
    have hlen:(d.accs++[AccR.mk ((d.accs.length:Int)+1) q.key]).length=d.accs.length+1:=by simp
    have o10:=own_far (own_far (own_far (own_far (own_far (own_far HO9.out (g:=w.heap.size+2) (by omega) 0 (.int .i64 d.next)) (g:=w.heap.size+2) (by omega) 1 (.slice d.oA d.opn.length d.oc)) (g:=w.heap.size+2) (by omega) 2 (.slice A9 (d.accs.length+1) c9)) (g:=w.heap.size+2) (by omega) 3 (.slice d.uA d.auts.length d.uc)) (g:=w.heap.size+2) (by omega) 4 (.slice d.rA d.ords.length d.rc)) (g:=w.heap.size+2) (by omega) 5 (.int .i64 d.ser)
    rw [show accV d.accs++[.int .i64 ((d.accs.length:Int)+1),.int .u64 (q.key:Int)]=accV (d.accs++[AccR.mk ((d.accs.length:Int)+1) q.key]) by rw [accV_append];rfl] at o10
    have xx0:=ext6 HX09.out (g:=w.heap.size+2) (by omega) (.int .i64 d.next) (.slice d.oA d.opn.length d.oc) (.slice A9 (d.accs.length+1) c9) (.slice d.uA d.auts.length d.uc) (.slice d.rA d.ords.length d.rc) (.int .i64 d.ser)
    have hr:=Reads.of_own o10
    refine bodyPost_ret (v:=.tuple #[.agg #[.int .i64 d.next,.slice d.oA d.opn.length d.oc,.slice A9 (d.accs.length+1) c9,.slice d.uA d.auts.length d.uc,.slice d.rA d.ords.length d.rc,.int .i64 d.ser],.int .i64 ((d.accs.length:Int)+1),.int .i64 0]) (by simp [results,Tryz.results57,go_sem,r0,r1,r2,r3,r4,r5]) rfl ⟨withC d (d.accs++[AccR.mk ((d.accs.length:Int)+1) q.key]) A9 c9,?_,rfl,?_,fun S hS=>?_,xx0⟩
    ·unfold frontV withC
     simp only
     rw [hlen]
     rfl
    ·refine withC_w (HW_.out.ext xx0) (by rw [hlen];exact hr) (by rw [hlen];exact HC9.out) (by rw [hlen];omega) (fun y hy=>?_)
     rcases List.mem_append.1 hy with hy|hy
     ·exact HW_.out.cw y hy
     ·rw [List.mem_singleton] at hy
      subst hy
      exact ⟨wf64_of (by simp only;omega) (by simp only;omega),HQK.out⟩
    ·refine withC_l hS (fun k hk=>.inl hk) ?_
     rw [hlen]
     exact Lies.own o10 (fun k hk=>.inr (by omega))
theorem step_1 {f:FroR} {q:QueR} {now:Int} (h:q.kind=1):stepF f q now=joinF f q:=by unfold stepF;rw [if_pos h]
theorem step_2 {f:FroR} {q:QueR} {now:Int} (h:q.kind=2):stepF f q now=wantF f q now:=by unfold stepF;rw [if_neg (by omega),if_pos h]
theorem step_3 {f:FroR} {q:QueR} {now:Int} (h:q.kind=3):stepF f q now=lookF f q:=by unfold stepF;rw [if_neg (by omega),if_neg (by omega),if_pos h]
theorem step_4 {f:FroR} {q:QueR} {now:Int} (h:q.kind=4):stepF f q now=issF f q now:=by unfold stepF;rw [if_neg (by omega),if_neg (by omega),if_neg (by omega),if_pos h]
theorem step_5 {f:FroR} {q:QueR} {now:Int} (h:q.kind=5):stepF f q now=revF f q:=by unfold stepF;rw [if_neg (by omega),if_neg (by omega),if_neg (by omega),if_neg (by omega)]
theorem rDo_any (d:DoorX) (q:QueR) (A:Option Addr) (c:Nat) (now:Int) (w:World) (hw:DoorW w w.heap.size d) (hq:QueW w w.heap.size q A c) (hu9:d.auts.length+8<99) (ha9:d.accs.length<100) (ho9:d.ords.length<99) :
  Calls Tryz.prog 19 #[frontV d,queV q A c,.int .i64 now] w (outD d (doF checkN d.fro q now) w):=by
 obtain ⟨W0,e0,b0,b1,b2,x0,s0⟩:=boxes3 w #[.int .i64 d.next,.slice d.oA d.opn.length d.oc,.slice d.cA d.accs.length d.cc,.slice d.uA d.auts.length d.uc,.slice d.rA d.ords.length d.rc,.int .i64 d.ser] #[.int .i64 q.kind,.int .i64 q.acc,.int .i64 q.nonce,.int .u64 (q.key:Int),.slice A q.names.length c,.int .i64 q.life,.int .i64 q.id,.int .u64 (q.e:Int),.int .u64 (q.s:Int)] #[.int .i64 0,.slice none 0 0,.slice none 0 0,.slice none 0 0,.slice none 0 0,.int .i64 0] 43 27 43
 have cC:=rCheck_any22 d (by omega) ha9 W0 (hw.ext x0)
 have cB:=fun W (h:Ext W0 W)=>rBytes_any q A c W (hq.ext (x0.trans h))
 have cN:=rnum_any now
 have cF:=fun W (h:Ext W0 W)=>rfits_any q A c W (hq.ext (x0.trans h))
 obtain ⟨E,hE⟩:∃ E,chkF d.fro=E:=⟨_,rfl⟩
 rw [hE] at cC
 have HW:=Lib.hid hw
 have HQ:=Lib.hid hq
 have HB0:=Lib.hid b0
 have HB1:=Lib.hid b1
 have HB2:=Lib.hid b2
 have HX0:=Lib.hid x0
 have HS0:=Lib.hid s0
 have HE:=Lib.hid hE
 have HU9:=Lib.hid hu9
 have HA9:=Lib.hid ha9
 have HO9:=Lib.hid ho9
 obtain ⟨m0,m1,m2,m3,m4,m5⟩:=arr6f b0
 unfold frontV at cC ⊢
 unfold queV at cB cF ⊢
 clear b0 b1 b2 x0 s0 hw hq hE hu9 ha9 ho9
 go_enter Tryz.func19,Tryz.ntmps19
 go_upto_region 1 with (fail)
 try rw [e0]
 clear e0
 by_cases h0:E=0
 case neg =>
  have HR:=Lib.hid (doF_1 (sg:=checkN) (q:=q) (now:=now) HE.out h0)
  have k0:=ne_beq h0
  clear h0 cB cN cF
  go_wp2_with (go_at_call 22;refine cC.mono ?_;clear cC m0 m1 m2 m3 m4 m5;rintro e w1 ⟨rfl,x1⟩;have b2:=ext_blk (x1) HB2.out;obtain ⟨q0,q1,q2,q3,q4,q5,f0,f1,f2,f3,f4,f5⟩:=st6 b2;have BB:=Lib.hid (blk6 b2 (.int .i64 0) (.slice none 0 0) (.slice none 0 0) (.slice none 0 0) (.slice none 0 0) (.int .i64 0));clear b2)
  rw [HR.out]
  obtain ⟨r0,r1,r2,r3,r4,r5⟩:=arr6f BB.out
  refine bodyPost_ret (v:=.tuple #[.agg #[.int .i64 0,.slice none 0 0,.slice none 0 0,.slice none 0 0,.slice none 0 0,.int .i64 0],.int .i64 0,.int .i64 (E:Int)]) (by simp [results,Tryz.results19,go_sem,r0,r1,r2,r3,r4,r5]) rfl (outD_bad rfl (ext6 (HX0.out.trans (x1)) (by omega) _ _ _ _ _ _))
 subst h0
 go_upto_region 4 with (go_at_call 22;refine cC.mono ?_;clear cC m0 m1 m2 m3 m4 m5;rintro e w1 ⟨rfl,x1⟩;have HX1:=Lib.hid x1)
 obtain ⟨k0,k1,k2,k3,k4,k5,k6,k7,k8⟩:=arr9 (ext_blk x1 HB1.out)
 have cB:=cB w1 x1
 clear x1
 obtain ⟨BE,hBE⟩:∃ B,byteE q=B:=⟨_,rfl⟩
 unfold bytPost at cB
 rw [hBE] at cB
 have HBE:=Lib.hid hBE
 clear hBE
 go_upto_region 5 with (go_at_call 15;refine cB.mono ?_;clear cB k0 k1 k2 k3 k4 k5 k6 k7 k8;rintro e w2 ⟨bv0,rfl,ho2,x2⟩;have HX2:=Lib.hid (HX1.out.trans x2);have HO2:=Lib.hid ho2;clear ho2 x2)
 by_cases hn:numP now
 case neg =>
  have HR:=Lib.hid (doF_2 (sg:=checkN) (f:=d.fro) (q:=q) (now:=now) HE.out (.inr (.inl hn)))
  rw [show decide (numP now)=false from decide_eq_false hn] at cN
  clear hn cF
  have b2:=ext_blk (HX2.out) HB2.out;obtain ⟨q0,q1,q2,q3,q4,q5,f0,f1,f2,f3,f4,f5⟩:=st6 b2;have BB:=Lib.hid (blk6 b2 (.int .i64 0) (.slice none 0 0) (.slice none 0 0) (.slice none 0 0) (.slice none 0 0) (.int .i64 0));clear b2
  go_wp2_with (go_at_call 43;refine (cN _).mono ?_;clear cN;rintro e w3 ⟨rfl,rfl⟩)
  rw [HR.out]
  obtain ⟨r0,r1,r2,r3,r4,r5⟩:=arr6f BB.out
  refine bodyPost_ret (v:=.tuple #[.agg #[.int .i64 0,.slice none 0 0,.slice none 0 0,.slice none 0 0,.slice none 0 0,.int .i64 0],.int .i64 0,.int .i64 1]) (by simp [results,Tryz.results19,go_sem,r0,r1,r2,r3,r4,r5]) rfl (outD_bad rfl (ext6 (HX0.out.trans (HX2.out)) (by omega) _ _ _ _ _ _))
 rw [show decide (numP now)=true from decide_eq_true hn] at cN
 by_cases hb:BE=0
 case neg =>
  have HR:=Lib.hid (doF_2 (sg:=checkN) (f:=d.fro) (q:=q) (now:=now) HE.out (.inl (by rw [HBE.out];exact hb)))
  have k0:=ne_beq hb
  clear hb cF hn
  have b2:=ext_blk (HX2.out) HB2.out;obtain ⟨q0,q1,q2,q3,q4,q5,f0,f1,f2,f3,f4,f5⟩:=st6 b2;have BB:=Lib.hid (blk6 b2 (.int .i64 0) (.slice none 0 0) (.slice none 0 0) (.slice none 0 0) (.slice none 0 0) (.int .i64 0));clear b2
  go_wp2_with (go_at_call 43;refine (cN _).mono ?_;clear cN;rintro e w3 ⟨rfl,rfl⟩)
  rw [HR.out]
  obtain ⟨r0,r1,r2,r3,r4,r5⟩:=arr6f BB.out
  refine bodyPost_ret (v:=.tuple #[.agg #[.int .i64 0,.slice none 0 0,.slice none 0 0,.slice none 0 0,.slice none 0 0,.int .i64 0],.int .i64 0,.int .i64 1]) (by simp [results,Tryz.results19,go_sem,r0,r1,r2,r3,r4,r5]) rfl (outD_bad rfl (ext6 (HX0.out.trans (HX2.out)) (by omega) _ _ _ _ _ _))
 subst hb
 obtain ⟨k0,k1,k2,k3,k4,k5,k6,k7,k8⟩:=arr9 (ext_blk HX2.out HB1.out)
 have cF:=cF w2 HX2.out
 by_cases hf:fitsP q
 case neg =>
  have HR:=Lib.hid (doF_2 (sg:=checkN) (f:=d.fro) (q:=q) (now:=now) HE.out (.inr (.inr hf)))
  rw [show decide (fitsP q)=false from decide_eq_false hf] at cF
  clear hn hf
  go_wp2_with (first|(go_at_call 43;refine (cN _).mono ?_;clear cN;rintro e w3 ⟨rfl,rfl⟩)|(go_at_call 54;refine cF.mono ?_;clear cF k0 k1 k2 k3 k4 k5 k6 k7 k8;rintro e w3 ⟨rfl,x3⟩;have b2:=ext_blk (HX2.out.trans x3) HB2.out;obtain ⟨q0,q1,q2,q3,q4,q5,f0,f1,f2,f3,f4,f5⟩:=st6 b2;have BB:=Lib.hid (blk6 b2 (.int .i64 0) (.slice none 0 0) (.slice none 0 0) (.slice none 0 0) (.slice none 0 0) (.int .i64 0));clear b2))
  rw [HR.out]
  obtain ⟨r0,r1,r2,r3,r4,r5⟩:=arr6f BB.out
  refine bodyPost_ret (v:=.tuple #[.agg #[.int .i64 0,.slice none 0 0,.slice none 0 0,.slice none 0 0,.slice none 0 0,.int .i64 0],.int .i64 0,.int .i64 1]) (by simp [results,Tryz.results19,go_sem,r0,r1,r2,r3,r4,r5]) rfl (outD_bad rfl (ext6 (HX0.out.trans (HX2.out.trans x3)) (by omega) _ _ _ _ _ _))
 rw [show decide (fitsP q)=true from decide_eq_true hf] at cF
 have HOK:=Lib.hid (show ¬ (byteE q≠0∨¬ numP now∨¬ fitsP q) by rw [HBE.out];simp [hn,hf])
 have HF:=Lib.hid hf
 have HH:=Lib.hid (byteE_head HBE.out)
 clear hn hf
 go_upto_region 7 with (first|(go_at_call 43;refine (cN _).mono ?_;clear cN;rintro e w3 ⟨rfl,rfl⟩)|(go_at_call 54;refine cF.mono ?_;clear cF k0 k1 k2 k3 k4 k5 k6 k7 k8;rintro e w3 ⟨rfl,x3⟩))
 have HX3:=Lib.hid (HX2.out.trans x3)
 have HO3:=Lib.hid (own_ext HO2.out x3)
 clear HO2 x3
 have cU:=rUse_any d.next d.opn d.oA d.oc q.nonce now w3 (HW.out.non.ext (HX0.out.trans HX3.out))
 obtain ⟨r,hr⟩:∃ r,useF d.next d.opn q.nonce now=r:=⟨_,rfl⟩
 have HFE:Hid (fenN r.1 r.2.1=0):=Lib.hid (by rw [← hr];exact fenN_use)
 rw [hr] at cU
 obtain ⟨nx,op,ue⟩:=r
 have HUE:=Lib.hid (use_parts hr)
 unfold usePost fenV at cU
 simp only at cU HFE
 have m0:=(ext_blk HX3.out HB0.out).cell 0
 have m1:=(ext_blk HX3.out HB0.out).cell 1
 have k2:=(ext_blk HX3.out HB1.out).cell 2
 clear hr
 go_upto_region 8 with (go_at_call 55;refine cU.mono ?_;clear cU m0 m1 k2;rintro e w5 ⟨A5,c5,rfl,ho5,x5⟩;have HX5:=Lib.hid (HX3.out.trans x5);have HT5:=Lib.hid x5;have HO5:=Lib.hid ho5;clear ho5 x5)
 obtain ⟨W6,e6⟩:∃ W,w5.alloc (.cells #[.int .i64 nx,.slice A5 op.length c5] 38)=W:=⟨_,rfl⟩
 try rw [e6]
 have HX6:Hid (Ext W0 W6):=Lib.hid (by rw [← e6];exact HX5.out.alloc _)
 have HY6:Hid (Ext w3 W6):=Lib.hid (by rw [← e6];exact HT5.out.alloc _)
 have HD6:Hid (Blk W6 w5.heap.size 38 #[.int .i64 nx,.slice A5 op.length c5]):=Lib.hid (by rw [← e6];exact Blk.new _ _ _)
 have HO6:Hid (W6.ownsRow w3.heap.size 102 2 (.slice A5 op.length c5) op.length (nonV op)):=Lib.hid (own_ext HO5.out (by rw [← e6];exact (Ext.refl _).alloc _))
 clear e6 HO5
 by_cases hue:ue=0
 case neg =>
  have HR:=Lib.hid (doF_3 (sg:=checkN) (f:=d.fro) HE.out HOK.out HUE.out.1 hue)
  have k0:=ne_beq hue
  clear hue
  have b2:=ext_blk (HX6.out) HB2.out;obtain ⟨q0,q1,q2,q3,q4,q5,f0,f1,f2,f3,f4,f5⟩:=st6 b2;have BB:=Lib.hid (blk6 b2 (.int .i64 0) (.slice none 0 0) (.slice none 0 0) (.slice none 0 0) (.slice none 0 0) (.int .i64 0));clear b2
  go_wp2
  rw [HR.out]
  obtain ⟨r0,r1,r2,r3,r4,r5⟩:=arr6f BB.out
  refine bodyPost_ret (v:=.tuple #[.agg #[.int .i64 0,.slice none 0 0,.slice none 0 0,.slice none 0 0,.slice none 0 0,.int .i64 0],.int .i64 0,.int .i64 (ue:Int)]) (by simp [results,Tryz.results19,go_sem,r0,r1,r2,r3,r4,r5]) rfl (outD_bad rfl (ext6 (HX0.out.trans (HX6.out)) (by omega) _ _ _ _ _ _))
 subst hue
 obtain ⟨hu0,hu1⟩:=HUE.out
 obtain ⟨rfl,rfl⟩:=hu1 rfl
 have HU0:=Lib.hid hu0
 clear hu0 hu1 HUE
 obtain ⟨k0,k1,k2,k3,k4,k5,k6,k7,k8⟩:=arr9 (ext_blk HX6.out HB1.out)
 go_upto_if 57 with (fail)
 go_cut [14] (fun s14 wx=>∃ k:Nat,s14=.int .u64 (k:Int)∧keyF d.fro q=some k∧k<18446744073709551616∧(0≤q.acc∧q.acc<100)∧Ext W6 wx)
 case first =>
  by_cases hk:q.kind=1
  ·have e1:(q.kind != 1)=false:=by simp [hk]
   have HK:=Lib.hid hk
   clear hk
   go_wp2
   go_meet
   have hf:=HF.out
   unfold fitsP at hf
   rw [if_pos HK.out] at hf
   exact ⟨q.key,rfl,by unfold keyF;rw [if_pos HK.out],HQ.out.key,⟨by omega,by omega⟩,Ext.refl _⟩
  ·have e1:(q.kind != 1)=true:=by simp [hk]
   have m2:W6.cell? ⟨w.heap.size,2,none⟩=some (.slice d.cA d.accs.length d.cc):=(ext_blk HX6.out HB0.out).cell 2
   by_cases h1:q.acc<1
   ·have d1:decide (q.acc<1)=true:=decide_eq_true h1
    have HR:=Lib.hid (doF_4 (sg:=checkN) (f:=d.fro) HE.out HOK.out HU0.out (by unfold keyF;rw [if_neg hk,if_pos h1]))
    clear h1 hk
    go_upto_region 13 with (fail)
    clear k0 k1 k2 k3 k4 k5 k6 k7 k8 m2
    have b2:=ext_blk (HX6.out) HB2.out;obtain ⟨q0,q1,q2,q3,q4,q5,f0,f1,f2,f3,f4,f5⟩:=st6 b2;have BB:=Lib.hid (blk6 b2 (.int .i64 0) (.slice none 0 0) (.slice none 0 0) (.slice none 0 0) (.slice none 0 0) (.int .i64 0));clear b2
    go_wp2
    rw [HR.out]
    obtain ⟨r0,r1,r2,r3,r4,r5⟩:=arr6f BB.out
    refine bodyPost_ret (v:=.tuple #[.agg #[.int .i64 0,.slice none 0 0,.slice none 0 0,.slice none 0 0,.slice none 0 0,.int .i64 0],.int .i64 0,.int .i64 220]) (by simp [results,Tryz.results19,go_sem,r0,r1,r2,r3,r4,r5]) rfl (outD_bad rfl (ext6 (HX0.out.trans (HX6.out)) (by omega) _ _ _ _ _ _))
   have d1:decide (q.acc<1)=false:=decide_eq_false h1
   obtain ⟨a,hqa⟩:∃ a:Nat,q.acc=(a:Int)+1:=⟨(q.acc-1).toNat,by omega⟩
   by_cases h2:(d.accs.length:Int)<q.acc
   ·have d2:decide ((d.accs.length:Int)<q.acc)=true:=decide_eq_true h2
    have HR:=Lib.hid (doF_4 (sg:=checkN) (f:=d.fro) HE.out HOK.out HU0.out (by unfold keyF;rw [if_neg hk,if_neg h1,show d.fro.accs=d.accs from rfl,List.getElem?_eq_none (by omega)];rfl))
    clear h1 hk h2 hqa
    go_upto_region 13 with (fail)
    clear k0 k1 k2 k3 k4 k5 k6 k7 k8 m2
    have b2:=ext_blk (HX6.out) HB2.out;obtain ⟨q0,q1,q2,q3,q4,q5,f0,f1,f2,f3,f4,f5⟩:=st6 b2;have BB:=Lib.hid (blk6 b2 (.int .i64 0) (.slice none 0 0) (.slice none 0 0) (.slice none 0 0) (.slice none 0 0) (.int .i64 0));clear b2
    go_wp2
    rw [HR.out]
    obtain ⟨r0,r1,r2,r3,r4,r5⟩:=arr6f BB.out
    refine bodyPost_ret (v:=.tuple #[.agg #[.int .i64 0,.slice none 0 0,.slice none 0 0,.slice none 0 0,.slice none 0 0,.int .i64 0],.int .i64 0,.int .i64 220]) (by simp [results,Tryz.results19,go_sem,r0,r1,r2,r3,r4,r5]) rfl (outD_bad rfl (ext6 (HX0.out.trans (HX6.out)) (by omega) _ _ _ _ _ _))
   have d2:decide ((d.accs.length:Int)<q.acc)=false:=decide_eq_false h2
   obtain ⟨x,hx⟩:∃ x,d.accs[a]?=some x:=⟨_,List.getElem?_eq_getElem (by omega)⟩
   obtain ⟨ad,hA,hlt,r0,r1⟩:=reads_acc (HW.out.ext (HX0.out.trans HX6.out)).acc hx
   rw [hA] at m2
   have hal:(a:Int)<(d.accs.length:Int):=by omega
   have hab:(a:Int)<100:=by have:=HA9.out;omega
   have e2:IntKind.i64.wrap (q.acc-1)=(a:Int):=by rw [IntKind.wrap_i64];omega
   have hkk:Hid (keyF d.fro q=some x.key):=Lib.hid (by
    unfold keyF
    rw [if_neg hk,if_neg (by omega),show d.fro.accs=d.accs from rfl,show q.acc.toNat-1=a by omega,hx];rfl)
   have hxk:Hid (x.key<18446744073709551616):=Lib.hid (HW.out.cw x (List.mem_of_getElem? hx)).2
   have HQA:Hid (0≤q.acc∧q.acc<100):=Lib.hid ⟨by omega,by have:=HA9.out;omega⟩
   clear hk hx hA hlt h1 h2 hqa
   go_wp2
   go_meet
   exact ⟨x.key,rfl,hkk.out,hxk.out,HQA.out,Ext.refl _⟩
 case rest =>
  obtain ⟨k,rfl,hkey,hk64,hacc,x7⟩:=hcut
  have HX7:=Lib.hid (HX6.out.trans x7)
  have HD7:=Lib.hid (ext_blk x7 HD6.out)
  have HO7:=Lib.hid (own_ext HO6.out x7)
  have hbr:bytR q=byteL q:=by unfold bytR;rw [HBE.out];rfl
  rw [hbr] at HO3
  obtain ⟨bA,bc,rfl,hbc,-⟩:=own_slice2 HO3.out
  obtain ⟨E3,hE3⟩:∃ E,checkN k (byteL q) q.e q.s=E:=⟨_,rfl⟩
  have HO37:=own_ext HO3.out (HY6.out.trans x7)
  have HY7:=Lib.hid (HY6.out.trans x7)
  have cS:=rCheck_any k hk64 q.e q.s HQ.out.e HQ.out.s (byteL q) (byteL_lt q) (byteL_len HBE.out) bA bc hbc wc (Reads.of_own HO37)
  rw [hE3] at cS
  have HE3:=Lib.hid hE3
  have HKEY:=Lib.hid hkey
  have HACC:=Lib.hid hacc
  obtain ⟨k0,k1,k2,k3,k4,k5,k6,k7,k8⟩:=arr9 (ext_blk HX7.out HB1.out)
  clear hkey hk64 hacc x7 hbr hbc hE3 HO37
  by_cases h3:E3=0
  case neg =>
   have HR:=Lib.hid (doF_5 (sg:=checkN) (f:=d.fro) HE.out HOK.out HU0.out HKEY.out HE3.out h3)
   have kk:=ne_beq h3
   clear h3
   go_wp2_with (go_at_call 56;refine cS.mono ?_;clear cS k0 k1 k2 k3 k4 k5 k6 k7 k8;rintro e w8 ⟨rfl,x8⟩;have b2:=ext_blk (HX7.out.trans x8) HB2.out;obtain ⟨q0,q1,q2,q3,q4,q5,f0,f1,f2,f3,f4,f5⟩:=st6 b2;have BB:=Lib.hid (blk6 b2 (.int .i64 0) (.slice none 0 0) (.slice none 0 0) (.slice none 0 0) (.slice none 0 0) (.int .i64 0));clear b2)
   rw [HR.out]
   obtain ⟨r0,r1,r2,r3,r4,r5⟩:=arr6f BB.out
   refine bodyPost_ret (v:=.tuple #[.agg #[.int .i64 0,.slice none 0 0,.slice none 0 0,.slice none 0 0,.slice none 0 0,.int .i64 0],.int .i64 0,.int .i64 (E3:Int)]) (by simp [results,Tryz.results19,go_sem,r0,r1,r2,r3,r4,r5]) rfl (outD_bad rfl (ext6 (HX0.out.trans (HX7.out.trans x8)) (by omega) _ _ _ _ _ _))
  subst h3
  have HRS:=Lib.hid (doF_6 (sg:=checkN) (f:=d.fro) HE.out HOK.out HU0.out HKEY.out HE3.out)
  go_upto_region 18 with (go_at_call 56;refine cS.mono ?_;clear cS k0 k1 k2 k3 k4 k5 k6 k7 k8;rintro e w8 ⟨rfl,x8⟩)
  have HX8:=Lib.hid (HX7.out.trans x8)
  have b8:=ext_blk HX8.out HB0.out
  obtain ⟨m0,m1,m2,m3,m4,m5⟩:=arr6f b8
  have n0:=b8.frozen 0
  have n1:=b8.frozen 1
  have g0:=(ext_blk x8 HD7.out).cell 0
  have g1:=(ext_blk x8 HD7.out).cell 1
  have HS8:Hid (w3.heap.size≤w8.heap.size∧W0.heap.size≤w3.heap.size∧W0.heap.size=w.heap.size+3):=Lib.hid ⟨Nat.le_trans HY7.out.size x8.size,HX3.out.size,HS0.out⟩
  have HO8:=Lib.hid (own_ext HO7.out x8)
  clear x8 b8
  go_upto_region 19 with (fail)
  obtain ⟨W9,e9⟩:∃ W,W=(w8.setCell ⟨w.heap.size,0,none⟩ (.int .i64 d.next)).setCell ⟨w.heap.size,1,none⟩ (.slice A5 (useL d.opn q.nonce).length c5):=⟨_,rfl⟩
  try rw [← e9]
  clear m0 m1 m2 m3 m4 m5 n0 n1 g0 g1
  have HB9:Hid (Blk W9 w.heap.size 43 #[.int .i64 d.next,.slice A5 (useL d.opn q.nonce).length c5,.slice d.cA d.accs.length d.cc,.slice d.uA d.auts.length d.uc,.slice d.rA d.ords.length d.rc,.int .i64 d.ser]):=Lib.hid (by rw [e9];exact ((ext_blk HX8.out HB0.out).set_ 0 _).set_ 1 _)
  have HQ9:Hid (Blk W9 (w.heap.size+1) 27 #[.int .i64 q.kind,.int .i64 q.acc,.int .i64 q.nonce,.int .u64 (q.key:Int),.slice A q.names.length c,.int .i64 q.life,.int .i64 q.id,.int .u64 (q.e:Int),.int .u64 (q.s:Int)]):=Lib.hid (by rw [e9];exact ((ext_blk HX8.out HB1.out).far (p:=⟨w.heap.size,0,none⟩) (by simp) _).far (p:=⟨w.heap.size,1,none⟩) (by simp) _)
  have HZ9:Hid (Blk W9 (w.heap.size+2) 43 #[.int .i64 0,.slice none 0 0,.slice none 0 0,.slice none 0 0,.slice none 0 0,.int .i64 0]):=Lib.hid (by rw [e9];exact ((ext_blk HX8.out HB2.out).far (p:=⟨w.heap.size,0,none⟩) (by simp) _).far (p:=⟨w.heap.size,1,none⟩) (by simp) _)
  have HX9:Hid (Ext w W9):=Lib.hid (by rw [e9];exact ((HX0.out.trans HX8.out).setCell (Nat.le_refl _) _).setCell (Nat.le_refl _) _)
  have HO9b:Hid (W9.ownsRow w3.heap.size 102 2 (.slice A5 (useL d.opn q.nonce).length c5) (useL d.opn q.nonce).length (nonV (useL d.opn q.nonce))):=Lib.hid (by
   have:=HS8.out
   rw [e9];exact own_far (own_far HO8.out (by omega) 0 _) (by omega) 1 _)
  have hs9:W9.heap.size=w8.heap.size:=by rw [e9];simp
  have HS9:Hid (w3.heap.size≤W9.heap.size∧w.heap.size+3≤w3.heap.size):=Lib.hid (by have:=HS8.out;omega)
  clear hs9
  clear e9 HO8
  have HW9:Hid (DoorW W9 W9.heap.size (withN d d.next (useL d.opn q.nonce) A5 c5)):=Lib.hid (withN_w (HW.out.ext HX9.out) (nons_own HO9b.out HFE.out))
  have HL9:Hid (∀ S:Nat→Prop,DoorL S d→DoorL (fun k=>S k∨w3.heap.size≤k) (withN d d.next (useL d.opn q.nonce) A5 c5)):=Lib.hid fun S hS =>
   ⟨Lies.own HO9b.out (fun k hk=>.inr hk),hS.c.mono (fun b h=>.inl h),hS.u.mono (fun b h=>.inl h),hS.r.mono (fun b h=>.inl h),fun x hx=>(hS.n x hx).mono (fun b h=>.inl h),fun x hx=>(hS.a x hx).mono (fun b h=>.inl h)⟩
  have HLL:Hid (DoorL (fun k=>k<w.heap.size∨w3.heap.size≤k) (withN d d.next (useL d.opn q.nonce) A5 c5)):=Lib.hid (HL9.out _ HW.out.lies)
  have HKN:Hid (1≤q.kind∧q.kind≤5∧q.names.length≤8):=Lib.hid ⟨HH.out.1,HH.out.2.1,HH.out.2.2.1⟩
  obtain ⟨m0,m1,m2,m3,m4,m5⟩:=arr6f HB9.out
  obtain ⟨k0,k1,k2,k3,k4,k5,k6,k7,k8⟩:=arr9 HQ9.out
  by_cases hk1:q.kind=1
  ·have t1:(q.kind==1)=true:=by simp [hk1]
   have HR:=Lib.hid (HRS.out.trans (step_1 hk1))
   clear hk1
   have cM:=raccount_any (withN d d.next (useL d.opn q.nonce) A5 c5) q A c W9 HW9.out (HQ.out.ext HX9.out) HA9.out
   obtain ⟨r,hr⟩:∃ r,joinF { d.fro with opn:=useL d.opn q.nonce } q=r:=⟨_,rfl⟩
   rw [show (withN d d.next (useL d.opn q.nonce) A5 c5).fro={ d.fro with opn:=useL d.opn q.nonce } from rfl,hr] at cM
   rw [show d.fro.opn=d.opn from rfl,hr] at HR
   clear hr
   unfold outD frontV queV at cM
   simp only [withN] at cM
   go_wp2_with (go_at_call 57;refine cM.mono ?_;clear cM m0 m1 m2 m3 m4 m5 k0 k1 k2 k3 k4 k5 k6 k7 k8;rintro e w10 ⟨d',rfl,hfro,hdw,hdl,x10⟩;have HFR:=Lib.hid hfro;have HDW:=Lib.hid hdw;have HDL:=Lib.hid hdl;have HXA:=Lib.hid x10;have b2:=ext_blk x10 HZ9.out;obtain ⟨q0,q1,q2,q3,q4,q5,f0,f1,f2,f3,f4,f5⟩:=st6 b2;have BB:=Lib.hid (blk6 b2 (.int .i64 d'.next) (.slice d'.oA d'.opn.length d'.oc) (.slice d'.cA d'.accs.length d'.cc) (.slice d'.uA d'.auts.length d'.uc) (.slice d'.rA d'.ords.length d'.rc) (.int .i64 d'.ser));clear b2 hfro hdw hdl x10)
   rw [HR.out]
   obtain ⟨r0,r1,r2,r3,r4,r5⟩:=arr6f BB.out
   have hs9:=HS9.out
   refine bodyPost_ret (v:=.tuple #[.agg #[.int .i64 d'.next,.slice d'.oA d'.opn.length d'.oc,.slice d'.cA d'.accs.length d'.cc,.slice d'.uA d'.auts.length d'.uc,.slice d'.rA d'.ords.length d'.rc,.int .i64 d'.ser],.int .i64 r.2.1,.int .i64 (r.2.2:Nat)]) (by simp [results,Tryz.results19,go_sem,r0,r1,r2,r3,r4,r5]) rfl ⟨d',rfl,HFR.out,?_,?_,ext6 (HX9.out.trans HXA.out) (by omega) _ _ _ _ _ _⟩
   ·exact HDW.out.grownTo ((HDL.out _ HLL.out).mono (fun k hk=>by rcases hk with (hk|hk)|hk <;> omega)) (grown6 w10 (w.heap.size+2) _ _ _ _ _ _)
   ·intro S hS
    exact (HDL.out _ (HL9.out S hS)).mono (fun k hk=>by rcases hk with (hk|hk)|hk;exact .inl hk;exact .inr (by omega);exact .inr (by omega))
  have t1:(q.kind==1)=false:=by simp [hk1]
  by_cases hk2:q.kind=2
  ·have t2:(q.kind==2)=true:=by simp [hk2]
   have HR:=Lib.hid (HRS.out.trans (step_2 hk2))
   clear hk2
   have cM:=rorder_any (withN d d.next (useL d.opn q.nonce) A5 c5) q A c now W9 HW9.out (HQ.out.ext HX9.out) HACC.out (by have:=HU9.out;have:=HKN.out;simp only [withN];omega) (by have:=HO9.out;simp only [withN];omega)
   obtain ⟨r,hr⟩:∃ r,wantF { d.fro with opn:=useL d.opn q.nonce } q now=r:=⟨_,rfl⟩
   rw [show (withN d d.next (useL d.opn q.nonce) A5 c5).fro={ d.fro with opn:=useL d.opn q.nonce } from rfl,hr] at cM
   rw [show d.fro.opn=d.opn from rfl,hr] at HR
   clear hr
   unfold outD frontV queV at cM
   simp only [withN] at cM
   go_wp2_with (go_at_call 58;refine cM.mono ?_;clear cM m0 m1 m2 m3 m4 m5 k0 k1 k2 k3 k4 k5 k6 k7 k8;rintro e w10 ⟨d',rfl,hfro,hdw,hdl,x10⟩;have HFR:=Lib.hid hfro;have HDW:=Lib.hid hdw;have HDL:=Lib.hid hdl;have HXA:=Lib.hid x10;have b2:=ext_blk x10 HZ9.out;obtain ⟨q0,q1,q2,q3,q4,q5,f0,f1,f2,f3,f4,f5⟩:=st6 b2;have BB:=Lib.hid (blk6 b2 (.int .i64 d'.next) (.slice d'.oA d'.opn.length d'.oc) (.slice d'.cA d'.accs.length d'.cc) (.slice d'.uA d'.auts.length d'.uc) (.slice d'.rA d'.ords.length d'.rc) (.int .i64 d'.ser));clear b2 hfro hdw hdl x10)
   rw [HR.out]
   obtain ⟨r0,r1,r2,r3,r4,r5⟩:=arr6f BB.out
   have hs9:=HS9.out
   refine bodyPost_ret (v:=.tuple #[.agg #[.int .i64 d'.next,.slice d'.oA d'.opn.length d'.oc,.slice d'.cA d'.accs.length d'.cc,.slice d'.uA d'.auts.length d'.uc,.slice d'.rA d'.ords.length d'.rc,.int .i64 d'.ser],.int .i64 r.2.1,.int .i64 (r.2.2:Nat)]) (by simp [results,Tryz.results19,go_sem,r0,r1,r2,r3,r4,r5]) rfl ⟨d',rfl,HFR.out,?_,?_,ext6 (HX9.out.trans HXA.out) (by omega) _ _ _ _ _ _⟩
   ·exact HDW.out.grownTo ((HDL.out _ HLL.out).mono (fun k hk=>by rcases hk with (hk|hk)|hk <;> omega)) (grown6 w10 (w.heap.size+2) _ _ _ _ _ _)
   ·intro S hS
    exact (HDL.out _ (HL9.out S hS)).mono (fun k hk=>by rcases hk with (hk|hk)|hk;exact .inl hk;exact .inr (by omega);exact .inr (by omega))
  have t2:(q.kind==2)=false:=by simp [hk2]
  by_cases hk3:q.kind=3
  ·have t3:(q.kind==3)=true:=by simp [hk3]
   have HR:=Lib.hid (HRS.out.trans (step_3 hk3))
   clear hk3
   have cM:=rlook_any (withN d d.next (useL d.opn q.nonce) A5 c5) q A c W9 HW9.out (HQ.out.ext HX9.out) (by have:=HU9.out;simp only [withN];omega) HO9.out (fun k u hu=>chk_aut_id HE.out hu)
   obtain ⟨r,hr⟩:∃ r,lookF { d.fro with opn:=useL d.opn q.nonce } q=r:=⟨_,rfl⟩
   rw [show (withN d d.next (useL d.opn q.nonce) A5 c5).fro={ d.fro with opn:=useL d.opn q.nonce } from rfl,hr] at cM
   rw [show d.fro.opn=d.opn from rfl,hr] at HR
   clear hr
   unfold outD frontV queV at cM
   simp only [withN] at cM
   go_wp2_with (go_at_call 59;refine cM.mono ?_;clear cM m0 m1 m2 m3 m4 m5 k0 k1 k2 k3 k4 k5 k6 k7 k8;rintro e w10 ⟨d',rfl,hfro,hdw,hdl,x10⟩;have HFR:=Lib.hid hfro;have HDW:=Lib.hid hdw;have HDL:=Lib.hid hdl;have HXA:=Lib.hid x10;have b2:=ext_blk x10 HZ9.out;obtain ⟨q0,q1,q2,q3,q4,q5,f0,f1,f2,f3,f4,f5⟩:=st6 b2;have BB:=Lib.hid (blk6 b2 (.int .i64 d'.next) (.slice d'.oA d'.opn.length d'.oc) (.slice d'.cA d'.accs.length d'.cc) (.slice d'.uA d'.auts.length d'.uc) (.slice d'.rA d'.ords.length d'.rc) (.int .i64 d'.ser));clear b2 hfro hdw hdl x10)
   rw [HR.out]
   obtain ⟨r0,r1,r2,r3,r4,r5⟩:=arr6f BB.out
   have hs9:=HS9.out
   refine bodyPost_ret (v:=.tuple #[.agg #[.int .i64 d'.next,.slice d'.oA d'.opn.length d'.oc,.slice d'.cA d'.accs.length d'.cc,.slice d'.uA d'.auts.length d'.uc,.slice d'.rA d'.ords.length d'.rc,.int .i64 d'.ser],.int .i64 r.2.1,.int .i64 (r.2.2:Nat)]) (by simp [results,Tryz.results19,go_sem,r0,r1,r2,r3,r4,r5]) rfl ⟨d',rfl,HFR.out,?_,?_,ext6 (HX9.out.trans HXA.out) (by omega) _ _ _ _ _ _⟩
   ·exact HDW.out.grownTo ((HDL.out _ HLL.out).mono (fun k hk=>by rcases hk with (hk|hk)|hk <;> omega)) (grown6 w10 (w.heap.size+2) _ _ _ _ _ _)
   ·intro S hS
    exact (HDL.out _ (HL9.out S hS)).mono (fun k hk=>by rcases hk with (hk|hk)|hk;exact .inl hk;exact .inr (by omega);exact .inr (by omega))
  have t3:(q.kind==3)=false:=by simp [hk3]
  by_cases hk4:q.kind=4
  ·have t4:(q.kind==4)=true:=by simp [hk4]
   have HR:=Lib.hid (HRS.out.trans (step_4 hk4))
   clear hk4
   have cM:=rissue_any (withN d d.next (useL d.opn q.nonce) A5 c5) q A c now W9 HW9.out (HQ.out.ext HX9.out) (by have:=HU9.out;simp only [withN];omega) HO9.out (auths_in (d:=d) HE.out) (fun k u hu=>chk_ord_id HE.out (show d.fro.ords[k]?=some u.o by rw [dfro_ords,List.getElem?_map,show d.ords[k]?=some u from hu];rfl))
   obtain ⟨r,hr⟩:∃ r,issF { d.fro with opn:=useL d.opn q.nonce } q now=r:=⟨_,rfl⟩
   rw [show (withN d d.next (useL d.opn q.nonce) A5 c5).fro={ d.fro with opn:=useL d.opn q.nonce } from rfl,hr] at cM
   rw [show d.fro.opn=d.opn from rfl,hr] at HR
   clear hr
   unfold outD frontV queV at cM
   simp only [withN] at cM
   go_wp2_with (go_at_call 60;refine cM.mono ?_;clear cM m0 m1 m2 m3 m4 m5 k0 k1 k2 k3 k4 k5 k6 k7 k8;rintro e w10 ⟨d',rfl,hfro,hdw,hdl,x10⟩;have HFR:=Lib.hid hfro;have HDW:=Lib.hid hdw;have HDL:=Lib.hid hdl;have HXA:=Lib.hid x10;have b2:=ext_blk x10 HZ9.out;obtain ⟨q0,q1,q2,q3,q4,q5,f0,f1,f2,f3,f4,f5⟩:=st6 b2;have BB:=Lib.hid (blk6 b2 (.int .i64 d'.next) (.slice d'.oA d'.opn.length d'.oc) (.slice d'.cA d'.accs.length d'.cc) (.slice d'.uA d'.auts.length d'.uc) (.slice d'.rA d'.ords.length d'.rc) (.int .i64 d'.ser));clear b2 hfro hdw hdl x10)
   rw [HR.out]
   obtain ⟨r0,r1,r2,r3,r4,r5⟩:=arr6f BB.out
   have hs9:=HS9.out
   refine bodyPost_ret (v:=.tuple #[.agg #[.int .i64 d'.next,.slice d'.oA d'.opn.length d'.oc,.slice d'.cA d'.accs.length d'.cc,.slice d'.uA d'.auts.length d'.uc,.slice d'.rA d'.ords.length d'.rc,.int .i64 d'.ser],.int .i64 r.2.1,.int .i64 (r.2.2:Nat)]) (by simp [results,Tryz.results19,go_sem,r0,r1,r2,r3,r4,r5]) rfl ⟨d',rfl,HFR.out,?_,?_,ext6 (HX9.out.trans HXA.out) (by omega) _ _ _ _ _ _⟩
   ·exact HDW.out.grownTo ((HDL.out _ HLL.out).mono (fun k hk=>by rcases hk with (hk|hk)|hk <;> omega)) (grown6 w10 (w.heap.size+2) _ _ _ _ _ _)
   ·intro S hS
    exact (HDL.out _ (HL9.out S hS)).mono (fun k hk=>by rcases hk with (hk|hk)|hk;exact .inl hk;exact .inr (by omega);exact .inr (by omega))
  have t4:(q.kind==4)=false:=by simp [hk4]
  have hk5:q.kind=5:=by have:=HKN.out;omega
  clear hk1 hk2 hk3 hk4
  have HR:=Lib.hid (HRS.out.trans (step_5 hk5))
  clear hk5
  have cM:=rrevoke_any (withN d d.next (useL d.opn q.nonce) A5 c5) q A c W9 HW9.out (HQ.out.ext HX9.out)
  obtain ⟨r,hr⟩:∃ r,revF { d.fro with opn:=useL d.opn q.nonce } q=r:=⟨_,rfl⟩
  rw [show (withN d d.next (useL d.opn q.nonce) A5 c5).fro={ d.fro with opn:=useL d.opn q.nonce } from rfl,hr] at cM
  rw [show d.fro.opn=d.opn from rfl,hr] at HR
  clear hr
  unfold outD frontV queV at cM
  simp only [withN] at cM
  go_wp2_with (go_at_call 61;refine cM.mono ?_;clear cM m0 m1 m2 m3 m4 m5 k0 k1 k2 k3 k4 k5 k6 k7 k8;rintro e w10 ⟨d',rfl,hfro,hdw,hdl,x10⟩;have HFR:=Lib.hid hfro;have HDW:=Lib.hid hdw;have HDL:=Lib.hid hdl;have HXA:=Lib.hid x10;have b2:=ext_blk x10 HZ9.out;obtain ⟨q0,q1,q2,q3,q4,q5,f0,f1,f2,f3,f4,f5⟩:=st6 b2;have BB:=Lib.hid (blk6 b2 (.int .i64 d'.next) (.slice d'.oA d'.opn.length d'.oc) (.slice d'.cA d'.accs.length d'.cc) (.slice d'.uA d'.auts.length d'.uc) (.slice d'.rA d'.ords.length d'.rc) (.int .i64 d'.ser));clear b2 hfro hdw hdl x10)
  rw [HR.out]
  obtain ⟨r0,r1,r2,r3,r4,r5⟩:=arr6f BB.out
  have hs9:=HS9.out
  refine bodyPost_ret (v:=.tuple #[.agg #[.int .i64 d'.next,.slice d'.oA d'.opn.length d'.oc,.slice d'.cA d'.accs.length d'.cc,.slice d'.uA d'.auts.length d'.uc,.slice d'.rA d'.ords.length d'.rc,.int .i64 d'.ser],.int .i64 r.2.1,.int .i64 (r.2.2:Nat)]) (by simp [results,Tryz.results19,go_sem,r0,r1,r2,r3,r4,r5]) rfl ⟨d',rfl,HFR.out,?_,?_,ext6 (HX9.out.trans HXA.out) (by omega) _ _ _ _ _ _⟩
  ·exact HDW.out.grownTo ((HDL.out _ HLL.out).mono (fun k hk=>by rcases hk with (hk|hk)|hk <;> omega)) (grown6 w10 (w.heap.size+2) _ _ _ _ _ _)
  ·intro S hS
   exact (HDL.out _ (HL9.out S hS)).mono (fun k hk=>by rcases hk with (hk|hk)|hk;exact .inl hk;exact .inr (by omega);exact .inr (by omega))
