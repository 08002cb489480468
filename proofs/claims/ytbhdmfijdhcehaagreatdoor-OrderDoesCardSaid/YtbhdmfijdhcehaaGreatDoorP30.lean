/- Parts of the proofs, put together: OrT25, OrT20, OrT21, OrT22, OrT16. -/
import Derived.Test.YtbhdmfijdhcehaaGreatDoorP29
set_option maxRecDepth 100000
set_option maxHeartbeats 64000000
namespace Go.Proofs.YtbhdmfijdhcehaaGreatDoor
open Go.RowKit Go.Shelf Go.Maps
set_option linter.unusedSimpArgs false
set_option linter.unusedVariables false
theorem own_far6 {w:World} {base:Nat} {e:TypeId} {size n:Nat} {v:Value} {xs:List Value} (h:w.ownsRow base e size v n xs) {g:Nat} (hg:g<base) (a b c d e' f:Value):World.ownsRow ((((((w.setCell ⟨g,0,none⟩ a).setCell ⟨g,1,none⟩ b).setCell ⟨g,2,none⟩ c).setCell ⟨g,3,none⟩ d).setCell ⟨g,4,none⟩ e').setCell ⟨g,5,none⟩ f) base e size v n xs :=
 own_far (own_far (own_far (own_far (own_far (own_far h hg 0 a) hg 1 b) hg 2 c) hg 3 d) hg 4 e') hg 5 f
theorem reads_blkL {W:World} {g:Nat} {T:TypeId} {xs:List Value} (k:Blk W g T xs.toArray):Reads W W.heap.size xs.length (some ⟨g,0,none⟩) 1 xs :=
 ⟨by simp,fun _=>⟨_,rfl,Blk.lt k,fun j u hj=>by
  rw [show (⟨g,0,none⟩:Addr).add j=⟨g,j,none⟩ by simp [Addr.add];exact fun h=>h.symm,k.cell j]
  simpa using hj⟩⟩
theorem rorder_any (d:DoorX) (q:QueR) (A:Option Addr) (c:Nat) (now:Int) (w:World) (hw:DoorW w w.heap.size d) (hq:QueW w w.heap.size q A c) (hacc:0≤q.acc∧q.acc<100) (hlen:d.auts.length+q.names.length<99) (hol:d.ords.length<100) :
  Calls Tryz.prog 58 #[frontV d,queV q A c,.int .i64 now] w (outD d (wantF d.fro q now) w):=by
 obtain ⟨W1,W0,e0,e1,b0,b1,x1,s1,b2,x2⟩:=start3r w #[.int .i64 d.next,.slice d.oA d.opn.length d.oc,.slice d.cA d.accs.length d.cc,.slice d.uA d.auts.length d.uc,.slice d.rA d.ords.length d.rc,.int .i64 d.ser] #[.int .i64 q.kind,.int .i64 q.acc,.int .i64 q.nonce,.int .u64 (q.key:Int),.slice A q.names.length c,.int .i64 q.life,.int .i64 q.id,.int .u64 (q.e:Int),.int .u64 (q.s:Int)] #[.int .i64 0,.slice none 0 0,.slice none 0 0,.slice none 0 0,.slice none 0 0,.int .i64 0] 43 27 43
 have HW:=Lib.hid (hw.ext (x1.trans x2))
 have HW_:=Lib.hid hw
 have HQK:=Lib.hid hq.key
 have HB0:=Lib.hid (ext_blk x2 b0)
 have HB1:=Lib.hid (ext_blk x2 b1)
 have HB2:=Lib.hid b2
 have HX0:=Lib.hid (x1.trans x2)
 have HSZ:Hid (w.heap.size+3≤W0.heap.size):=Lib.hid (by have:=b2.lt;omega)
 have E0:=Lib.hid e0
 have HQ:=Lib.hid hq
 have HACC:=Lib.hid hacc
 have HLEN:=Lib.hid hlen
 have HOL:=Lib.hid hol
 have hob:(d.ords.length:Int)<100:=by omega
 have HNLE:Hid (q.names.length≤1099511627776):=Lib.hid hq.nl
 unfold frontV queV
 clear e0 e1 b0 b1 x1 s1 b2 x2 hw hq hacc hlen hol
 go_enter Tryz.func58,Tryz.ntmps58
 go_upto_region 1 with (fail)
 have e0:=E0.out
 rw [e0]
 clear e0 E0
 go_cut [9] (fun s9 wx=>∃ g6 nA nc,s9=.pointer (some ⟨g6,0,none⟩)∧Blk wx g6 78 #[.int .i64 ((d.ords.length:Int)+1),.int .i64 q.acc,.slice nA q.names.length nc,.int .u64 (q.key:Int),.int .i64 q.life,.slice none 0 0,.int .i64 1,.int .i64 0]∧wx.ownsRow W0.heap.size 9 1 (.slice nA q.names.length nc) q.names.length (tv q.names)∧W0.heap.size≤g6∧Ext W0 wx)
 case first =>
  have hsum:IntKind.i64.wrap ((d.ords.length:Int)+1)=(d.ords.length:Int)+1:=by rw [IntKind.wrap_i64];omega
  have hnl:=HNLE.out
  obtain ⟨i0,hi,hz0,hz1,hz2⟩:=info_parts Tryz.infoStr
  have HC:Hid (∀ W,Ext W0 W→(W.cell? ⟨w.heap.size,4,none⟩=some (.slice d.rA d.ords.length d.rc)∧W.cell? ⟨w.heap.size+1,1,none⟩=some (.int .i64 q.acc)∧W.cell? ⟨w.heap.size+1,4,none⟩=some (.slice A q.names.length c)∧W.cell? ⟨w.heap.size+1,3,none⟩=some (.int .u64 (q.key:Int))∧W.cell? ⟨w.heap.size+1,5,none⟩=some (.int .i64 q.life))):=Lib.hid fun W x=>⟨(ext_blk x HB0.out).cell 4,(ext_blk x HB1.out).cell 1,(ext_blk x HB1.out).cell 4,(ext_blk x HB1.out).cell 3,(ext_blk x HB1.out).cell 5⟩
  have HRD:Hid (∀ W,Ext W0 W→Reads W W.heap.size 1 A q.names.length (tv q.names)):=Lib.hid fun W x=>(HQ.out.ext (HX0.out.trans x)).names
  refine E_start (n:=17) (ls:=#[false,false,false,false,false,false,false,false,false,false,false,false,false,false,false,false,false]) (fun w'=>w'.cell? ⟨w.heap.size,4,none⟩=some (.slice d.rA d.ords.length d.rc)∧w'.cell? ⟨w.heap.size+1,1,none⟩=some (.int .i64 q.acc)∧w'.cell? ⟨w.heap.size+1,4,none⟩=some (.slice A q.names.length c)∧w'.cell? ⟨w.heap.size+1,3,none⟩=some (.int .u64 (q.key:Int))∧w'.cell? ⟨w.heap.size+1,5,none⟩=some (.int .i64 q.life)) 16 (by kernel_rfl) (by kernel_rfl) (by kernel_rfl) (HC.out _ (Ext.refl W0).drew) (fun hHeld=>?_)
  refine E_tk (i:=0) (some 15) (v:=?_) rfl rfl (by kernel_rfl) hHeld (fun w hSw=>?_) ?_;rotate_left 1
  ·(try dsimp only at hSw);go_simp;try with_reducible rfl
  try simp only [Act.put,zpA,zpB,zpC]
  refine E_tk (i:=1) (some 16) (v:=?_) rfl rfl (by kernel_rfl) hHeld (fun w hSw=>?_) ?_;rotate_left 1
  ·(try dsimp only at hSw);go_simp;try with_reducible rfl
  try simp only [Act.put,zpA,zpB,zpC]
  refine E_tk (i:=2) (some 17) (v:=?_) rfl rfl (by kernel_rfl) hHeld (fun w hSw=>?_) ?_;rotate_left 1
  ·(try dsimp only at hSw);go_simp;try with_reducible rfl
  try simp only [Act.put,zpA,zpB,zpC]
  refine E_tk (i:=3) (some 18) (v:=?_) rfl rfl (by kernel_rfl) hHeld (fun w hSw=>?_) ?_;rotate_left 1
  ·(try dsimp only at hSw);go_simp;try with_reducible rfl
  try simp only [Act.put,zpA,zpB,zpC]
  refine E_tk (i:=4) (some 19) (v:=?_) rfl rfl (by kernel_rfl) hHeld (fun w hSw=>?_) ?_;rotate_left 1
  ·(try dsimp only at hSw);go_simp;try with_reducible rfl
  try simp only [Act.put,zpA,zpB,zpC]
  refine E_tk (i:=5) (some 20) (v:=?_) rfl rfl (by kernel_rfl) hHeld (fun w hSw=>?_) ?_;rotate_left 1
  ·(try dsimp only at hSw);go_simp;try with_reducible rfl
  try simp only [Act.put,zpA,zpB,zpC]
  refine E_tk (i:=7) (some 22) (v:=?_) rfl rfl (by kernel_rfl) hHeld (fun w hSw=>?_) ?_;rotate_left 1
  ·(try dsimp only at hSw);go_simp;try with_reducible rfl
  try simp only [Act.put,zpA,zpB,zpC]
  refine E_tk (i:=8) (some 23) (v:=?_) rfl rfl (by kernel_rfl) hHeld (fun w hSw=>?_) ?_;rotate_left 1
  ·(try dsimp only at hSw);go_simp;try with_reducible rfl
  try simp only [Act.put,zpA,zpB,zpC]
  refine E_tk (i:=10) (some 25) (v:=?_) rfl rfl (by kernel_rfl) hHeld (fun w hSw=>?_) ?_;rotate_left 1
  ·(try dsimp only at hSw);go_simp;try with_reducible rfl
  try simp only [Act.put,zpA,zpB,zpC]
  refine E_tk (i:=11) (some 26) (v:=?_) rfl rfl (by kernel_rfl) hHeld (fun w hSw=>?_) ?_;rotate_left 1
  ·(try dsimp only at hSw);go_simp;try with_reducible rfl
  try simp only [Act.put,zpA,zpB,zpC]
  refine E_tk (i:=12) (some 27) (v:=?_) rfl rfl (by kernel_rfl) hHeld (fun w hSw=>?_) ?_;rotate_left 1
  ·(try dsimp only at hSw);go_simp;try with_reducible rfl
  try simp only [Act.put,zpA,zpB,zpC]
  refine E_tk (i:=13) (some 28) (v:=?_) rfl rfl (by kernel_rfl) hHeld (fun w hSw=>?_) ?_;rotate_left 1
  ·(try dsimp only at hSw);go_simp;try with_reducible rfl
  try simp only [Act.put,zpA,zpB,zpC]
  refine E_tw (i:=6) (k:=15) rfl rfl (by kernel_rfl) (by kernel_rfl) (by kernel_rfl) (fun K hK=>?_) (fun K hK=>?_)
  ·go_simp
   replace hHeld:=HC.out _ (((Ext.refl W0).drew).alloc (.cells #[] 9))
   refine hK _ _ (fun _=>hHeld) ?_
   clear hK K
   try simp only [Act.put,zpA,zpB,zpC]
   refine E_tw (i:=9) (k:=15) rfl rfl (by kernel_rfl) (by kernel_rfl) (by kernel_rfl) (fun K hK=>?_) (fun K hK=>?_)
   ·refine wp_append_any _ (.tmp 21) (.tmp 23) 23 rfl W0.heap.size 9 i0 (.string ⟨#[]⟩) 1 16 Tryz.underlying23 hi hz0 hz1 hz2 rfl (by decide) (.slice (some ⟨W0.heap.size,0,none⟩) 0 0) 0 [] rfl (own_empty W0.drew W0.heap.size W0.heap.size rfl (Nat.le_refl _) 9 1) _ A q.names.length c (tv q.names) rfl (HRD.out _ (((Ext.refl W0).drew).alloc (.cells #[] 9))) (tv_one _) (by simp only [maxLen];omega) (by omega) (by simp;try omega) ?_
    intro v8 w8 hown8 hg8 _
    rw [Nat.zero_add,List.nil_append] at hown8
    have HX8:Hid (Ext W0 w8):=Lib.hid (ext_grown (((Ext.refl W0).drew).alloc (.cells #[] 9)) (own_empty W0.drew W0.heap.size W0.heap.size rfl (Nat.le_refl _) 9 1) hg8)
    obtain ⟨nA,nc,rfl,hc8,-⟩:=own_slice2 hown8
    have O8:=Lib.hid hown8
    clear hown8 hg8
    replace hHeld:=HC.out _ HX8.out
    refine hK _ _ (fun _=>hHeld) ?_
    clear hK K
    try simp only [Act.put,zpA,zpB,zpC]
    refine E_tk (i:=14) (some 29) (v:=?_) rfl rfl (by kernel_rfl) hHeld (fun w hSw=>?_) ?_;rotate_left 1
    ·(try dsimp only at hSw);go_simp;try with_reducible rfl
    try simp only [Act.put,zpA,zpB,zpC]
    refine E_on (i:=15) rfl (by kernel_rfl) (by kernel_rfl) (fun K hK=>?_)
    go_simp
    replace hHeld:=HC.out _ (HX8.out.alloc (.cells #[.int .i64 0,.int .i64 0,.slice none 0 0,.int .u64 0,.int .i64 0,.slice none 0 0,.int .i64 0,.int .i64 0] 78))
    refine hK _ _ (fun _=>hHeld) ?_
    clear hK K
    try simp only [Act.put,zpA,zpB,zpC]
    refine E_on (i:=16) rfl (by kernel_rfl) (by kernel_rfl) (fun K hK=>?_)
    clear hHeld
    go_simp
    refine hK _ _ (fun h=>absurd rfl h) ?_
    clear hK K
    try simp only [Act.put,zpA,zpB,zpC]
    refine E_done (by kernel_rfl) ?_
    go_wp2
    go_meet
    exact ⟨w8.heap.size,nA,nc,rfl,Blk.new _ _ _,O8.out.alloc _,HX8.out.size,HX8.out.alloc _⟩
   ·go_simp
    replace hHeld:=HC.out _ ((((Ext.refl W0).drew).alloc (.cells #[] 9)).alloc (.cells #[.int .i64 0,.int .i64 0,.slice none 0 0,.int .u64 0,.int .i64 0,.slice none 0 0,.int .i64 0,.int .i64 0] 78))
    refine hK _ _ (fun _=>hHeld) ?_
    clear hK K
    try simp only [Act.put,zpA,zpB,zpC]
    refine E_on (i:=9) rfl (by kernel_rfl) (by kernel_rfl) (fun K hK=>?_)
    refine wp_append_any _ (.tmp 21) (.tmp 23) 23 rfl W0.heap.size 9 i0 (.string ⟨#[]⟩) 1 16 Tryz.underlying23 hi hz0 hz1 hz2 rfl (by decide) (.slice (some ⟨W0.heap.size,0,none⟩) 0 0) 0 [] rfl ((own_empty W0.drew W0.heap.size W0.heap.size rfl (Nat.le_refl _) 9 1).alloc (.cells #[.int .i64 0,.int .i64 0,.slice none 0 0,.int .u64 0,.int .i64 0,.slice none 0 0,.int .i64 0,.int .i64 0] 78)) _ A q.names.length c (tv q.names) rfl (HRD.out _ ((((Ext.refl W0).drew).alloc (.cells #[] 9)).alloc (.cells #[.int .i64 0,.int .i64 0,.slice none 0 0,.int .u64 0,.int .i64 0,.slice none 0 0,.int .i64 0,.int .i64 0] 78))) (tv_one _) (by simp only [maxLen];omega) (by omega) (by simp;try omega) ?_
    intro v8 w8 hown8 hg8 _
    rw [Nat.zero_add,List.nil_append] at hown8
    have HX8:Hid (Ext W0 w8):=Lib.hid (ext_grown ((((Ext.refl W0).drew).alloc (.cells #[] 9)).alloc (.cells #[.int .i64 0,.int .i64 0,.slice none 0 0,.int .u64 0,.int .i64 0,.slice none 0 0,.int .i64 0,.int .i64 0] 78)) ((own_empty W0.drew W0.heap.size W0.heap.size rfl (Nat.le_refl _) 9 1).alloc (.cells #[.int .i64 0,.int .i64 0,.slice none 0 0,.int .u64 0,.int .i64 0,.slice none 0 0,.int .i64 0,.int .i64 0] 78)) hg8)
    obtain ⟨nA,nc,rfl,hc8,-⟩:=own_slice2 hown8
    have O8:=Lib.hid hown8
    have hz:=Blk.grown (Blk.new (W0.drew.alloc (.cells #[] 9)) 78 #[.int .i64 0,.int .i64 0,.slice none 0 0,.int .u64 0,.int .i64 0,.slice none 0 0,.int .i64 0,.int .i64 0]) hg8 (by simp [Value.ownBlock])
    rw [show (W0.drew.alloc (.cells #[] 9)).heap.size=W0.heap.size+1 by simp] at hz
    clear hown8 hg8
    replace hHeld:=HC.out _ HX8.out
    refine hK _ _ (fun _=>hHeld) ?_
    clear hK K
    try simp only [Act.put,zpA,zpB,zpC]
    refine E_tk (i:=14) (some 29) (v:=?_) rfl rfl (by kernel_rfl) hHeld (fun w hSw=>?_) ?_;rotate_left 1
    ·(try dsimp only at hSw);go_simp;try with_reducible rfl
    try simp only [Act.put,zpA,zpB,zpC]
    refine E_on (i:=16) rfl (by kernel_rfl) (by kernel_rfl) (fun K hK=>?_)
    clear hHeld
    obtain ⟨z0,z1,z2,z3,z4,z5,z6,z7⟩:=arr8 hz
    have f0:=hz.frozen 0
    have f1:=hz.frozen 1
    have f2:=hz.frozen 2
    have f3:=hz.frozen 3
    have f4:=hz.frozen 4
    have f5:=hz.frozen 5
    have f6:=hz.frozen 6
    have f7:=hz.frozen 7
    have HZ:=Lib.hid hz
    clear hz
    go_simp
    refine hK _ _ (fun h=>absurd rfl h) ?_
    clear hK K
    try simp only [Act.put,zpA,zpB,zpC]
    refine E_done (by kernel_rfl) ?_
    go_wp2
    go_meet
    exact ⟨W0.heap.size+1,nA,nc,rfl,set8_blk HZ.out _ _ _ _ _ _ _ _,set8_own O8.out HZ.out (by decide) _ _ _ _ _ _ _ _,by omega,set8_ext HX8.out (by omega) _ _ _ _ _ _ _ _⟩
  ·go_simp
   replace hHeld:=HC.out _ (((Ext.refl W0).drew).alloc (.cells #[.int .i64 0,.int .i64 0,.slice none 0 0,.int .u64 0,.int .i64 0,.slice none 0 0,.int .i64 0,.int .i64 0] 78))
   refine hK _ _ (fun _=>hHeld) ?_
   clear hK K
   try simp only [Act.put,zpA,zpB,zpC]
   refine E_on (i:=6) rfl (by kernel_rfl) (by kernel_rfl) (fun K hK=>?_)
   go_simp
   replace hHeld:=HC.out _ ((((Ext.refl W0).drew).alloc (.cells #[.int .i64 0,.int .i64 0,.slice none 0 0,.int .u64 0,.int .i64 0,.slice none 0 0,.int .i64 0,.int .i64 0] 78)).alloc (.cells #[] 9))
   refine hK _ _ (fun _=>hHeld) ?_
   clear hK K
   try simp only [Act.put,zpA,zpB,zpC]
   refine E_on (i:=9) rfl (by kernel_rfl) (by kernel_rfl) (fun K hK=>?_)
   refine wp_append_any _ (.tmp 21) (.tmp 23) 23 rfl W0.heap.size 9 i0 (.string ⟨#[]⟩) 1 16 Tryz.underlying23 hi hz0 hz1 hz2 rfl (by decide) (.slice (some ⟨W0.heap.size+1,0,none⟩) 0 0) 0 [] rfl (own_empty (W0.drew.alloc (.cells #[.int .i64 0,.int .i64 0,.slice none 0 0,.int .u64 0,.int .i64 0,.slice none 0 0,.int .i64 0,.int .i64 0] 78)) W0.heap.size (W0.heap.size+1) (by simp) (by omega) 9 1) _ A q.names.length c (tv q.names) rfl (HRD.out _ ((((Ext.refl W0).drew).alloc (.cells #[.int .i64 0,.int .i64 0,.slice none 0 0,.int .u64 0,.int .i64 0,.slice none 0 0,.int .i64 0,.int .i64 0] 78)).alloc (.cells #[] 9))) (tv_one _) (by simp only [maxLen];omega) (by omega) (by simp;try omega) ?_
   intro v8 w8 hown8 hg8 _
   rw [Nat.zero_add,List.nil_append] at hown8
   have HX8:Hid (Ext W0 w8):=Lib.hid (ext_grown ((((Ext.refl W0).drew).alloc (.cells #[.int .i64 0,.int .i64 0,.slice none 0 0,.int .u64 0,.int .i64 0,.slice none 0 0,.int .i64 0,.int .i64 0] 78)).alloc (.cells #[] 9)) (own_empty (W0.drew.alloc (.cells #[.int .i64 0,.int .i64 0,.slice none 0 0,.int .u64 0,.int .i64 0,.slice none 0 0,.int .i64 0,.int .i64 0] 78)) W0.heap.size (W0.heap.size+1) (by simp) (by omega) 9 1) hg8)
   obtain ⟨nA,nc,rfl,hc8,-⟩:=own_slice2 hown8
   have O8:=Lib.hid hown8
   have hz:=Blk.grown ((Blk.new W0.drew 78 #[.int .i64 0,.int .i64 0,.slice none 0 0,.int .u64 0,.int .i64 0,.slice none 0 0,.int .i64 0,.int .i64 0]).alloc (.cells #[] 9)) hg8 (by simp [Value.ownBlock])
   rw [show W0.drew.heap.size=W0.heap.size from rfl] at hz
   clear hown8 hg8
   replace hHeld:=HC.out _ HX8.out
   refine hK _ _ (fun _=>hHeld) ?_
   clear hK K
   try simp only [Act.put,zpA,zpB,zpC]
   refine E_tk (i:=14) (some 29) (v:=?_) rfl rfl (by kernel_rfl) hHeld (fun w hSw=>?_) ?_;rotate_left 1
   ·(try dsimp only at hSw);go_simp;try with_reducible rfl
   try simp only [Act.put,zpA,zpB,zpC]
   refine E_on (i:=16) rfl (by kernel_rfl) (by kernel_rfl) (fun K hK=>?_)
   clear hHeld
   obtain ⟨z0,z1,z2,z3,z4,z5,z6,z7⟩:=arr8 hz
   have f0:=hz.frozen 0
   have f1:=hz.frozen 1
   have f2:=hz.frozen 2
   have f3:=hz.frozen 3
   have f4:=hz.frozen 4
   have f5:=hz.frozen 5
   have f6:=hz.frozen 6
   have f7:=hz.frozen 7
   have HZ:=Lib.hid hz
   clear hz
   go_simp
   refine hK _ _ (fun h=>absurd rfl h) ?_
   clear hK K
   try simp only [Act.put,zpA,zpB,zpC]
   refine E_done (by kernel_rfl) ?_
   go_wp2
   go_meet
   exact ⟨W0.heap.size,nA,nc,rfl,set8_blk HZ.out _ _ _ _ _ _ _ _,set8_own O8.out HZ.out (by decide) _ _ _ _ _ _ _ _,Nat.le_refl _,set8_ext HX8.out (Nat.le_refl _) _ _ _ _ _ _ _ _⟩
 case rest =>
  obtain ⟨g6,nA,nc,rfl,ho6,hn6,hg6,hx6⟩:=hcut
  obtain ⟨W1,hW1⟩:∃ W,W=wc:=⟨_,rfl⟩
  rw [← hW1] at ho6 hn6 hx6 ⊢
  have HO1:=Lib.hid ho6
  have HN1:=Lib.hid hn6
  have HG6:=Lib.hid hg6
  have HX1:=Lib.hid hx6
  have H61:Hid (g6<W1.heap.size):=Lib.hid (Blk.lt ho6)
  clear ho6 hn6 hg6 hx6 hW1
  have m3':=((ext_blk HX1.out HB0.out).alloc (.cells #[] 69)).cell 3
  have HRA:=Lib.hid (((HW.out.ext HX1.out).aut).alloc (Nat.le_refl _) (.cells #[] 69))
  have HUL:Hid (d.auts.length<99):=Lib.hid (by have:=HLEN.out;omega)
  obtain ⟨i1,hj1,hy0,hy1,hy2⟩:=info_parts Tryz.infoAut
  obtain ⟨i2,hk1,hw0,hw1,hw2⟩:=info_parts Tryz.infoInt
  obtain ⟨i3,hl1,hv0,hv1,hv2⟩:=info_parts Tryz.infoOrd
  go_upto_region 3 with (at_builtin;refine wpList_append_any _ rfl (.tmp 30) (.tmp 32) 40 rfl W1.heap.size 69 i1 (.agg #[.int .i64 0,.int .i64 0,.string ⟨#[]⟩,.string ⟨#[]⟩,.int .i64 0,.int .i64 0,.int .i64 0]) 7 72 Tryz.underlying40 hj1 hy0 hy1 hy2 rfl (by decide) _ 0 [] rfl (own_empty W1 _ _ rfl (Nat.le_refl _) _ _) W1.heap.size d.uA d.auts.length d.uc (autV d.auts) rfl HRA.out (autV_one _) (by have:=HUL.out;simp only [maxLen];omega) (by have:=HUL.out;omega) (by simp) ?_;intro v8 w8 hown8 hg8 _;rw [Nat.zero_add,List.nil_append] at hown8;have X8:=ext_grown ((Ext.refl W1).alloc _) (own_empty W1 _ _ rfl (Nat.le_refl _) 69 7) hg8;obtain ⟨uA0,uc0,rfl,-,-⟩:=own_slice2 hown8;have HX8:=Lib.hid X8;have HO8:=Lib.hid hown8;clear hown8 hg8 X8 m3')
  have HST:Hid (ordSt W1 W0.heap.size g6 d now q nA nc 0 (.slice uA0 d.auts.length uc0) w8):=Lib.hid ⟨d.auts,[],uA0,uc0,none,0,rfl,rfl,⟨(But.refl g6 g6 W1).ext HX8.out,own_ext HN1.out HX8.out,HO8.out,ext_blk HX8.out HO1.out,⟨rfl,.inl ⟨rfl,rfl⟩⟩⟩,by omega,HW_.out.uw,by simp,rfl⟩
  go_wp2
  go_loopg [10,11] q.names.length (fun m s10 s11 wr=>∃ j:Nat,j+m=q.names.length∧s11=.int .i64 j∧ordSt W1 W0.heap.size g6 d now q nA nc j s10 wr)
  case atStart=>exact ⟨0,by omega,rfl,HST.out⟩
  case round =>
   obtain ⟨j,hj,rfl,L,ns,uA,uc,aA,ac,hfo,rfl,hT,hLl,hLw,hns,hnl⟩:=hrel
   have hjb:(j:Int)≤1099511627776:=by have:=HNLE.out;omega
   have HJ:=Lib.hid hj
   have HFO:=Lib.hid hfo
   have HT:=Lib.hid hT
   have HLL:=Lib.hid hLl
   have HLW:=Lib.hid hLw
   have HNS:=Lib.hid hns
   have HNL:Hid (ns.length=j∧j<99):=Lib.hid ⟨hnl,by have:=HLEN.out;omega⟩
   have HLN:Hid (L.length<99):=Lib.hid (by have:=HLEN.out;omega)
   have HXR:=Lib.hid (hT.out HX1.out HG6.out)
   have y4:=(ext_blk HXR.out HB1.out).cell 4
   by_cases h:j<q.names.length
   ·obtain ⟨s,hs⟩:∃ s,q.names[j]?=some s:=⟨_,List.getElem?_eq_getElem h⟩
    obtain ⟨ad,rfl,p0⟩:=reads_text (HQ.out.ext HX0.out).names hs
    have HCQ:Hid (∀ W,Ext W0 W→(W.cell? ⟨w.heap.size+1,1,none⟩=some (.int .i64 q.acc)∧W.cell? ⟨w.heap.size+1,4,none⟩=some (.slice (some ad) q.names.length c)∧W.cell? (ad.add j)=some (.string s))):=Lib.hid fun W x=>⟨(ext_blk x HB1.out).cell 1,(ext_blk x HB1.out).cell 4,x.cell p0⟩
    have hjl:(j:Int)<(q.names.length:Int):=by omega
    have HHS:=Lib.hid hs
    have HSN:Hid (s.size≤140737488355328):=Lib.hid (HQ.out.ns s (List.mem_of_getElem? hs))
    obtain ⟨G,hG⟩:∃ G,G=gk-1:=⟨_,rfl⟩
    have HG:=Lib.hid hG
    clear hj hfo hT hLl hLw hns hnl hs p0 h hG
    go_wp2
    obtain ⟨V,hV⟩:∃ W,W=wr:=⟨_,rfl⟩
    rw [← hV] at HT HXR y4 ⊢
    clear hV
    go_loopg [12,13] L.length (fun m s12 s13 wr=>∃ (k:Nat) (x y:Int),k=m∧x=(k:Int)∧y=(numF (sameA q.acc now s) L k:Int)∧s12=.int .i64 y∧s13=.int .i64 x∧k≤L.length∧Ext V wr)
    case atStart=>exact ⟨L.length,_,_,rfl,rfl,by rw [numF_end];rfl,rfl,rfl,Nat.le_refl _,Ext.refl _⟩
    case round =>
     obtain ⟨k,x0,y,hk,hx0,hy,rfl,rfl,hkl,hx⟩:=hrel
     by_cases hk0:k=0
     ·have ex:x0=0:=by omega
      subst ex
      have ey:y=(numF (sameA q.acc now s) L 0:Int):=by rw [hy,hk0]
      have HT5:=Lib.hid (HT.out.ext hx)
      have HX5:=Lib.hid (HXR.out.trans hx)
      obtain ⟨w5,hw5⟩:∃ W,W=wr:=⟨_,rfl⟩
      rw [← hw5] at HT5 HX5 ⊢
      clear hw5 hx hk hx0 hy hkl hk0 y4
      cases hf:findA L q.acc s now with
      | some i =>
       have e1:y=(i:Int)+1:=by rw [ey,numF_some hf];omega
       subst e1
       have hil:i<L.length:=(List.findIdx?_eq_some_iff_getElem.1 hf).1
       have hib:(i:Int)<99:=by have:=HLN.out;omega
       have hne0:((i:Int)+1==0)=false:=by simp;omega
       have f5:=HT5.out.ord.cell 5
       have HF:=Lib.hid hf
       clear hf hil ey
       go_wp2_with (at_builtin;refine wpList_append_own _ rfl (.tmp 101) (.tmp 103) 76 rfl W1.heap.size 3 i2 (.int .i64 0) 1 8 Tryz.underlying76 hk1 hw0 hw1 hw2 rfl (by decide) _ _ _ rfl (HT5.out.num.alloc _) ⟨w5.heap.size,0,none⟩ 1 1 [.int .i64 ((i:Int)+1)] rfl rfl (cell_one_new _ _ _) (by simp [Value.oneCell']) (by have:=HNL.out;simp only [maxLen];omega) (by have:=HNL.out;omega) (by have:=HT5.out.but.size;simp;omega) ?_;intro v6 w6 hown6 hg6 _;obtain ⟨b6,A6,c6,rfl,ht6⟩:=(HT5.out.ext ((Ext.refl _).alloc _)).addN H61.out ((i:Int)+1) hown6 hg6;have f5:=b6.cell 5;have f6:=b6.frozen 5;have HT6:=Lib.hid ht6;clear b6 hown6 hg6 ht6)
       have hj:=HJ.out
       have hG:=HG.out
       go_roundg G
       case measure=>omega
       case rel=>exact ⟨j+1,by omega,int_congr (by omega),ordSt_old HHS.out HFO.out HLL.out HLW.out HNS.out HNL.out.1 HF.out HT6.out⟩
      | none =>
       have e1:y=0:=by rw [ey,numF_none hf];rfl
       subst e1
       have hLb:(L.length:Int)<99:=by have:=HLN.out;omega
       have hsum:IntKind.i64.wrap ((L.length:Int)+1)=(L.length:Int)+1:=by rw [IntKind.wrap_i64];omega
       have cT:=fun W=>rToken_any ((L.length:Int)+1) q.acc (by omega) (by omega) HACC.out.1 HACC.out.2 W
       have HF:=Lib.hid hf
       clear hf ey
       go_upto_region 15 with (fail)
       refine E_start (n:=17) (ls:=#[false,false,false,false,false,false,false,false,false,false,false,false,false,false,false,false,false]) (fun w'=>w'.cell? ⟨w.heap.size+1,1,none⟩=some (.int .i64 q.acc)∧w'.cell? ⟨w.heap.size+1,4,none⟩=some (.slice (some ad) q.names.length c)∧w'.cell? (ad.add j)=some (.string s)) 16 (by kernel_rfl) (by kernel_rfl) (by kernel_rfl) (HCQ.out _ (HT5.out.out HX1.out HG6.out).drew) (fun hHeld=>?_)
       refine E_tk (i:=0) (some 84) (v:=?_) rfl rfl (by kernel_rfl) hHeld (fun w hSw=>?_) ?_;rotate_left 1
       ·(try dsimp only at hSw);go_simp;try with_reducible rfl
       try simp only [Act.put,zpA,zpB,zpC]
       refine E_tk (i:=1) (some 85) (v:=?_) rfl rfl (by kernel_rfl) hHeld (fun w hSw=>?_) ?_;rotate_left 1
       ·(try dsimp only at hSw);go_simp;try with_reducible rfl
       try simp only [Act.put,zpA,zpB,zpC]
       refine E_tk (i:=2) (some 86) (v:=?_) rfl rfl (by kernel_rfl) hHeld (fun w hSw=>?_) ?_;rotate_left 1
       ·(try dsimp only at hSw);go_simp;try with_reducible rfl
       try simp only [Act.put,zpA,zpB,zpC]
       refine E_tk (i:=3) (some 87) (v:=?_) rfl rfl (by kernel_rfl) hHeld (fun w hSw=>?_) ?_;rotate_left 1
       ·(try dsimp only at hSw);go_simp;try with_reducible rfl
       try simp only [Act.put,zpA,zpB,zpC]
       refine E_tk (i:=4) (some 88) (v:=?_) rfl rfl (by kernel_rfl) hHeld (fun w hSw=>?_) ?_;rotate_left 1
       ·(try dsimp only at hSw);go_simp;try with_reducible rfl
       try simp only [Act.put,zpA,zpB,zpC]
       refine E_tk (i:=5) (some 89) (v:=?_) rfl rfl (by kernel_rfl) hHeld (fun w hSw=>?_) ?_;rotate_left 1
       ·(try dsimp only at hSw);go_simp;try with_reducible rfl
       try simp only [Act.put,zpA,zpB,zpC]
       refine E_tk (i:=6) (some 90) (v:=?_) rfl rfl (by kernel_rfl) hHeld (fun w hSw=>?_) ?_;rotate_left 1
       ·(try dsimp only at hSw);go_simp;try with_reducible rfl
       try simp only [Act.put,zpA,zpB,zpC]
       refine E_tk (i:=7) (some 91) (v:=?_) rfl rfl (by kernel_rfl) hHeld (fun w hSw=>?_) ?_;rotate_left 1
       ·(try dsimp only at hSw);go_simp;try with_reducible rfl
       try simp only [Act.put,zpA,zpB,zpC]
       refine E_tk (i:=8) (some 92) (v:=?_) rfl rfl (by kernel_rfl) hHeld (fun w hSw=>?_) ?_;rotate_left 1
       ·(try dsimp only at hSw);go_simp;try with_reducible rfl
       try simp only [Act.put,zpA,zpB,zpC]
       refine E_tk (i:=9) (some 93) (v:=?_) rfl rfl (by kernel_rfl) hHeld (fun w hSw=>?_) ?_;rotate_left 1
       ·(try dsimp only at hSw);go_simp;try with_reducible rfl
       try simp only [Act.put,zpA,zpB,zpC]
       refine E_tk (i:=10) (some 94) (v:=?_) rfl rfl (by kernel_rfl) hHeld (fun w hSw=>?_) ?_;rotate_left 1
       ·(try dsimp only at hSw);go_simp;try with_reducible rfl
       try simp only [Act.put,zpA,zpB,zpC]
       refine E_tk (i:=11) (some 95) (v:=?_) rfl rfl (by kernel_rfl) hHeld (fun w hSw=>?_) ?_;rotate_left 1
       ·(try dsimp only at hSw);go_simp;try with_reducible rfl
       try simp only [Act.put,zpA,zpB,zpC]
       refine E_on (i:=12) rfl (by kernel_rfl) (by kernel_rfl) (fun K hK=>?_)
       go_simp
       go_at_call 112
       refine (cT _).mono ?_
       clear cT
       rintro e w6 ⟨rfl,rfl⟩
       replace hHeld:=HCQ.out _ (HT5.out.out HX1.out HG6.out).drew
       refine hK _ _ (fun _=>hHeld) ?_
       clear hK K
       try simp only [Act.put,zpA,zpB,zpC]
       refine E_tk (i:=13) (some 97) (v:=?_) rfl rfl (by kernel_rfl) hHeld (fun w hSw=>?_) ?_;rotate_left 1
       ·(try dsimp only at hSw);go_simp;try with_reducible rfl
       try simp only [Act.put,zpA,zpB,zpC]
       refine E_on (i:=14) rfl (by kernel_rfl) (by kernel_rfl) (fun K hK=>?_)
       go_simp
       replace hHeld:=HCQ.out _ ((HT5.out.out HX1.out HG6.out).drew.alloc (.cells #[.int .i64 ((L.length:Int)+1),.int .i64 q.acc,.string s,.string (tokS ((L.length:Int)+1) q.acc),.int .i64 1,.int .i64 0,.int .i64 0] 69))
       refine hK _ _ (fun _=>hHeld) ?_
       clear hK K
       try simp only [Act.put,zpA,zpB,zpC]
       refine E_on (i:=15) rfl (by kernel_rfl) (by kernel_rfl) (fun K hK=>?_)
       refine wp_append_any _ (.tmp 84) (.tmp 98) 40 rfl W1.heap.size 69 i1 (.agg #[.int .i64 0,.int .i64 0,.string ⟨#[]⟩,.string ⟨#[]⟩,.int .i64 0,.int .i64 0,.int .i64 0]) 7 72 Tryz.underlying40 hj1 hy0 hy1 hy2 rfl (by decide) (.slice uA L.length uc) L.length (autV L) rfl ((HT5.out.own.drew).alloc _) _ (some ⟨w5.heap.size,0,none⟩) 1 1 [.int .i64 ((L.length:Int)+1),.int .i64 q.acc,.string s,.string (tokS ((L.length:Int)+1) q.acc),.int .i64 1,.int .i64 0,.int .i64 0] rfl (reads_newL w5.drew _ _) (by simp [Value.oneCell']) (by have:=HLN.out;simp only [maxLen];omega) (by have:=HLN.out;omega) (by have:=HT5.out.but.size;simp;omega) ?_
       intro v7 w7 hown7 hg7 _
       obtain ⟨A7,c7,rfl,ht7⟩:=(HT5.out.ext ((Ext.refl w5).drew.alloc (.cells #[.int .i64 ((L.length:Int)+1),.int .i64 q.acc,.string s,.string (tokS ((L.length:Int)+1) q.acc),.int .i64 1,.int .i64 0,.int .i64 0] 69))).addU H61.out (newA L.length q.acc s) hown7 hg7
       have HT7:=Lib.hid ht7
       clear hown7 hg7 ht7
       replace hHeld:=HCQ.out _ (HT7.out.out HX1.out HG6.out)
       refine hK _ _ (fun _=>hHeld) ?_
       clear hK K
       try simp only [Act.put,zpA,zpB,zpC]
       refine E_on (i:=16) rfl (by kernel_rfl) (by kernel_rfl) (fun K hK=>?_)
       clear hHeld
       go_simp
       refine hK _ _ (fun h=>absurd rfl h) ?_
       clear hK K
       try simp only [Act.put,zpA,zpB,zpC]
       refine E_done (by kernel_rfl) ?_
       have f5:=HT7.out.ord.cell 5
       go_wp2_with (at_builtin;refine wpList_append_own _ rfl (.tmp 101) (.tmp 103) 76 rfl W1.heap.size 3 i2 (.int .i64 0) 1 8 Tryz.underlying76 hk1 hw0 hw1 hw2 rfl (by decide) _ _ _ rfl (HT7.out.num.alloc _) ⟨w7.heap.size,0,none⟩ 1 1 [.int .i64 ((L.length:Int)+1)] rfl rfl (cell_one_new _ _ _) (by simp [Value.oneCell']) (by have:=HNL.out;simp only [maxLen];omega) (by have:=HNL.out;omega) (by have:=HT7.out.but.size;simp;omega) ?_;intro v6 w6 hown6 hg6 _;obtain ⟨b6,A6,c6,rfl,ht6⟩:=(HT7.out.ext ((Ext.refl _).alloc _)).addN H61.out ((L.length:Int)+1) hown6 hg6;have f5:=b6.cell 5;have f6:=b6.frozen 5;have HT6:=Lib.hid ht6;clear b6 hown6 hg6 ht6)
       have hj:=HJ.out
       have hG:=HG.out
       go_roundg G
       case measure=>omega
       case rel=>exact ⟨j+1,by omega,int_congr (by omega),by have h:=ordSt_new HHS.out HFO.out HLL.out HLW.out HNS.out HNL.out.1 HF.out HLN.out HACC.out HSN.out HT6.out;rw [show (L++[newA L.length q.acc s]).length=L.length+1 by simp] at h;exact h⟩
     ·obtain ⟨k,rfl⟩:∃ k1,k=k1+1:=⟨k-1,by omega⟩
      have ex:x0=(k:Int)+1:=by omega
      subst ex
      obtain ⟨x,hxl⟩:∃ x,L[k]?=some x:=⟨_,List.getElem?_eq_getElem (by omega)⟩
      obtain ⟨au,hA,hlA,q0,q1,q2,q3,q4,q5,q6⟩:=reads_aut (Reads.of_own (HT.out.ext hx).own) hxl
      subst hA
      have kid:IntKind.i64.wrap ((k:Int)+1-1)=(k:Int):=by have:=HLN.out;rw [IntKind.wrap_i64];omega
      have hkL:(k:Int)<(L.length:Int):=by omega
      have hkb:(k:Int)<99:=by have:=HLN.out;omega
      have hge:(1:Int)≤(k:Int)+1:=by omega
      obtain ⟨G2,hG2⟩:∃ G,G=gk-1:=⟨_,rfl⟩
      have HG2:=Lib.hid hG2
      have HK:=Lib.hid hk
      have HKL:=Lib.hid hkl
      have HY:=Lib.hid hy
      have HX_:=Lib.hid hxl
      have HX:=Lib.hid hx
      clear hG2 hk hkl hy hxl hx hx0 hk0 hlA
      go_upto_region 11 with (fail)
      obtain ⟨W3,e3⟩:∃ W,wr.alloc (.cells #[.int .i64 x.id,.int .i64 x.acc,.string x.name,.string x.tok,.int .i64 x.st,.int .i64 x.fr,.int .i64 x.un] 69)=W:=⟨_,rfl⟩
      try rw [e3]
      have HX3:Hid (Ext V W3):=Lib.hid (by rw [← e3];exact HX.out.alloc _)
      have B3:Blk W3 wr.heap.size 69 #[.int .i64 x.id,.int .i64 x.acc,.string x.name,.string x.tok,.int .i64 x.st,.int .i64 x.fr,.int .i64 x.un]:=by rw [← e3];exact Blk.new _ _ _
      clear e3 q0 q1 q2 q3 q4 q5 q6 y4
      have j1:=fun i:Later W3=>i.cell (B3.cell 1)
      have j2:=fun i:Later W3=>i.cell (B3.cell 2)
      have j4:=fun i:Later W3=>i.cell (B3.cell 4)
      have j6:=fun i:Later W3=>i.cell (B3.cell 6)
      have i1:=fun i:Later W3=>i.cell (HCQ.out W3 (HXR.out.trans HX3.out)).1
      have i2:=fun i:Later W3=>i.cell (HCQ.out W3 (HXR.out.trans HX3.out)).2.1
      have i3:=fun i:Later W3=>i.cell (HCQ.out W3 (HXR.out.trans HX3.out)).2.2
      clear B3
      by_cases g1:x.acc=q.acc
      case neg =>
       have d1:(x.acc==q.acc)=false:=by simp [g1]
       have hh:sameA q.acc now s x=false:=by simp [sameA,g1]
       have HNK:=Lib.hid (numF_no HX_.out hh)
       clear hh
       clear g1
       refine wp_region_later (by kernel_rfl) (by kernel_rfl) ?_
       repeat (go_big_quiet_step ((fail)))
       refine wpQuiet_nil ?_
       rintro W4 ⟨p,hp⟩
       have HX4:Hid (Ext V W4):=Lib.hid (by rw [hp];exact HX3.out.trans p.ext)
       clear hp p j1 j2 j4 j6 i1 i2 i3
       go_wp2
       have hnk:=HNK.out
       have hG2:=HG2.out
       have hk:=HK.out
       have hkl:k≤L.length:=by have:=HKL.out;omega
       go_roundg G2
       case measure=>omega
       case rel=>exact ⟨k,(k:Int),y,by omega,rfl,by rw [hnk];exact HY.out,rfl,rfl,hkl,HX4.out⟩
      have d1:(x.acc==q.acc)=true:=by simp [g1]
      by_cases g2:x.name=s
      case neg =>
       have d2:(x.name.toList==s.toList)=false:=str_beq_false g2
       have hh:sameA q.acc now s x=false:=by simp [sameA,g2]
       have HNK:=Lib.hid (numF_no HX_.out hh)
       clear hh
       clear g2
       refine wp_region_later (by kernel_rfl) (by kernel_rfl) ?_
       repeat (go_big_quiet_step ((fail)))
       refine wpQuiet_nil ?_
       rintro W4 ⟨p,hp⟩
       have HX4:Hid (Ext V W4):=Lib.hid (by rw [hp];exact HX3.out.trans p.ext)
       clear hp p j1 j2 j4 j6 i1 i2 i3
       go_wp2
       have hnk:=HNK.out
       have hG2:=HG2.out
       have hk:=HK.out
       have hkl:k≤L.length:=by have:=HKL.out;omega
       go_roundg G2
       case measure=>omega
       case rel=>exact ⟨k,(k:Int),y,by omega,rfl,by rw [hnk];exact HY.out,rfl,rfl,hkl,HX4.out⟩
      have d2:(x.name.toList==s.toList)=true:=str_beq_true g2
      by_cases g3:x.st=3
      case neg =>
       have d3:(x.st==3)=false:=by simp [g3]
       have hh:sameA q.acc now s x=false:=by simp [sameA,g3]
       have HNK:=Lib.hid (numF_no HX_.out hh)
       clear hh
       clear g3
       refine wp_region_later (by kernel_rfl) (by kernel_rfl) ?_
       repeat (go_big_quiet_step ((fail)))
       refine wpQuiet_nil ?_
       rintro W4 ⟨p,hp⟩
       have HX4:Hid (Ext V W4):=Lib.hid (by rw [hp];exact HX3.out.trans p.ext)
       clear hp p j1 j2 j4 j6 i1 i2 i3
       go_wp2
       have hnk:=HNK.out
       have hG2:=HG2.out
       have hk:=HK.out
       have hkl:k≤L.length:=by have:=HKL.out;omega
       go_roundg G2
       case measure=>omega
       case rel=>exact ⟨k,(k:Int),y,by omega,rfl,by rw [hnk];exact HY.out,rfl,rfl,hkl,HX4.out⟩
      have d3:(x.st==3)=true:=by simp [g3]
      by_cases g4:now<x.un
      case neg =>
       have d4:decide (now<x.un)=false:=decide_eq_false g4
       have hh:sameA q.acc now s x=false:=by simp [sameA,g4]
       have HNK:=Lib.hid (numF_no HX_.out hh)
       clear hh
       clear g4
       refine wp_region_later (by kernel_rfl) (by kernel_rfl) ?_
       repeat (go_big_quiet_step ((fail)))
       refine wpQuiet_nil ?_
       rintro W4 ⟨p,hp⟩
       have HX4:Hid (Ext V W4):=Lib.hid (by rw [hp];exact HX3.out.trans p.ext)
       clear hp p j1 j2 j4 j6 i1 i2 i3
       go_wp2
       have hnk:=HNK.out
       have hG2:=HG2.out
       have hk:=HK.out
       have hkl:k≤L.length:=by have:=HKL.out;omega
       go_roundg G2
       case measure=>omega
       case rel=>exact ⟨k,(k:Int),y,by omega,rfl,by rw [hnk];exact HY.out,rfl,rfl,hkl,HX4.out⟩
      have d4:decide (now<x.un)=true:=decide_eq_true g4
      have hh:sameA q.acc now s x=true:=by unfold sameA;rw [decide_eq_true g1,decide_eq_true g2,decide_eq_true g3,decide_eq_true g4];rfl
      have HNK:=Lib.hid (numF_yes HX_.out hh)
      clear hh g1 g2 g3 g4
      refine wp_region_later (by kernel_rfl) (by kernel_rfl) ?_
      repeat (go_big_quiet_step ((fail)))
      refine wpQuiet_nil ?_
      rintro W4 ⟨p,hp⟩
      have HX4:Hid (Ext V W4):=Lib.hid (by rw [hp];exact HX3.out.trans p.ext)
      clear hp p j1 j2 j4 j6 i1 i2 i3
      go_wp2
      have hnk:=HNK.out
      have hG2:=HG2.out
      have hk:=HK.out
      have hkl:k≤L.length:=by have:=HKL.out;omega
      go_roundg G2
      case measure=>omega
      case rel=>exact ⟨k,(k:Int),(k:Int)+1,by omega,rfl,by rw [hnk];omega,rfl,rfl,hkl,HX4.out⟩
   ·obtain rfl:j=q.names.length:=by omega
    have HFO2:Hid (q.names.foldl (wantA q.acc now) (d.auts,[])=(L,ns)):=Lib.hid (by rw [List.take_length] at hfo;exact hfo)
    have d1:decide ((256:Int)<(L.length:Int))=false:=decide_eq_false (by have:=HLN.out;omega)
    have d2:((d.ords.length:Int)==128)=false:=by simp;omega
    obtain ⟨m0,m1,m2,m3,m4,m5⟩:=arr6f (ext_blk HXR.out HB0.out)
    have f3:=(ext_blk HXR.out HB0.out).frozen 3
    clear hj hfo hT hLl hLw hns hnl h
    go_upto_region 20 with (fail)
    obtain ⟨Wb,hWb⟩:∃ W,W=wr.setCell ⟨w.heap.size,3,none⟩ (.slice uA L.length uc):=⟨_,rfl⟩
    rw [← hWb]
    clear m0 m1 m2 m3 m4 m5 f3 y4
    have hsz:=HSZ.out
    have hgg:=HG6.out
    have hx1:=HX1.out.size
    have HXW:Hid (Ext w Wb):=Lib.hid (by rw [hWb];exact (HX0.out.trans HXR.out).setCell (Nat.le_refl _) _)
    have HBF:Hid (Blk Wb w.heap.size 43 #[.int .i64 d.next,.slice d.oA d.opn.length d.oc,.slice d.cA d.accs.length d.cc,.slice uA L.length uc,.slice d.rA d.ords.length d.rc,.int .i64 d.ser]):=Lib.hid (by rw [hWb];exact (ext_blk HXR.out HB0.out).set_ 3 _)
    have HBZ:Hid (Blk Wb (w.heap.size+2) 43 #[.int .i64 0,.slice none 0 0,.slice none 0 0,.slice none 0 0,.slice none 0 0,.int .i64 0]):=Lib.hid (by rw [hWb];exact (ext_blk HXR.out HB2.out).far (p:=⟨w.heap.size,3,none⟩) (by simp) _)
    have HTO:Hid (Blk Wb g6 78 #[.int .i64 ((d.ords.length:Int)+1),.int .i64 q.acc,.slice nA q.names.length nc,.int .u64 (q.key:Int),.int .i64 q.life,.slice aA ns.length ac,.int .i64 1,.int .i64 0]):=Lib.hid (by rw [hWb];exact HT.out.ord.far (p:=⟨w.heap.size,3,none⟩) (by show g6≠w.heap.size;omega) _)
    have HP1:=Lib.hid (own_far HT.out.nam (g:=w.heap.size) (by omega) 3 (.slice uA L.length uc))
    have HP2:=Lib.hid (own_far HT.out.own (g:=w.heap.size) (by omega) 3 (.slice uA L.length uc))
    have HP3:=Lib.hid (own_far HT.out.num (g:=w.heap.size) (by omega) 3 (.slice uA L.length uc))
    rw [← hWb] at HP1 HP2 HP3
    have HSB:Hid (w.heap.size+3≤Wb.heap.size):=Lib.hid (by have:=HBZ.out.lt;omega)
    have HC2:Hid (∀ W,Ext Wb W→(W.cell? ⟨w.heap.size,4,none⟩=some (.slice d.rA d.ords.length d.rc)∧W.cell? ⟨g6,0,none⟩=some (.int .i64 ((d.ords.length:Int)+1))∧W.cell? ⟨g6,1,none⟩=some (.int .i64 q.acc)∧W.cell? ⟨g6,2,none⟩=some (.slice nA q.names.length nc)∧W.cell? ⟨g6,3,none⟩=some (.int .u64 (q.key:Int))∧W.cell? ⟨g6,4,none⟩=some (.int .i64 q.life)∧W.cell? ⟨g6,5,none⟩=some (.slice aA ns.length ac)∧W.cell? ⟨g6,6,none⟩=some (.int .i64 1)∧W.cell? ⟨g6,7,none⟩=some (.int .i64 0))):=Lib.hid fun W x=>⟨(ext_blk x HBF.out).cell 4,(ext_blk x HTO.out).cell 0,(ext_blk x HTO.out).cell 1,(ext_blk x HTO.out).cell 2,(ext_blk x HTO.out).cell 3,(ext_blk x HTO.out).cell 4,(ext_blk x HTO.out).cell 5,(ext_blk x HTO.out).cell 6,(ext_blk x HTO.out).cell 7⟩
    have HRO:Hid (∀ W,Ext Wb W→Reads W W.heap.size 8 d.rA d.ords.length (ordV d.ords)):=Lib.hid fun W x=>(HW_.out.ext (HXW.out.trans x)).ord
    clear hWb hsz hgg hx1 d1 d2
    refine E_start (n:=9) (ls:=#[false,false,false,false,false,false,false,false,false]) (fun w'=>w'.cell? ⟨w.heap.size,4,none⟩=some (.slice d.rA d.ords.length d.rc)∧w'.cell? ⟨g6,0,none⟩=some (.int .i64 ((d.ords.length:Int)+1))∧w'.cell? ⟨g6,1,none⟩=some (.int .i64 q.acc)∧w'.cell? ⟨g6,2,none⟩=some (.slice nA q.names.length nc)∧w'.cell? ⟨g6,3,none⟩=some (.int .u64 (q.key:Int))∧w'.cell? ⟨g6,4,none⟩=some (.int .i64 q.life)∧w'.cell? ⟨g6,5,none⟩=some (.slice aA ns.length ac)∧w'.cell? ⟨g6,6,none⟩=some (.int .i64 1)∧w'.cell? ⟨g6,7,none⟩=some (.int .i64 0)) 8 (by kernel_rfl) (by kernel_rfl) (by kernel_rfl) (HC2.out _ (Ext.refl Wb).drew) (fun hHeld=>?_)
    refine E_tk (i:=1) (some 119) (v:=?_) rfl rfl (by kernel_rfl) hHeld (fun w hSw=>?_) ?_;rotate_left 1
    ·(try dsimp only at hSw);go_simp;try with_reducible rfl
    try simp only [Act.put,zpA,zpB,zpC]
    refine E_tk (i:=2) (some 120) (v:=?_) rfl rfl (by kernel_rfl) hHeld (fun w hSw=>?_) ?_;rotate_left 1
    ·(try dsimp only at hSw);go_simp;try with_reducible rfl
    try simp only [Act.put,zpA,zpB,zpC]
    refine E_tk (i:=4) (some 122) (v:=?_) rfl rfl (by kernel_rfl) hHeld (fun w hSw=>?_) ?_;rotate_left 1
    ·(try dsimp only at hSw);go_simp;try with_reducible rfl
    try simp only [Act.put,zpA,zpB,zpC]
    refine E_tw (i:=0) (k:=5) rfl rfl (by kernel_rfl) (by kernel_rfl) (by kernel_rfl) (fun K hK=>?_) (fun K hK=>?_)
    ·go_simp
     replace hHeld:=HC2.out _ (((Ext.refl Wb).drew).alloc (.cells #[] 78))
     refine hK _ _ (fun _=>hHeld) ?_
     clear hK K
     try simp only [Act.put,zpA,zpB,zpC]
     refine E_tw (i:=3) (k:=5) rfl rfl (by kernel_rfl) (by kernel_rfl) (by kernel_rfl) (fun K hK=>?_) (fun K hK=>?_)
     ·refine wp_append_any _ (.tmp 118) (.tmp 120) 41 rfl Wb.heap.size 78 i3 (.agg #[.int .i64 0,.int .i64 0,.slice none 0 0,.int .u64 0,.int .i64 0,.slice none 0 0,.int .i64 0,.int .i64 0]) 8 96 Tryz.underlying41 hl1 hv0 hv1 hv2 rfl (by decide) (.slice (some ⟨Wb.heap.size,0,none⟩) 0 0) 0 [] rfl (own_empty Wb.drew Wb.heap.size Wb.heap.size rfl (Nat.le_refl _) 78 8) _ d.rA d.ords.length d.rc (ordV d.ords) rfl (HRO.out _ (((Ext.refl Wb).drew).alloc (.cells #[] 78))) (ordV_one _) (by have:=HOL.out;simp only [maxLen];omega) (by have:=HOL.out;omega) (by simp;try omega) ?_
      intro v8 w8 hown8 hg8 _
      rw [Nat.zero_add,List.nil_append] at hown8
      have HX8:Hid (Ext Wb w8):=Lib.hid (ext_grown (((Ext.refl Wb).drew).alloc (.cells #[] 78)) (own_empty Wb.drew Wb.heap.size Wb.heap.size rfl (Nat.le_refl _) 78 8) hg8)
      have O8:=Lib.hid hown8
      clear hown8 hg8
      replace hHeld:=HC2.out _ HX8.out
      refine hK _ _ (fun _=>hHeld) ?_
      clear hK K
      try simp only [Act.put,zpA,zpB,zpC]
      refine E_on (i:=5) rfl (by kernel_rfl) (by kernel_rfl) (fun K hK=>?_)
      go_simp
      replace hHeld:=HC2.out _ (HX8.out.alloc (.cells #[.int .i64 ((d.ords.length:Int)+1),.int .i64 q.acc,.slice nA q.names.length nc,.int .u64 (q.key:Int),.int .i64 q.life,.slice aA ns.length ac,.int .i64 1,.int .i64 0] 78))
      refine hK _ _ (fun _=>hHeld) ?_
      clear hK K
      try simp only [Act.put,zpA,zpB,zpC]
      refine E_on (i:=6) rfl (by kernel_rfl) (by kernel_rfl) (fun K hK=>?_)
      refine wp_append_any _ (.tmp 121) (.tmp 123) 41 rfl Wb.heap.size 78 i3 (.agg #[.int .i64 0,.int .i64 0,.slice none 0 0,.int .u64 0,.int .i64 0,.slice none 0 0,.int .i64 0,.int .i64 0]) 8 96 Tryz.underlying41 hl1 hv0 hv1 hv2 rfl (by decide) v8 d.ords.length (ordV d.ords) rfl (O8.out.alloc _) _ (some ⟨w8.heap.size,0,none⟩) 1 1 [.int .i64 ((d.ords.length:Int)+1),.int .i64 q.acc,.slice nA q.names.length nc,.int .u64 (q.key:Int),.int .i64 q.life,.slice aA ns.length ac,.int .i64 1,.int .i64 0] rfl (reads_newL w8 78 _) (by simp [Value.oneCell']) (by have:=HOL.out;simp only [maxLen];omega) (by have:=HOL.out;omega) (by have:=HX8.out.size;simp;try omega) ?_
      intro v9 w9 hown9 hg9 _
      have HX9:Hid (Ext Wb w9):=Lib.hid (ext_grown (HX8.out.alloc _) (O8.out.alloc _) hg9)
      obtain ⟨A9,c9,rfl,hc9,-⟩:=own_slice2 hown9
      have O9:=Lib.hid hown9
      have f9:=(ext_blk HX9.out HBF.out).frozen 4
      clear hown9 hg9 hc9
      replace hHeld:=HC2.out _ HX9.out
      refine hK _ _ (fun _=>hHeld) ?_
      clear hK K
      try simp only [Act.put,zpA,zpB,zpC]
      refine E_on (i:=7) rfl (by kernel_rfl) (by kernel_rfl) (fun K hK=>?_)
      go_simp
      refine hK _ _ (fun _=>hHeld) ?_
      clear hK K
      try simp only [Act.put,zpA,zpB,zpC]
      refine E_on (i:=8) rfl (by kernel_rfl) (by kernel_rfl) (fun K hK=>?_)
      go_simp
      refine hK _ _ (fun h=>absurd rfl h) ?_
      clear hK K
      try simp only [Act.put,zpA,zpB,zpC]
      refine E_done (by kernel_rfl) ?_
      clear hHeld f9
      obtain ⟨W9,e9⟩:∃ W,W=w9.setCell ⟨w.heap.size,4,none⟩ (.slice A9 (d.ords.length+1) c9):=⟨_,rfl⟩
      rw [← e9]
      have hsz:=HSZ.out
      have hgg:=HG6.out
      have HB9:Hid (Blk W9 w.heap.size 43 #[.int .i64 d.next,.slice d.oA d.opn.length d.oc,.slice d.cA d.accs.length d.cc,.slice uA L.length uc,.slice A9 (d.ords.length+1) c9,.int .i64 d.ser]):=Lib.hid (by rw [e9];exact (ext_blk HX9.out HBF.out).set_ 4 _)
      have b29:Blk W9 (w.heap.size+2) 43 #[.int .i64 0,.slice none 0 0,.slice none 0 0,.slice none 0 0,.slice none 0 0,.int .i64 0]:=by rw [e9];exact (ext_blk HX9.out HBZ.out).far (p:=⟨w.heap.size,4,none⟩) (by simp) _
      have HO9:Hid (Blk W9 g6 78 #[.int .i64 ((d.ords.length:Int)+1),.int .i64 q.acc,.slice nA q.names.length nc,.int .u64 (q.key:Int),.int .i64 q.life,.slice aA ns.length ac,.int .i64 1,.int .i64 0]):=Lib.hid (by rw [e9];exact (ext_blk HX9.out HTO.out).far (p:=⟨w.heap.size,4,none⟩) (by show g6≠w.heap.size;omega) _)
      have HX09:Hid (Ext w W9):=Lib.hid (by rw [e9];exact (HXW.out.trans HX9.out).setCell (Nat.le_refl _) _)
      have HQ1:=Lib.hid (own_far (own_ext HP1.out HX9.out) (g:=w.heap.size) (by omega) 4 (.slice A9 (d.ords.length+1) c9))
      have HQ2:=Lib.hid (own_far (own_ext HP2.out HX9.out) (g:=w.heap.size) (by have:=HX1.out.size;omega) 4 (.slice A9 (d.ords.length+1) c9))
      have HQ3:=Lib.hid (own_far (own_ext HP3.out HX9.out) (g:=w.heap.size) (by have:=HX1.out.size;omega) 4 (.slice A9 (d.ords.length+1) c9))
      have HQ4:=Lib.hid (own_far O9.out (g:=w.heap.size) (by have:=HSB.out;omega) 4 (.slice A9 (d.ords.length+1) c9))
      rw [← e9] at HQ1 HQ2 HQ3 HQ4
      clear e9 O9
      have hne:w.heap.size+2≠g6:=by omega
      have hne':g6≠w.heap.size+2:=by omega
      clear hsz hgg
      go_upto_region 21 with (fail)
      obtain ⟨m0,m1,m2,m3,m4,m5⟩:=arr6f HB9.out
      obtain ⟨z0,z1,z2,z3,z4,z5,f0,f1,f2,f3,f4,f5⟩:=st6 b29
      have BB:=Lib.hid (blk6 b29 (.int .i64 d.next) (.slice d.oA d.opn.length d.oc) (.slice d.cA d.accs.length d.cc) (.slice uA L.length uc) (.slice A9 (d.ords.length+1) c9) (.int .i64 d.ser)).drew
      have y0:=HO9.out.cell 0
      clear b29
      go_region
      go_wp2
      obtain ⟨r0,r1,r2,r3,r4,r5⟩:=arr6f BB.out
      have hsz:=HSZ.out
      have hsb:=HSB.out
      have hx1:=HX1.out.size
      have xx:=(ext6 HX09.out (g:=w.heap.size+2) (by omega) (.int .i64 d.next) (.slice d.oA d.opn.length d.oc) (.slice d.cA d.accs.length d.cc) (.slice uA L.length uc) (.slice A9 (d.ords.length+1) c9) (.int .i64 d.ser)).drew
      refine bodyPost_ret (v:=.tuple #[.agg #[.int .i64 d.next,.slice d.oA d.opn.length d.oc,.slice d.cA d.accs.length d.cc,.slice uA L.length uc,.slice A9 (d.ords.length+1) c9,.int .i64 d.ser],.int .i64 ((d.ords.length:Int)+1),.int .i64 0]) (by simp [results,Tryz.results58,go_sem,r0,r1,r2,r3,r4,r5]) rfl ?_
      exact want_fin HW_.out HQ.out xx (own_far6 HQ1.out (g:=w.heap.size+2) (by omega) (.int .i64 d.next) (.slice d.oA d.opn.length d.oc) (.slice d.cA d.accs.length d.cc) (.slice uA L.length uc) (.slice A9 (d.ords.length+1) c9) (.int .i64 d.ser)).drew (own_far6 HQ2.out (g:=w.heap.size+2) (by omega) (.int .i64 d.next) (.slice d.oA d.opn.length d.oc) (.slice d.cA d.accs.length d.cc) (.slice uA L.length uc) (.slice A9 (d.ords.length+1) c9) (.int .i64 d.ser)).drew (own_far6 HQ3.out (g:=w.heap.size+2) (by omega) (.int .i64 d.next) (.slice d.oA d.opn.length d.oc) (.slice d.cA d.accs.length d.cc) (.slice uA L.length uc) (.slice A9 (d.ords.length+1) c9) (.int .i64 d.ser)).drew (own_far6 HQ4.out (g:=w.heap.size+2) (by omega) (.int .i64 d.next) (.slice d.oA d.opn.length d.oc) (.slice d.cA d.accs.length d.cc) (.slice uA L.length uc) (.slice A9 (d.ords.length+1) c9) (.int .i64 d.ser)).drew (by omega) (by omega) (by omega) HFO2.out HLL.out HLW.out HNS.out HNL.out.1 HLEN.out HOL.out
     ·go_simp
      replace hHeld:=HC2.out _ ((((Ext.refl Wb).drew).alloc (.cells #[] 78)).alloc (.cells #[.int .i64 ((d.ords.length:Int)+1),.int .i64 q.acc,.slice nA q.names.length nc,.int .u64 (q.key:Int),.int .i64 q.life,.slice aA ns.length ac,.int .i64 1,.int .i64 0] 78))
      refine hK _ _ (fun _=>hHeld) ?_
      clear hK K
      try simp only [Act.put,zpA,zpB,zpC]
      refine E_on (i:=3) rfl (by kernel_rfl) (by kernel_rfl) (fun K hK=>?_)
      refine wp_append_any _ (.tmp 118) (.tmp 120) 41 rfl Wb.heap.size 78 i3 (.agg #[.int .i64 0,.int .i64 0,.slice none 0 0,.int .u64 0,.int .i64 0,.slice none 0 0,.int .i64 0,.int .i64 0]) 8 96 Tryz.underlying41 hl1 hv0 hv1 hv2 rfl (by decide) (.slice (some ⟨Wb.heap.size,0,none⟩) 0 0) 0 [] rfl ((own_empty Wb.drew Wb.heap.size Wb.heap.size rfl (Nat.le_refl _) 78 8).alloc (.cells #[.int .i64 ((d.ords.length:Int)+1),.int .i64 q.acc,.slice nA q.names.length nc,.int .u64 (q.key:Int),.int .i64 q.life,.slice aA ns.length ac,.int .i64 1,.int .i64 0] 78)) _ d.rA d.ords.length d.rc (ordV d.ords) rfl (HRO.out _ ((((Ext.refl Wb).drew).alloc (.cells #[] 78)).alloc (.cells #[.int .i64 ((d.ords.length:Int)+1),.int .i64 q.acc,.slice nA q.names.length nc,.int .u64 (q.key:Int),.int .i64 q.life,.slice aA ns.length ac,.int .i64 1,.int .i64 0] 78))) (ordV_one _) (by have:=HOL.out;simp only [maxLen];omega) (by have:=HOL.out;omega) (by simp;try omega) ?_
      intro v8 w8 hown8 hg8 _
      rw [Nat.zero_add,List.nil_append] at hown8
      have HX8:Hid (Ext Wb w8):=Lib.hid (ext_grown ((((Ext.refl Wb).drew).alloc (.cells #[] 78)).alloc (.cells #[.int .i64 ((d.ords.length:Int)+1),.int .i64 q.acc,.slice nA q.names.length nc,.int .u64 (q.key:Int),.int .i64 q.life,.slice aA ns.length ac,.int .i64 1,.int .i64 0] 78)) ((own_empty Wb.drew Wb.heap.size Wb.heap.size rfl (Nat.le_refl _) 78 8).alloc (.cells #[.int .i64 ((d.ords.length:Int)+1),.int .i64 q.acc,.slice nA q.names.length nc,.int .u64 (q.key:Int),.int .i64 q.life,.slice aA ns.length ac,.int .i64 1,.int .i64 0] 78)) hg8)
      have O8:=Lib.hid hown8
      have hb8:=Blk.grown (Blk.new (Wb.drew.alloc (.cells #[] 78)) 78 #[.int .i64 ((d.ords.length:Int)+1),.int .i64 q.acc,.slice nA q.names.length nc,.int .u64 (q.key:Int),.int .i64 q.life,.slice aA ns.length ac,.int .i64 1,.int .i64 0]) hg8 (by simp [Value.ownBlock])
      rw [show (Wb.drew.alloc (.cells #[] 78)).heap.size=Wb.heap.size+1 by simp] at hb8
      have B8:=Lib.hid (reads_blkL hb8)
      clear hb8
      clear hown8 hg8
      replace hHeld:=HC2.out _ HX8.out
      refine hK _ _ (fun _=>hHeld) ?_
      clear hK K
      try simp only [Act.put,zpA,zpB,zpC]
      refine E_on (i:=6) rfl (by kernel_rfl) (by kernel_rfl) (fun K hK=>?_)
      refine wp_append_any _ (.tmp 121) (.tmp 123) 41 rfl Wb.heap.size 78 i3 (.agg #[.int .i64 0,.int .i64 0,.slice none 0 0,.int .u64 0,.int .i64 0,.slice none 0 0,.int .i64 0,.int .i64 0]) 8 96 Tryz.underlying41 hl1 hv0 hv1 hv2 rfl (by decide) v8 d.ords.length (ordV d.ords) rfl (O8.out) _ (some ⟨Wb.heap.size+1,0,none⟩) 1 1 [.int .i64 ((d.ords.length:Int)+1),.int .i64 q.acc,.slice nA q.names.length nc,.int .u64 (q.key:Int),.int .i64 q.life,.slice aA ns.length ac,.int .i64 1,.int .i64 0] rfl (B8.out) (by simp [Value.oneCell']) (by have:=HOL.out;simp only [maxLen];omega) (by have:=HOL.out;omega) (by have:=HX8.out.size;simp;try omega) ?_
      intro v9 w9 hown9 hg9 _
      have HX9:Hid (Ext Wb w9):=Lib.hid (ext_grown (HX8.out) (O8.out) hg9)
      obtain ⟨A9,c9,rfl,hc9,-⟩:=own_slice2 hown9
      have O9:=Lib.hid hown9
      have f9:=(ext_blk HX9.out HBF.out).frozen 4
      clear hown9 hg9 hc9
      replace hHeld:=HC2.out _ HX9.out
      refine hK _ _ (fun _=>hHeld) ?_
      clear hK K
      try simp only [Act.put,zpA,zpB,zpC]
      refine E_on (i:=7) rfl (by kernel_rfl) (by kernel_rfl) (fun K hK=>?_)
      go_simp
      refine hK _ _ (fun _=>hHeld) ?_
      clear hK K
      try simp only [Act.put,zpA,zpB,zpC]
      refine E_on (i:=8) rfl (by kernel_rfl) (by kernel_rfl) (fun K hK=>?_)
      go_simp
      refine hK _ _ (fun h=>absurd rfl h) ?_
      clear hK K
      try simp only [Act.put,zpA,zpB,zpC]
      refine E_done (by kernel_rfl) ?_
      clear hHeld f9
      obtain ⟨W9,e9⟩:∃ W,W=w9.setCell ⟨w.heap.size,4,none⟩ (.slice A9 (d.ords.length+1) c9):=⟨_,rfl⟩
      rw [← e9]
      have hsz:=HSZ.out
      have hgg:=HG6.out
      have HB9:Hid (Blk W9 w.heap.size 43 #[.int .i64 d.next,.slice d.oA d.opn.length d.oc,.slice d.cA d.accs.length d.cc,.slice uA L.length uc,.slice A9 (d.ords.length+1) c9,.int .i64 d.ser]):=Lib.hid (by rw [e9];exact (ext_blk HX9.out HBF.out).set_ 4 _)
      have b29:Blk W9 (w.heap.size+2) 43 #[.int .i64 0,.slice none 0 0,.slice none 0 0,.slice none 0 0,.slice none 0 0,.int .i64 0]:=by rw [e9];exact (ext_blk HX9.out HBZ.out).far (p:=⟨w.heap.size,4,none⟩) (by simp) _
      have HO9:Hid (Blk W9 g6 78 #[.int .i64 ((d.ords.length:Int)+1),.int .i64 q.acc,.slice nA q.names.length nc,.int .u64 (q.key:Int),.int .i64 q.life,.slice aA ns.length ac,.int .i64 1,.int .i64 0]):=Lib.hid (by rw [e9];exact (ext_blk HX9.out HTO.out).far (p:=⟨w.heap.size,4,none⟩) (by show g6≠w.heap.size;omega) _)
      have HX09:Hid (Ext w W9):=Lib.hid (by rw [e9];exact (HXW.out.trans HX9.out).setCell (Nat.le_refl _) _)
      have HQ1:=Lib.hid (own_far (own_ext HP1.out HX9.out) (g:=w.heap.size) (by omega) 4 (.slice A9 (d.ords.length+1) c9))
      have HQ2:=Lib.hid (own_far (own_ext HP2.out HX9.out) (g:=w.heap.size) (by have:=HX1.out.size;omega) 4 (.slice A9 (d.ords.length+1) c9))
      have HQ3:=Lib.hid (own_far (own_ext HP3.out HX9.out) (g:=w.heap.size) (by have:=HX1.out.size;omega) 4 (.slice A9 (d.ords.length+1) c9))
      have HQ4:=Lib.hid (own_far O9.out (g:=w.heap.size) (by have:=HSB.out;omega) 4 (.slice A9 (d.ords.length+1) c9))
      rw [← e9] at HQ1 HQ2 HQ3 HQ4
      clear e9 O9
      have hne:w.heap.size+2≠g6:=by omega
      have hne':g6≠w.heap.size+2:=by omega
      clear hsz hgg
      go_upto_region 21 with (fail)
      obtain ⟨m0,m1,m2,m3,m4,m5⟩:=arr6f HB9.out
      obtain ⟨z0,z1,z2,z3,z4,z5,f0,f1,f2,f3,f4,f5⟩:=st6 b29
      have BB:=Lib.hid (blk6 b29 (.int .i64 d.next) (.slice d.oA d.opn.length d.oc) (.slice d.cA d.accs.length d.cc) (.slice uA L.length uc) (.slice A9 (d.ords.length+1) c9) (.int .i64 d.ser)).drew
      have y0:=HO9.out.cell 0
      clear b29
      go_region
      go_wp2
      obtain ⟨r0,r1,r2,r3,r4,r5⟩:=arr6f BB.out
      have hsz:=HSZ.out
      have hsb:=HSB.out
      have hx1:=HX1.out.size
      have xx:=(ext6 HX09.out (g:=w.heap.size+2) (by omega) (.int .i64 d.next) (.slice d.oA d.opn.length d.oc) (.slice d.cA d.accs.length d.cc) (.slice uA L.length uc) (.slice A9 (d.ords.length+1) c9) (.int .i64 d.ser)).drew
      refine bodyPost_ret (v:=.tuple #[.agg #[.int .i64 d.next,.slice d.oA d.opn.length d.oc,.slice d.cA d.accs.length d.cc,.slice uA L.length uc,.slice A9 (d.ords.length+1) c9,.int .i64 d.ser],.int .i64 ((d.ords.length:Int)+1),.int .i64 0]) (by simp [results,Tryz.results58,go_sem,r0,r1,r2,r3,r4,r5]) rfl ?_
      exact want_fin HW_.out HQ.out xx (own_far6 HQ1.out (g:=w.heap.size+2) (by omega) (.int .i64 d.next) (.slice d.oA d.opn.length d.oc) (.slice d.cA d.accs.length d.cc) (.slice uA L.length uc) (.slice A9 (d.ords.length+1) c9) (.int .i64 d.ser)).drew (own_far6 HQ2.out (g:=w.heap.size+2) (by omega) (.int .i64 d.next) (.slice d.oA d.opn.length d.oc) (.slice d.cA d.accs.length d.cc) (.slice uA L.length uc) (.slice A9 (d.ords.length+1) c9) (.int .i64 d.ser)).drew (own_far6 HQ3.out (g:=w.heap.size+2) (by omega) (.int .i64 d.next) (.slice d.oA d.opn.length d.oc) (.slice d.cA d.accs.length d.cc) (.slice uA L.length uc) (.slice A9 (d.ords.length+1) c9) (.int .i64 d.ser)).drew (own_far6 HQ4.out (g:=w.heap.size+2) (by omega) (.int .i64 d.next) (.slice d.oA d.opn.length d.oc) (.slice d.cA d.accs.length d.cc) (.slice uA L.length uc) (.slice A9 (d.ords.length+1) c9) (.int .i64 d.ser)).drew (by omega) (by omega) (by omega) HFO2.out HLL.out HLW.out HNS.out HNL.out.1 HLEN.out HOL.out
    ·go_simp
     replace hHeld:=HC2.out _ (((Ext.refl Wb).drew).alloc (.cells #[.int .i64 ((d.ords.length:Int)+1),.int .i64 q.acc,.slice nA q.names.length nc,.int .u64 (q.key:Int),.int .i64 q.life,.slice aA ns.length ac,.int .i64 1,.int .i64 0] 78))
     refine hK _ _ (fun _=>hHeld) ?_
     clear hK K
     try simp only [Act.put,zpA,zpB,zpC]
     refine E_on (i:=0) rfl (by kernel_rfl) (by kernel_rfl) (fun K hK=>?_)
     go_simp
     replace hHeld:=HC2.out _ ((((Ext.refl Wb).drew).alloc (.cells #[.int .i64 ((d.ords.length:Int)+1),.int .i64 q.acc,.slice nA q.names.length nc,.int .u64 (q.key:Int),.int .i64 q.life,.slice aA ns.length ac,.int .i64 1,.int .i64 0] 78)).alloc (.cells #[] 78))
     refine hK _ _ (fun _=>hHeld) ?_
     clear hK K
     try simp only [Act.put,zpA,zpB,zpC]
     refine E_on (i:=3) rfl (by kernel_rfl) (by kernel_rfl) (fun K hK=>?_)
     refine wp_append_any _ (.tmp 118) (.tmp 120) 41 rfl Wb.heap.size 78 i3 (.agg #[.int .i64 0,.int .i64 0,.slice none 0 0,.int .u64 0,.int .i64 0,.slice none 0 0,.int .i64 0,.int .i64 0]) 8 96 Tryz.underlying41 hl1 hv0 hv1 hv2 rfl (by decide) (.slice (some ⟨Wb.heap.size+1,0,none⟩) 0 0) 0 [] rfl (own_empty (Wb.drew.alloc (.cells #[.int .i64 ((d.ords.length:Int)+1),.int .i64 q.acc,.slice nA q.names.length nc,.int .u64 (q.key:Int),.int .i64 q.life,.slice aA ns.length ac,.int .i64 1,.int .i64 0] 78)) Wb.heap.size (Wb.heap.size+1) (by simp) (by omega) 78 8) _ d.rA d.ords.length d.rc (ordV d.ords) rfl (HRO.out _ ((((Ext.refl Wb).drew).alloc (.cells #[.int .i64 ((d.ords.length:Int)+1),.int .i64 q.acc,.slice nA q.names.length nc,.int .u64 (q.key:Int),.int .i64 q.life,.slice aA ns.length ac,.int .i64 1,.int .i64 0] 78)).alloc (.cells #[] 78))) (ordV_one _) (by have:=HOL.out;simp only [maxLen];omega) (by have:=HOL.out;omega) (by simp;try omega) ?_
     intro v8 w8 hown8 hg8 _
     rw [Nat.zero_add,List.nil_append] at hown8
     have HX8:Hid (Ext Wb w8):=Lib.hid (ext_grown ((((Ext.refl Wb).drew).alloc (.cells #[.int .i64 ((d.ords.length:Int)+1),.int .i64 q.acc,.slice nA q.names.length nc,.int .u64 (q.key:Int),.int .i64 q.life,.slice aA ns.length ac,.int .i64 1,.int .i64 0] 78)).alloc (.cells #[] 78)) (own_empty (Wb.drew.alloc (.cells #[.int .i64 ((d.ords.length:Int)+1),.int .i64 q.acc,.slice nA q.names.length nc,.int .u64 (q.key:Int),.int .i64 q.life,.slice aA ns.length ac,.int .i64 1,.int .i64 0] 78)) Wb.heap.size (Wb.heap.size+1) (by simp) (by omega) 78 8) hg8)
     have O8:=Lib.hid hown8
     have hb8:=Blk.grown ((Blk.new Wb.drew 78 #[.int .i64 ((d.ords.length:Int)+1),.int .i64 q.acc,.slice nA q.names.length nc,.int .u64 (q.key:Int),.int .i64 q.life,.slice aA ns.length ac,.int .i64 1,.int .i64 0]).alloc (.cells #[] 78)) hg8 (by simp [Value.ownBlock])
     rw [show Wb.drew.heap.size=Wb.heap.size from rfl] at hb8
     have B8:=Lib.hid (reads_blkL hb8)
     clear hb8
     clear hown8 hg8
     replace hHeld:=HC2.out _ HX8.out
     refine hK _ _ (fun _=>hHeld) ?_
     clear hK K
     try simp only [Act.put,zpA,zpB,zpC]
     refine E_on (i:=6) rfl (by kernel_rfl) (by kernel_rfl) (fun K hK=>?_)
     refine wp_append_any _ (.tmp 121) (.tmp 123) 41 rfl Wb.heap.size 78 i3 (.agg #[.int .i64 0,.int .i64 0,.slice none 0 0,.int .u64 0,.int .i64 0,.slice none 0 0,.int .i64 0,.int .i64 0]) 8 96 Tryz.underlying41 hl1 hv0 hv1 hv2 rfl (by decide) v8 d.ords.length (ordV d.ords) rfl (O8.out) _ (some ⟨Wb.heap.size,0,none⟩) 1 1 [.int .i64 ((d.ords.length:Int)+1),.int .i64 q.acc,.slice nA q.names.length nc,.int .u64 (q.key:Int),.int .i64 q.life,.slice aA ns.length ac,.int .i64 1,.int .i64 0] rfl (B8.out) (by simp [Value.oneCell']) (by have:=HOL.out;simp only [maxLen];omega) (by have:=HOL.out;omega) (by have:=HX8.out.size;simp;try omega) ?_
     intro v9 w9 hown9 hg9 _
     have HX9:Hid (Ext Wb w9):=Lib.hid (ext_grown (HX8.out) (O8.out) hg9)
     obtain ⟨A9,c9,rfl,hc9,-⟩:=own_slice2 hown9
     have O9:=Lib.hid hown9
     have f9:=(ext_blk HX9.out HBF.out).frozen 4
     clear hown9 hg9 hc9
     replace hHeld:=HC2.out _ HX9.out
     refine hK _ _ (fun _=>hHeld) ?_
     clear hK K
     try simp only [Act.put,zpA,zpB,zpC]
     refine E_on (i:=7) rfl (by kernel_rfl) (by kernel_rfl) (fun K hK=>?_)
     go_simp
     refine hK _ _ (fun _=>hHeld) ?_
     clear hK K
     try simp only [Act.put,zpA,zpB,zpC]
     refine E_on (i:=8) rfl (by kernel_rfl) (by kernel_rfl) (fun K hK=>?_)
     go_simp
     refine hK _ _ (fun h=>absurd rfl h) ?_
     clear hK K
     try simp only [Act.put,zpA,zpB,zpC]
     refine E_done (by kernel_rfl) ?_
     clear hHeld f9
     obtain ⟨W9,e9⟩:∃ W,W=w9.setCell ⟨w.heap.size,4,none⟩ (.slice A9 (d.ords.length+1) c9):=⟨_,rfl⟩
     rw [← e9]
     have hsz:=HSZ.out
     have hgg:=HG6.out
     have HB9:Hid (Blk W9 w.heap.size 43 #[.int .i64 d.next,.slice d.oA d.opn.length d.oc,.slice d.cA d.accs.length d.cc,.slice uA L.length uc,.slice A9 (d.ords.length+1) c9,.int .i64 d.ser]):=Lib.hid (by rw [e9];exact (ext_blk HX9.out HBF.out).set_ 4 _)
     have b29:Blk W9 (w.heap.size+2) 43 #[.int .i64 0,.slice none 0 0,.slice none 0 0,.slice none 0 0,.slice none 0 0,.int .i64 0]:=by rw [e9];exact (ext_blk HX9.out HBZ.out).far (p:=⟨w.heap.size,4,none⟩) (by simp) _
     have HO9:Hid (Blk W9 g6 78 #[.int .i64 ((d.ords.length:Int)+1),.int .i64 q.acc,.slice nA q.names.length nc,.int .u64 (q.key:Int),.int .i64 q.life,.slice aA ns.length ac,.int .i64 1,.int .i64 0]):=Lib.hid (by rw [e9];exact (ext_blk HX9.out HTO.out).far (p:=⟨w.heap.size,4,none⟩) (by show g6≠w.heap.size;omega) _)
     have HX09:Hid (Ext w W9):=Lib.hid (by rw [e9];exact (HXW.out.trans HX9.out).setCell (Nat.le_refl _) _)
     have HQ1:=Lib.hid (own_far (own_ext HP1.out HX9.out) (g:=w.heap.size) (by omega) 4 (.slice A9 (d.ords.length+1) c9))
     have HQ2:=Lib.hid (own_far (own_ext HP2.out HX9.out) (g:=w.heap.size) (by have:=HX1.out.size;omega) 4 (.slice A9 (d.ords.length+1) c9))
     have HQ3:=Lib.hid (own_far (own_ext HP3.out HX9.out) (g:=w.heap.size) (by have:=HX1.out.size;omega) 4 (.slice A9 (d.ords.length+1) c9))
     have HQ4:=Lib.hid (own_far O9.out (g:=w.heap.size) (by have:=HSB.out;omega) 4 (.slice A9 (d.ords.length+1) c9))
     rw [← e9] at HQ1 HQ2 HQ3 HQ4
     clear e9 O9
     have hne:w.heap.size+2≠g6:=by omega
     have hne':g6≠w.heap.size+2:=by omega
     clear hsz hgg
     go_upto_region 21 with (fail)
     obtain ⟨m0,m1,m2,m3,m4,m5⟩:=arr6f HB9.out
     obtain ⟨z0,z1,z2,z3,z4,z5,f0,f1,f2,f3,f4,f5⟩:=st6 b29
     have BB:=Lib.hid (blk6 b29 (.int .i64 d.next) (.slice d.oA d.opn.length d.oc) (.slice d.cA d.accs.length d.cc) (.slice uA L.length uc) (.slice A9 (d.ords.length+1) c9) (.int .i64 d.ser)).drew
     have y0:=HO9.out.cell 0
     clear b29
     go_region
     go_wp2
     obtain ⟨r0,r1,r2,r3,r4,r5⟩:=arr6f BB.out
     have hsz:=HSZ.out
     have hsb:=HSB.out
     have hx1:=HX1.out.size
     have xx:=(ext6 HX09.out (g:=w.heap.size+2) (by omega) (.int .i64 d.next) (.slice d.oA d.opn.length d.oc) (.slice d.cA d.accs.length d.cc) (.slice uA L.length uc) (.slice A9 (d.ords.length+1) c9) (.int .i64 d.ser)).drew
     refine bodyPost_ret (v:=.tuple #[.agg #[.int .i64 d.next,.slice d.oA d.opn.length d.oc,.slice d.cA d.accs.length d.cc,.slice uA L.length uc,.slice A9 (d.ords.length+1) c9,.int .i64 d.ser],.int .i64 ((d.ords.length:Int)+1),.int .i64 0]) (by simp [results,Tryz.results58,go_sem,r0,r1,r2,r3,r4,r5]) rfl ?_
     exact want_fin HW_.out HQ.out xx (own_far6 HQ1.out (g:=w.heap.size+2) (by omega) (.int .i64 d.next) (.slice d.oA d.opn.length d.oc) (.slice d.cA d.accs.length d.cc) (.slice uA L.length uc) (.slice A9 (d.ords.length+1) c9) (.int .i64 d.ser)).drew (own_far6 HQ2.out (g:=w.heap.size+2) (by omega) (.int .i64 d.next) (.slice d.oA d.opn.length d.oc) (.slice d.cA d.accs.length d.cc) (.slice uA L.length uc) (.slice A9 (d.ords.length+1) c9) (.int .i64 d.ser)).drew (own_far6 HQ3.out (g:=w.heap.size+2) (by omega) (.int .i64 d.next) (.slice d.oA d.opn.length d.oc) (.slice d.cA d.accs.length d.cc) (.slice uA L.length uc) (.slice A9 (d.ords.length+1) c9) (.int .i64 d.ser)).drew (own_far6 HQ4.out (g:=w.heap.size+2) (by omega) (.int .i64 d.next) (.slice d.oA d.opn.length d.oc) (.slice d.cA d.accs.length d.cc) (.slice uA L.length uc) (.slice A9 (d.ords.length+1) c9) (.int .i64 d.ser)).drew (by omega) (by omega) (by omega) HFO2.out HLL.out HLW.out HNS.out HNL.out.1 HLEN.out HOL.out
theorem chk_aut_id {f:FroR} (h:chkF f=0) {k:Nat} {u:AutR} (hu:f.auts[k]?=some u):u.id=(k:Int)+1:=by
 have hd:doorP f:=by
  unfold chkF at h
  split at h
  ·cases h
  ·next h'=>exact Classical.not_not.1 h'
 obtain ⟨hk,rfl⟩:=List.getElem?_eq_some_iff.1 hu
 exact (hd.2.2.2.1 k hk).1
theorem chk_ord_id {f:FroR} (h:chkF f=0) {k:Nat} {u:OrdR} (hu:f.ords[k]?=some u):u.id=(k:Int)+1:=by
 have hd:doorP f:=by
  unfold chkF at h
  split at h
  ·cases h
  ·next h'=>exact Classical.not_not.1 h'
 obtain ⟨hk,rfl⟩:=List.getElem?_eq_some_iff.1 hu
 exact (hd.2.2.2.2.1 k hk).1.1
def revH (q:QueR) (o:OrdR):Bool:=decide (o.st=5) && decide (o.acc=q.acc) && decide (o.ser=q.id)
theorem revF_yes {f:FroR} {q:QueR} {j:Nat} {o:OrdR} (h:f.ords[j]?=some o) (k:revH q o=true):revF f q=(f,q.id,0):=by
 unfold revF
 show (if f.ords.any (revH q)=true then (f,q.id,0) else bad 131)=_
 rw [if_pos (List.any_eq_true.2 ⟨o,List.mem_of_getElem? h,k⟩)]
theorem revF_no {f:FroR} {q:QueR} (h:∀ o∈f.ords,revH q o=false):revF f q=bad 131:=by
 unfold revF
 show (if f.ords.any (revH q)=true then (f,q.id,0) else bad 131)=_
 rw [if_neg]
 intro hh
 obtain ⟨o,ho,k⟩:=List.any_eq_true.1 hh
 rw [h o ho] at k;cases k
theorem rev_succ {l:List OrdR} {q:QueR} {j:Nat} {o:OrdR} (h:l[j]?=some o) (k:∀ x∈l.take j,revH q x=false) (hn:revH q o=false):∀ x∈l.take (j+1),revH q x=false:=fun x hx=>by
 rw [List.take_add_one,h] at hx
 simp only [Option.toList_some,List.mem_append,List.mem_singleton] at hx
 rcases hx with hx|rfl
 ·exact k x hx
 ·exact hn
theorem rrevoke_any (d:DoorX) (q:QueR) (A:Option Addr) (c:Nat) (w:World) (hw:DoorW w w.heap.size d) (hq:QueW w w.heap.size q A c) :
  Calls Tryz.prog 61 #[frontV d,queV q A c] w (outD d (revF d.fro q) w):=by
 obtain ⟨W1,W0,e0,e1,b0,b1,x1,s1,b2,x2⟩:=start3r w #[.int .i64 d.next,.slice d.oA d.opn.length d.oc,.slice d.cA d.accs.length d.cc,.slice d.uA d.auts.length d.uc,.slice d.rA d.ords.length d.rc,.int .i64 d.ser] #[.int .i64 q.kind,.int .i64 q.acc,.int .i64 q.nonce,.int .u64 (q.key:Int),.slice A q.names.length c,.int .i64 q.life,.int .i64 q.id,.int .u64 (q.e:Int),.int .u64 (q.s:Int)] #[.int .i64 0,.slice none 0 0,.slice none 0 0,.slice none 0 0,.slice none 0 0,.int .i64 0] 43 27 43
 have HW:=Lib.hid (hw.ext (x1.trans x2))
 have HW_:=Lib.hid hw
 have HQK:=Lib.hid hq.key
 have HB0:=Lib.hid (ext_blk x2 b0)
 have HB1:=Lib.hid (ext_blk x2 b1)
 have HB2:=Lib.hid b2
 have HX0:=Lib.hid (x1.trans x2)
 have HSZ:Hid (w.heap.size+3≤W0.heap.size):=Lib.hid (by have:=b2.lt;omega)
 have E0:=Lib.hid e0
 unfold frontV queV
 clear e0 e1 b0 b1 x1 s1 b2 x2 hw hq
 go_enter Tryz.func61,Tryz.ntmps61
 go_upto_region 1 with (fail)
 have e0:=E0.out
 rw [e0]
 clear e0 E0
 go_wp2
 go_loopg [7] d.ords.length (fun m s7 wr=>∃ j:Nat,j+m=d.ords.length∧s7=.int .i64 j∧(∀ x∈(d.ords.map (·.o)).take j,revH q x=false)∧Ext W0 wr)
 case atStart=>exact ⟨0,by omega,rfl,by simp,Ext.refl W0⟩
 case round =>
  obtain ⟨j,hj,rfl,hok,hx⟩:=hrel
  have hjb:(j:Int)≤1099511627776:=by have:=HW.out.rl;omega
  have m4:=(ext_blk hx HB0.out).cell 4
  by_cases h:j<d.ords.length
  ·obtain ⟨x,hs⟩:∃ s,d.ords[j]?=some s:=⟨_,List.getElem?_eq_getElem h⟩
   have hso:(d.ords.map (·.o))[j]?=some x.o:=by rw [List.getElem?_map,hs];rfl
   obtain ⟨ad,hA,hlt,q0,q1,q2,q3,q4,q5,q6,q7⟩:=reads_ord (HW.out.ext hx).ord hs
   rw [hA] at m4
   have hjl:(j:Int)<(d.ords.length:Int):=by omega
   have HSO:=Lib.hid hso
   have HO:=Lib.hid hok
   have HX:=Lib.hid hx
   have HJ:=Lib.hid hj
   obtain ⟨G,hG⟩:∃ G,G=gk-1:=⟨_,rfl⟩
   have HG:=Lib.hid hG
   clear hx hj hs hok hA hlt h hG hso
   go_upto_region 5 with (fail)
   obtain ⟨W1,e1⟩:∃ W,wr.alloc (.cells #[.int .i64 x.o.id,.int .i64 x.o.acc,.slice x.nA x.o.names.length x.nc,.int .u64 (x.o.key:Int),.int .i64 x.o.life,.slice x.aA x.o.auths.length x.ac,.int .i64 x.o.st,.int .i64 x.o.ser] 78)=W:=⟨_,rfl⟩
   try rw [e1]
   have HX1:Hid (Ext W0 W1):=Lib.hid (by rw [← e1];exact HX.out.alloc _)
   have HB1x:Hid (Blk W1 wr.heap.size 78 #[.int .i64 x.o.id,.int .i64 x.o.acc,.slice x.nA x.o.names.length x.nc,.int .u64 (x.o.key:Int),.int .i64 x.o.life,.slice x.aA x.o.auths.length x.ac,.int .i64 x.o.st,.int .i64 x.o.ser]):=Lib.hid (by rw [← e1];exact Blk.new _ _ _)
   clear e1 m4 q0 q1 q2 q3 q4 q5 q6 q7
   obtain ⟨k0,k1,k2,k3,k4,k5,k6,k7⟩:=arr8 HB1x.out
   have y1:=(ext_blk HX1.out HB1.out).cell 1
   have y6:=(ext_blk HX1.out HB1.out).cell 6
   by_cases g1:x.o.acc=q.acc
   case neg =>
    have d1:(x.o.acc==q.acc)=false:=by simp [g1]
    have hh:revH q x.o=false:=by simp [revH,g1]
    have HT:=Lib.hid (rev_succ HSO.out HO.out hh)
    clear hh
    go_wp2
    have hj:=HJ.out
    have hG:=HG.out
    go_roundg G
    case measure=>omega
    case rel=>exact ⟨j+1,by omega,int_congr (by omega),HT.out,HX1.out⟩
   have d1:(x.o.acc==q.acc)=true:=by simp [g1]
   by_cases g2:x.o.st=5
   case neg =>
    have d2:(x.o.st==5)=false:=by simp [g2]
    have hh:revH q x.o=false:=by simp [revH,g2]
    have HT:=Lib.hid (rev_succ HSO.out HO.out hh)
    clear hh
    go_wp2
    have hj:=HJ.out
    have hG:=HG.out
    go_roundg G
    case measure=>omega
    case rel=>exact ⟨j+1,by omega,int_congr (by omega),HT.out,HX1.out⟩
   have d2:(x.o.st==5)=true:=by simp [g2]
   by_cases g3:x.o.ser=q.id
   case neg =>
    have d3:(x.o.ser==q.id)=false:=by simp [g3]
    have hh:revH q x.o=false:=by simp [revH,g3]
    have HT:=Lib.hid (rev_succ HSO.out HO.out hh)
    clear hh
    go_wp2
    have hj:=HJ.out
    have hG:=HG.out
    go_roundg G
    case measure=>omega
    case rel=>exact ⟨j+1,by omega,int_congr (by omega),HT.out,HX1.out⟩
   have d3:(x.o.ser==q.id)=true:=by simp [g3]
   have HR:=Lib.hid (revF_yes (f:=d.fro) (q:=q) (o:=x.o) (j:=j) HSO.out (by simp [revH,g1,g2,g3]))
   clear g1 g2 g3
   go_upto_region 6 with (fail)
   obtain ⟨m0,m1,m2,m3,m4,m5⟩:=arr6f (ext_blk HX1.out HB0.out)
   have b2:=ext_blk HX1.out HB2.out
   obtain ⟨z0,z1,z2,z3,z4,z5,f0,f1,f2,f3,f4,f5⟩:=st6 b2
   have BB:=Lib.hid (blk6 b2 (.int .i64 d.next) (.slice d.oA d.opn.length d.oc) (.slice d.cA d.accs.length d.cc) (.slice d.uA d.auts.length d.uc) (.slice d.rA d.ords.length d.rc) (.int .i64 d.ser)).drew
   clear b2 k0 k1 k2 k3 k4 k5 k6 k7 y1
   go_region
   go_wp2
   rw [HR.out]
   obtain ⟨r0,r1,r2,r3,r4,r5⟩:=arr6f BB.out
   refine bodyPost_ret (v:=.tuple #[.agg #[.int .i64 d.next,.slice d.oA d.opn.length d.oc,.slice d.cA d.accs.length d.cc,.slice d.uA d.auts.length d.uc,.slice d.rA d.ords.length d.rc,.int .i64 d.ser],.int .i64 q.id,.int .i64 0]) (by simp [results,Tryz.results61,go_sem,r0,r1,r2,r3,r4,r5]) rfl ⟨d,rfl,rfl,(((HW.out.ext (HX1.out)).grownTo (HW_.out.lies.mono (fun b hb=>(by omega:b≠w.heap.size+2))) (grown6 _ (w.heap.size+2) (.int .i64 d.next) (.slice d.oA d.opn.length d.oc) (.slice d.cA d.accs.length d.cc) (.slice d.uA d.auts.length d.uc) (.slice d.rA d.ords.length d.rc) (.int .i64 d.ser)))).ext (Ext.refl _).drew,fun S hS=>hS.mono (fun b hb=>.inl hb),(ext6 (HX0.out.trans (HX1.out)) (by omega) (.int .i64 d.next) (.slice d.oA d.opn.length d.oc) (.slice d.cA d.accs.length d.cc) (.slice d.uA d.auts.length d.uc) (.slice d.rA d.ords.length d.rc) (.int .i64 d.ser)).drew⟩
  ·obtain rfl:j=d.ords.length:=by omega
   rw [List.take_of_length_le (by rw [List.length_map];exact Nat.le_refl _)] at hok
   have HR:=Lib.hid (revF_no (f:=d.fro) hok)
   have HX:=Lib.hid hx
   clear hx hj h hok
   have b2:=ext_blk (HX.out) HB2.out
   obtain ⟨z0,z1,z2,z3,z4,z5,f0,f1,f2,f3,f4,f5⟩:=st6 b2
   have BB:=Lib.hid (blk6 b2 (.int .i64 0) (.slice none 0 0) (.slice none 0 0) (.slice none 0 0) (.slice none 0 0) (.int .i64 0))
   clear b2
   go_wp2
   rw [HR.out]
   obtain ⟨r0,r1,r2,r3,r4,r5⟩:=arr6f BB.out
   refine bodyPost_ret (v:=.tuple #[.agg #[.int .i64 0,.slice none 0 0,.slice none 0 0,.slice none 0 0,.slice none 0 0,.int .i64 0],.int .i64 0,.int .i64 131]) (by simp [results,Tryz.results61,go_sem,r0,r1,r2,r3,r4,r5]) rfl (outD_bad rfl (ext6 (HX0.out.trans (HX.out)) (by omega) _ _ _ _ _ _))
