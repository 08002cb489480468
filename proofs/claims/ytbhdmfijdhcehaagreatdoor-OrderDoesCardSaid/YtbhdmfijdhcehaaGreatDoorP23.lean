/- Parts of the proofs, put together: Or32, Or33, Or34. -/
import Derived.Test.YtbhdmfijdhcehaaGreatDoorP21
set_option maxRecDepth 100000
set_option maxHeartbeats 64000000
namespace Go.Proofs.YtbhdmfijdhcehaaGreatDoor
open Go.RowKit Go.Shelf Go.Maps
set_option linter.unusedSimpArgs false
set_option linter.unusedVariables false
theorem wants_any (b:Nat) (d:DoorX) (now:Int) (q:QueR) (A:Option Addr) (c:Nat) (w:World) (hw:DoorW w w.heap.size d) (hL:DoorL (fun k=>k≠b) d) (h:DoorB w b d now) (hq:QueW w w.heap.size q A c) (hQ:Lies (fun k=>k≠b) A q.names.length)
  (hacc:0≤q.acc∧q.acc<100) (hlen:d.auts.length+q.names.length<99) (hol:d.ords.length<100) :
  Calls Tryz.prog 50 #[.pointer (some ⟨b,0,none⟩),queV q A c] w (methPost b d now (wantF d.fro q now) w):=by
 unfold queV
 obtain ⟨W0,e0,bp,bq,x0,s0⟩:=startP w #[.pointer (some ⟨b,0,none⟩)] #[.int .i64 q.kind,.int .i64 q.acc,.int .i64 q.nonce,.int .u64 (q.key:Int),.slice A q.names.length c,.int .i64 q.life,.int .i64 q.id,.int .u64 (q.e:Int),.int .u64 (q.s:Int)] 90 27
 have hbw:b<w.heap.size:=Blk.lt h
 have HW:=Lib.hid hw
 have HL:=Lib.hid hL
 have HD:=Lib.hid h
 have HQ:=Lib.hid hq
 have HQL:=Lib.hid hQ
 have HBP:=Lib.hid bp
 have HBQ:=Lib.hid bq
 have HX:=Lib.hid x0
 have HS0:=Lib.hid s0
 have HBW:=Lib.hid hbw
 have HLEN:=Lib.hid hlen
 have HOL:=Lib.hid hol
 have HACC:=Lib.hid hacc
 have cN:∀ W,Ext W0 W→Calls Tryz.prog 76 #[.slice A q.names.length c] W fun e w'=>∃ nA nc,e=.returned (.slice nA q.names.length nc)∧w'.ownsRow W0.heap.size 9 1 (.slice nA q.names.length nc) q.names.length (tv q.names)∧Ext W w':=fun W x =>
  (cloneT_any A q.names.length c (tv q.names) (tv_one _) hq.nl W (hq.ext (x0.trans x)).names).mono fun e w' ⟨v,h1,h2,h3⟩=>by
   obtain ⟨nA,nc,rfl,hc,hr⟩:=own_slice h2
   exact ⟨nA,nc,h1,own_base h2 x.size,h3⟩
 have HC:Hid (∀ W,Ext W0 W→(W.cell? ⟨w.heap.size,0,none⟩=some (.pointer (some ⟨b,0,none⟩))∧W.cell? ⟨b,4,none⟩=some (.slice d.rA d.ords.length d.rc)∧W.cell? ⟨w.heap.size+1,1,none⟩=some (.int .i64 q.acc)∧W.cell? ⟨w.heap.size+1,4,none⟩=some (.slice A q.names.length c)∧W.cell? ⟨w.heap.size+1,3,none⟩=some (.int .u64 (q.key:Int))∧W.cell? ⟨w.heap.size+1,5,none⟩=some (.int .i64 q.life))):=Lib.hid fun W x =>
  ⟨(ext_blk x bp).cell 0,(DoorB.ext h (x0.trans x)).cell 4,(ext_blk x bq).cell 1,(ext_blk x bq).cell 4,(ext_blk x bq).cell 3,(ext_blk x bq).cell 5⟩
 have hob:(d.ords.length:Int)≤100:=by omega
 clear hw hL h hq hQ bp bq x0 s0 hbw hlen hol hacc
 go_enter Tryz.func50,Tryz.ntmps50
 go_upto_region 1 with (fail)
 try rw [e0]
 clear e0
 go_cut [6] (fun s6 wx=>∃ g6 nA nc,s6=.pointer (some ⟨g6,0,none⟩)∧Blk wx g6 78 #[.int .i64 ((d.ords.length:Int)+1),.int .i64 q.acc,.slice nA q.names.length nc,.int .u64 (q.key:Int),.int .i64 q.life,.slice none 0 0,.int .i64 1,.int .i64 0]∧wx.ownsRow W0.heap.size 9 1 (.slice nA q.names.length nc) q.names.length (tv q.names)∧W0.heap.size≤g6∧Ext W0 wx)
 case first =>
  have hsum:IntKind.i64.wrap ((d.ords.length:Int)+1)=(d.ords.length:Int)+1:=by rw [IntKind.wrap_i64];omega
  obtain ⟨c0,c1,c2,c3,c4,c5⟩:=HC.out W0 (Ext.refl W0)
  refine E_start (n:=19) (ls:=#[false,false,false,false,false,false,false,false,false,false,false,false,false,false,false,false,false,false,false]) (fun w'=>w'.cell? ⟨w.heap.size,0,none⟩=some (.pointer (some ⟨b,0,none⟩))∧w'.cell? ⟨b,4,none⟩=some (.slice d.rA d.ords.length d.rc)∧w'.cell? ⟨w.heap.size+1,1,none⟩=some (.int .i64 q.acc)∧w'.cell? ⟨w.heap.size+1,4,none⟩=some (.slice A q.names.length c)∧w'.cell? ⟨w.heap.size+1,3,none⟩=some (.int .u64 (q.key:Int))∧w'.cell? ⟨w.heap.size+1,5,none⟩=some (.int .i64 q.life)) 18 (by kernel_rfl) (by kernel_rfl) (by kernel_rfl) (HC.out _ (Ext.refl W0).drew) (fun hHeld=>?_)
  refine E_tk (i:=0) (some 10) (v:=?_) rfl rfl (by kernel_rfl) hHeld (fun w hSw=>?_) ?_;rotate_left 1
  ·(try dsimp only at hSw);go_simp;try with_reducible rfl
  try simp only [Act.put,zpA,zpB,zpC]
  refine E_tk (i:=1) (some 11) (v:=?_) rfl rfl (by kernel_rfl) hHeld (fun w hSw=>?_) ?_;rotate_left 1
  ·(try dsimp only at hSw);go_simp;try with_reducible rfl
  try simp only [Act.put,zpA,zpB,zpC]
  refine E_tk (i:=2) (some 12) (v:=?_) rfl rfl (by kernel_rfl) hHeld (fun w hSw=>?_) ?_;rotate_left 1
  ·(try dsimp only at hSw);go_simp;try with_reducible rfl
  try simp only [Act.put,zpA,zpB,zpC]
  refine E_tk (i:=3) (some 13) (v:=?_) rfl rfl (by kernel_rfl) hHeld (fun w hSw=>?_) ?_;rotate_left 1
  ·(try dsimp only at hSw);go_simp;try with_reducible rfl
  try simp only [Act.put,zpA,zpB,zpC]
  refine E_tk (i:=4) (some 14) (v:=?_) rfl rfl (by kernel_rfl) hHeld (fun w hSw=>?_) ?_;rotate_left 1
  ·(try dsimp only at hSw);go_simp;try with_reducible rfl
  try simp only [Act.put,zpA,zpB,zpC]
  refine E_tk (i:=5) (some 15) (v:=?_) rfl rfl (by kernel_rfl) hHeld (fun w hSw=>?_) ?_;rotate_left 1
  ·(try dsimp only at hSw);go_simp;try with_reducible rfl
  try simp only [Act.put,zpA,zpB,zpC]
  refine E_tk (i:=6) (some 16) (v:=?_) rfl rfl (by kernel_rfl) hHeld (fun w hSw=>?_) ?_;rotate_left 1
  ·(try dsimp only at hSw);go_simp;try with_reducible rfl
  try simp only [Act.put,zpA,zpB,zpC]
  refine E_tk (i:=7) (some 17) (v:=?_) rfl rfl (by kernel_rfl) hHeld (fun w hSw=>?_) ?_;rotate_left 1
  ·(try dsimp only at hSw);go_simp;try with_reducible rfl
  try simp only [Act.put,zpA,zpB,zpC]
  refine E_tk (i:=8) (some 18) (v:=?_) rfl rfl (by kernel_rfl) hHeld (fun w hSw=>?_) ?_;rotate_left 1
  ·(try dsimp only at hSw);go_simp;try with_reducible rfl
  try simp only [Act.put,zpA,zpB,zpC]
  refine E_tk (i:=9) (some 19) (v:=?_) rfl rfl (by kernel_rfl) hHeld (fun w hSw=>?_) ?_;rotate_left 1
  ·(try dsimp only at hSw);go_simp;try with_reducible rfl
  try simp only [Act.put,zpA,zpB,zpC]
  refine E_tk (i:=10) (some 20) (v:=?_) rfl rfl (by kernel_rfl) hHeld (fun w hSw=>?_) ?_;rotate_left 1
  ·(try dsimp only at hSw);go_simp;try with_reducible rfl
  try simp only [Act.put,zpA,zpB,zpC]
  refine E_tk (i:=12) (some 22) (v:=?_) rfl rfl (by kernel_rfl) hHeld (fun w hSw=>?_) ?_;rotate_left 1
  ·(try dsimp only at hSw);go_simp;try with_reducible rfl
  try simp only [Act.put,zpA,zpB,zpC]
  refine E_tk (i:=13) (some 23) (v:=?_) rfl rfl (by kernel_rfl) hHeld (fun w hSw=>?_) ?_;rotate_left 1
  ·(try dsimp only at hSw);go_simp;try with_reducible rfl
  try simp only [Act.put,zpA,zpB,zpC]
  refine E_tk (i:=14) (some 24) (v:=?_) rfl rfl (by kernel_rfl) hHeld (fun w hSw=>?_) ?_;rotate_left 1
  ·(try dsimp only at hSw);go_simp;try with_reducible rfl
  try simp only [Act.put,zpA,zpB,zpC]
  refine E_tk (i:=15) (some 25) (v:=?_) rfl rfl (by kernel_rfl) hHeld (fun w hSw=>?_) ?_;rotate_left 1
  ·(try dsimp only at hSw);go_simp;try with_reducible rfl
  try simp only [Act.put,zpA,zpB,zpC]
  refine E_tw (i:=11) (k:=17) rfl rfl (by kernel_rfl) (by kernel_rfl) (by kernel_rfl) (fun K hK=>?_) (fun K hK=>?_)
  ·go_simp
   go_at_call 76
   refine (cN _ (Ext.refl W0).drew).mono ?_
   clear cN
   rintro e w2 ⟨nA,nc,rfl,ho2,x2⟩
   have X2:Ext W0 w2:=(Ext.refl W0).drew.trans x2
   have HO2:=Lib.hid ho2
   clear ho2 x2
   replace hHeld:=HC.out _ X2
   refine hK _ _ (fun _=>hHeld) ?_
   clear hK K
   try simp only [Act.put,zpA,zpB,zpC]
   refine E_tk (i:=16) (some 26) (v:=?_) rfl rfl (by kernel_rfl) hHeld (fun w hSw=>?_) ?_;rotate_left 1
   ·(try dsimp only at hSw);go_simp;try with_reducible rfl
   try simp only [Act.put,zpA,zpB,zpC]
   refine E_on (i:=17) rfl (by kernel_rfl) (by kernel_rfl) (fun K hK=>?_)
   go_simp
   replace hHeld:=HC.out _ (X2.alloc (.cells #[.int .i64 0,.int .i64 0,.slice none 0 0,.int .u64 0,.int .i64 0,.slice none 0 0,.int .i64 0,.int .i64 0] 78))
   refine hK _ _ (fun _=>hHeld) ?_
   clear hK K
   try simp only [Act.put,zpA,zpB,zpC]
   refine E_on (i:=18) rfl (by kernel_rfl) (by kernel_rfl) (fun K hK=>?_)
   clear hHeld
   go_simp
   refine hK _ _ (fun h=>absurd rfl h) ?_
   clear hK K
   try simp only [Act.put,zpA,zpB,zpC]
   refine E_done (by kernel_rfl) ?_
   go_wp2
   go_meet
   exact ⟨w2.heap.size,nA,nc,rfl,Blk.new _ _ _,HO2.out.alloc _,X2.size,X2.alloc _⟩
  ·go_simp
   replace hHeld:=HC.out _ (((Ext.refl W0).alloc (.cells #[.int .i64 0,.int .i64 0,.slice none 0 0,.int .u64 0,.int .i64 0,.slice none 0 0,.int .i64 0,.int .i64 0] 78)).drew)
   refine hK _ _ (fun _=>hHeld) ?_
   clear hK K
   try simp only [Act.put,zpA,zpB,zpC]
   refine E_on (i:=11) rfl (by kernel_rfl) (by kernel_rfl) (fun K hK=>?_)
   go_simp
   go_at_call 76
   refine (cN _ (((Ext.refl W0).alloc _).drew)).mono ?_
   clear cN
   rintro e w2 ⟨nA,nc,rfl,ho2,x2⟩
   have X2:Ext W0 w2:=(((Ext.refl W0).alloc _).drew).trans x2
   have hz:=ext_blk x2 (Blk.drew (Blk.new W0 78 #[.int .i64 0,.int .i64 0,.slice none 0 0,.int .u64 0,.int .i64 0,.slice none 0 0,.int .i64 0,.int .i64 0]))
   have HO2:=Lib.hid ho2
   clear ho2 x2
   replace hHeld:=HC.out _ X2
   refine hK _ _ (fun _=>hHeld) ?_
   clear hK K
   try simp only [Act.put,zpA,zpB,zpC]
   refine E_tk (i:=16) (some 26) (v:=?_) rfl rfl (by kernel_rfl) hHeld (fun w hSw=>?_) ?_;rotate_left 1
   ·(try dsimp only at hSw);go_simp;try with_reducible rfl
   try simp only [Act.put,zpA,zpB,zpC]
   refine E_on (i:=18) rfl (by kernel_rfl) (by kernel_rfl) (fun K hK=>?_)
   clear hHeld
   obtain ⟨z0,z1,z2,z3,z4,z5,z6,z7⟩:=arr8 hz
   have f0:=hz.frozen 0
   have f1:=hz.frozen 1
   have f2:=hz.frozen 2
   have f3:=hz.frozen 3
   have f4:=hz.frozen 4
   have f5:=hz.frozen 5
   have f6:=hz.frozen 6
   have f7:=hz.frozen 7
   have HZ:=Lib.hid hz
   clear hz
   go_simp
   refine hK _ _ (fun h=>absurd rfl h) ?_
   clear hK K
   try simp only [Act.put,zpA,zpB,zpC]
   refine E_done (by kernel_rfl) ?_
   go_wp2
   go_meet
   exact ⟨W0.heap.size,nA,nc,rfl,set8_blk HZ.out _ _ _ _ _ _ _ _,set8_own HO2.out HZ.out (by decide) _ _ _ _ _ _ _ _,Nat.le_refl _,set8_ext X2 (Nat.le_refl _) _ _ _ _ _ _ _ _⟩
 case rest =>
  obtain ⟨g6,nA,nc,rfl,ho6,hn6,hg6,hx6⟩:=hcut
  obtain ⟨W1,hW1⟩:∃ W,W=wc:=⟨_,rfl⟩
  rw [← hW1] at ho6 hn6 hx6 ⊢
  clear hW1 cN
  have X1:=HX.out.trans hx6
  have hs1:w.heap.size+2≤W1.heap.size:=by have:=hx6.size;have:=HS0.out;omega
  have h61:g6<W1.heap.size:=Blk.lt ho6
  have cU:∀ W,Ext W1 W→Calls Tryz.prog 101 #[.slice d.uA d.auts.length d.uc] W fun e w'=>∃ uA uc,e=.returned (.slice uA d.auts.length uc)∧w'.ownsRow W1.heap.size 69 7 (.slice uA d.auts.length uc) d.auts.length (autV d.auts)∧Ext W w':=fun W x =>
   (cloneU_any d.uA d.auts.length d.uc (autV d.auts) (autV_one _) HW.out.ul W ((HW.out.aut.below (X1.trans x).out).more (X1.trans x).size)).mono fun e w' ⟨v,h1,h2,h3⟩=>by
    obtain ⟨uA,uc,rfl,hc,hr⟩:=own_slice2 h2
    exact ⟨uA,uc,h1,own_base h2 x.size,h3⟩
  have HBP1:=Lib.hid (ext_blk hx6 HBP.out)
  have HBQ1:=Lib.hid (ext_blk hx6 HBQ.out)
  have HD1:=Lib.hid (DoorB.ext HD.out X1)
  have HO1:=Lib.hid ho6
  have HN1:=Lib.hid hn6
  have HG6:=Lib.hid hg6
  have HX1:=Lib.hid X1
  have HS1:=Lib.hid hs1
  have H61:=Lib.hid h61
  have HC2:Hid (∀ W,Ext W1 W→(W.cell? ⟨w.heap.size,0,none⟩=some (.pointer (some ⟨b,0,none⟩))∧W.cell? ⟨b,3,none⟩=some (.slice d.uA d.auts.length d.uc))):=Lib.hid fun W x=>⟨(ext_blk x HBP1.out).cell 0,(DoorB.ext HD1.out x).cell 3⟩
  clear ho6 hn6 hg6 hx6 X1 hs1 h61 HC
  go_upto_region 2 with (fail)
  refine E_start (n:=11) (ls:=#[false,false,false,false,false,false,false,false,false,false,false]) (fun w'=>w'.cell? ⟨w.heap.size,0,none⟩=some (.pointer (some ⟨b,0,none⟩))∧w'.cell? ⟨b,3,none⟩=some (.slice d.uA d.auts.length d.uc)) 10 (by kernel_rfl) (by kernel_rfl) (by kernel_rfl) (HC2.out _ (Ext.refl W1).drew) (fun hHeld=>?_)
  refine E_tk (i:=0) (some 27) (v:=?_) rfl rfl (by kernel_rfl) hHeld (fun w hSw=>?_) ?_;rotate_left 1
  ·(try dsimp only at hSw);go_simp;try with_reducible rfl
  try simp only [Act.put,zpA,zpB,zpC]
  refine E_tk (i:=1) (some 28) (v:=?_) rfl rfl (by kernel_rfl) hHeld (fun w hSw=>?_) ?_;rotate_left 1
  ·(try dsimp only at hSw);go_simp;try with_reducible rfl
  try simp only [Act.put,zpA,zpB,zpC]
  refine E_tk (i:=2) (some 29) (v:=?_) rfl rfl (by kernel_rfl) hHeld (fun w hSw=>?_) ?_;rotate_left 1
  ·(try dsimp only at hSw);go_simp;try with_reducible rfl
  try simp only [Act.put,zpA,zpB,zpC]
  refine E_tk (i:=3) (some 30) (v:=?_) rfl rfl (by kernel_rfl) hHeld (fun w hSw=>?_) ?_;rotate_left 1
  ·(try dsimp only at hSw);go_simp;try with_reducible rfl
  try simp only [Act.put,zpA,zpB,zpC]
  refine E_tk (i:=4) (some 31) (v:=?_) rfl rfl (by kernel_rfl) hHeld (fun w hSw=>?_) ?_;rotate_left 1
  ·(try dsimp only at hSw);go_simp;try with_reducible rfl
  try simp only [Act.put,zpA,zpB,zpC]
  refine E_tk (i:=5) (some 32) (v:=?_) rfl rfl (by kernel_rfl) hHeld (fun w hSw=>?_) ?_;rotate_left 1
  ·(try dsimp only at hSw);go_simp;try with_reducible rfl
  try simp only [Act.put,zpA,zpB,zpC]
  refine E_on (i:=6) rfl (by kernel_rfl) (by kernel_rfl) (fun K hK=>?_)
  go_simp
  go_at_call 101
  refine (cU _ (Ext.refl W1).drew).mono ?_
  clear cU
  rintro e w2 ⟨uA,uc,rfl,ho2,x2⟩
  have X2:Ext W1 w2:=(Ext.refl W1).drew.trans x2
  have HO2:=Lib.hid ho2
  have HX2:=Lib.hid X2
  clear ho2 x2
  replace hHeld:=HC2.out _ X2
  refine hK _ _ (fun _=>hHeld) ?_
  clear hK K
  try simp only [Act.put,zpA,zpB,zpC]
  refine E_on (i:=7) rfl (by kernel_rfl) (by kernel_rfl) (fun K hK=>?_)
  go_simp
  refine hK _ _ (fun _=>hHeld) ?_
  clear hK K
  try simp only [Act.put,zpA,zpB,zpC]
  refine E_on (i:=8) rfl (by kernel_rfl) (by kernel_rfl) (fun K hK=>?_)
  go_simp
  refine hK _ _ (fun _=>hHeld) ?_
  clear hK K
  try simp only [Act.put,zpA,zpB,zpC]
  refine E_on (i:=9) rfl (by kernel_rfl) (by kernel_rfl) (fun K hK=>?_)
  go_simp
  refine hK _ _ (fun _=>hHeld) ?_
  clear hK K
  try simp only [Act.put,zpA,zpB,zpC]
  refine E_on (i:=10) rfl (by kernel_rfl) (by kernel_rfl) (fun K hK=>?_)
  have f3:=(DoorB.ext HD1.out X2).frozen 3
  go_simp
  refine hK _ _ (fun h=>absurd rfl h) ?_
  clear hK K
  try simp only [Act.put,zpA,zpB,zpC]
  refine E_done (by kernel_rfl) ?_
  clear hHeld f3
  obtain ⟨W2,hW2⟩:∃ W,W=w2.setCell ⟨b,3,none⟩ (.slice uA d.auts.length uc):=⟨_,rfl⟩
  have HST:Hid (wantSt W1 b g6 d now q nA nc 0 W2):=Lib.hid (by
   have hs1:=HS1.out
   have hgx:=HG6.out
   have hs0:=HS0.out
   have hbw:=HBW.out
   rw [hW2]
   refine ⟨d.auts,[],uA,uc,none,0,rfl,⟨((But.refl b g6 W1).ext HX2.out).set (.inl rfl) _,(DoorB.ext HD1.out HX2.out).set_ 3 _,own_far HO2.out (by omega) 3 _,Blk.far (ext_blk HX2.out HO1.out) (show g6≠b by omega) _,⟨rfl,.inl ⟨rfl,rfl⟩⟩⟩,by omega,HW.out.uw,by simp,rfl⟩)
  rw [← hW2]
  clear hW2 HO2 HX2 X2
  have hbW:=HBW.out
  have q4:W2.cell? ⟨w.heap.size+1,4,none⟩=some (.slice A q.names.length c):=by
   obtain ⟨L,ns,uA,uc,aA,ac,-,hb,-⟩:=HST.out
   exact (hb.but.blk HBQ1.out (by have:=HBW.out;omega) (by have:=HG6.out;have:=HS0.out;omega)).cell 4
  clear hbW
  go_wp2
  clear q4
  go_loopg [40] q.names.length (fun g s40 wr=>∃ j:Nat,j+g=q.names.length∧s40=.int .i64 j∧wantSt W1 b g6 d now q nA nc j wr)
  case atStart=>exact ⟨0,by omega,rfl,HST.out⟩
  case round =>
   obtain ⟨j,hj,rfl,L,ns,uA2,uc2,aA,ac,hfo,hbu,hLl,hLw,hns,hnl⟩:=hrel
   have hjb:(j:Int)≤1099511627776:=by have:=HQ.out.nl;omega
   have hgx:=HG6.out
   have hs0:=HS0.out
   have hs1:=HS1.out
   have hbw:=HBW.out
   have h61:=H61.out
   have hgw:w.grownBy wr (some b):=hbu.but.from HX1.out (by omega)
   have bq3:=hbu.but.blk HBQ1.out (by omega) (by omega)
   have bp3:=hbu.but.blk HBP1.out (by omega) (by omega)
   have hLn:L.length<99:=by have:=HLEN.out;omega
   have HJ:=Lib.hid hj
   have HFO:=Lib.hid hfo
   have HST3:=Lib.hid hbu
   have HLL:=Lib.hid hLl
   have HLW:=Lib.hid hLw
   have HNS:=Lib.hid hns
   have HNL:=Lib.hid hnl
   have HLN:=Lib.hid hLn
   have HGW:=Lib.hid hgw
   have HB3:=Lib.hid bq3
   have HP3:=Lib.hid bp3
   have HBS:Hid (b<W1.heap.size):=Lib.hid (by omega)
   have HBG:Hid (b≠g6):=Lib.hid (by omega)
   have hso:Hid (w.heap.size+2≤wr.heap.size):=Lib.hid (by have:=hbu.but.size;omega)
   by_cases hjl:j<q.names.length
   ·obtain ⟨s,hs⟩:∃ s,q.names[j]?=some s:=⟨_,List.getElem?_eq_getElem hjl⟩
    have hN:=HQ.out.names.stay HQL.out hgw.size (fun k hk hb=>hgw.block k hb (by simpa using hk))
    obtain ⟨ad,hA,p1⟩:=reads_text hN hs
    subst hA
    have HSN:Hid (s.size≤140737488355328):=Lib.hid (HQ.out.ns s (List.mem_of_getElem? hs))
    have HHS:=Lib.hid (tk_snoc hs)
    clear hs hN hj hfo hLl hLw hns hnl hgx hs0 hs1 hbw h61 hgw bq3 bp3 hLn
    go_upto_region 6 with (fail)
    obtain ⟨W3,e3⟩:∃ W,wr.alloc (.cells #[.string s] 9)=W:=⟨_,rfl⟩
    try rw [e3]
    have X3:Ext wr W3:=by rw [← e3];exact (Ext.refl wr).alloc _
    have BS:Blk W3 wr.heap.size 9 #[.string s]:=by rw [← e3];exact Blk.new _ _ _
    clear e3 p1
    have c1:=indexU_any _ wants1_enters #[.pointer (some ⟨w.heap.size+1,0,none⟩),.pointer (some ⟨wr.heap.size,0,none⟩),.pointer (some ⟨w.heap.size,0,none⟩)] (sameA q.acc now s) L (by have:=HLN.out;omega) uA2 uc2 W3 (Reads.of_own (own_ext hbu.own X3))
     (fun W x hx xx=>wants1_any x q.acc now s (w.heap.size+1) wr.heap.size w.heap.size b W ((ext_blk (X3.trans xx) HB3.out).cell 1) ((ext_blk xx BS).cell 0) ((ext_blk (X3.trans xx) HP3.out).cell 0) ((DoorB.ext hbu.door (X3.trans xx)).cell 6))
    have a0:=(ext_blk X3 HP3.out).cell 0
    have a3:W3.cell? ⟨b,3,none⟩=some (.slice uA2 L.length uc2):=(DoorB.ext hbu.door X3).cell 3
    have HX3:=Lib.hid X3
    have HBS3:=Lib.hid BS
    clear X3 BS hbu
    go_upto_region 7 with (go_at_call 102;refine c1.mono ?_;clear c1 a0 a3;rintro e w5 ⟨rfl,x5⟩)
    have HT5:=Lib.hid (HST3.out.ext (HX3.out.trans x5))
    have HX5:=Lib.hid (HX3.out.trans x5)
    have HBS5:=Lib.hid (ext_blk x5 HBS3.out)
    clear x5
    obtain ⟨i0,hi,hz0,hz1,hz2⟩:=info_parts Tryz.infoInt
    cases hf:findA L q.acc s now with
    | some i =>
     have hil:i<L.length:=(List.findIdx?_eq_some_iff_getElem.1 hf).1
     have hix:ixG (sameA q.acc now s) L=(i:Int):=by unfold ixG;rw [show L.findIdx? (sameA q.acc now s)=some i from hf]
     rw [hix]
     have hib:(i:Int)<99:=by have:=HLN.out;omega
     have f5:=HT5.out.ord.cell 5
     have HF:=Lib.hid (wantA_some (ns:=ns) hf)
     have HIL:=Lib.hid hil
     clear hix hil hf
     go_wp2_with (at_builtin;refine wpList_append_own _ rfl (.tmp 82) (.tmp 85) 76 rfl W1.heap.size 3 i0 (.int .i64 0) 1 8 Tryz.underlying76 hi hz0 hz1 hz2 rfl (by decide) _ _ _ rfl (HT5.out.num.alloc _) ⟨w5.heap.size,0,none⟩ 1 1 [.int .i64 ((i:Int)+1)] rfl rfl (cell_one_new _ _ _) (by simp [Value.oneCell']) (by have:=HNL.out;simp only [maxLen];omega) (by have:=HNL.out;omega) (by have:=HT5.out.but.size;simp;omega) ?_;intro v6 w6 hown6 hg6 _;obtain ⟨b6,A6,c6,rfl,ht6⟩:=(HT5.out.ext ((Ext.refl _).alloc _)).addN HBS.out H61.out HBG.out ((i:Int)+1) hown6 hg6;have f5:=b6.cell 5;have f6:=b6.frozen 5;have HT6:=Lib.hid ht6;clear b6 hown6 hg6 ht6)
     have hlen6:(ns++[((i:Int)+1)]).length=ns.length+1:=by simp
     have hj:=HJ.out
     have hll:=HLL.out
     have hnl:=HNL.out
     go_roundg (gk-1)
     case measure=>omega
     case rel=>exact ⟨j+1,by omega,int_congr (by omega),L,ns++[((i:Int)+1)],_,_,A6,c6,by rw [HHS.out,List.foldl_append,HFO.out];exact HF.out,HT6.out,(by omega),(fun x hx=>HLW.out x hx),fun n hn=>(by rcases List.mem_append.1 hn with hn|hn;exact HNS.out n hn;rw [List.mem_singleton] at hn;subst hn;have:=HIL.out;omega),by rw [hlen6];omega⟩
    | none =>
     have hix:ixG (sameA q.acc now s) L=-1:=by unfold ixG;rw [show L.findIdx? (sameA q.acc now s)=none from hf]
     rw [hix]
     have HF:=Lib.hid (wantA_none (ns:=ns) hf)
     have a0:=(ext_blk HX5.out HP3.out).cell 0
     have a3:w5.cell? ⟨b,3,none⟩=some (.slice uA2 L.length uc2):=HT5.out.door.cell 3
     have hLb:(L.length:Int)<99:=by have:=HLN.out;omega
     have hsum:IntKind.i64.wrap ((L.length:Int)+1)=(L.length:Int)+1:=by rw [IntKind.wrap_i64];omega
     have cT:=fun W=>token_any ((L.length:Int)+1) q.acc (by omega) (by omega) HACC.out.1 HACC.out.2 W
     clear hix hf
     go_upto_region 9 with (fail)
     clear a0 a3
     have HC9:Hid (∀ W,Ext w5 W→(W.cell? ⟨w.heap.size,0,none⟩=some (.pointer (some ⟨b,0,none⟩))∧W.cell? ⟨b,3,none⟩=some (.slice uA2 L.length uc2)∧W.cell? ⟨w.heap.size+1,1,none⟩=some (.int .i64 q.acc)∧W.cell? ⟨wr.heap.size,0,none⟩=some (.string s))):=Lib.hid fun W x =>
      ⟨(ext_blk (HX5.out.trans x) HP3.out).cell 0,(DoorB.ext HT5.out.door x).cell 3,(ext_blk (HX5.out.trans x) HB3.out).cell 1,(ext_blk x HBS5.out).cell 0⟩
     obtain ⟨i1,hj1,hy0,hy1,hy2⟩:=info_parts Tryz.infoAut
     refine E_start (n:=23) (ls:=#[false,false,false,false,false,false,false,false,false,false,false,false,false,false,false,false,false,false,false,false,false,false,false]) (fun w'=>w'.cell? ⟨w.heap.size,0,none⟩=some (.pointer (some ⟨b,0,none⟩))∧w'.cell? ⟨b,3,none⟩=some (.slice uA2 L.length uc2)∧w'.cell? ⟨w.heap.size+1,1,none⟩=some (.int .i64 q.acc)∧w'.cell? ⟨wr.heap.size,0,none⟩=some (.string s)) 22 (by kernel_rfl) (by kernel_rfl) (by kernel_rfl) (HC9.out _ (Ext.refl w5).drew) (fun hHeld=>?_)
     refine E_tk (i:=0) (some 59) (v:=?_) rfl rfl (by kernel_rfl) hHeld (fun w hSw=>?_) ?_;rotate_left 1
     ·(try dsimp only at hSw);go_simp;try with_reducible rfl
     try simp only [Act.put,zpA,zpB,zpC]
     refine E_tk (i:=1) (some 60) (v:=?_) rfl rfl (by kernel_rfl) hHeld (fun w hSw=>?_) ?_;rotate_left 1
     ·(try dsimp only at hSw);go_simp;try with_reducible rfl
     try simp only [Act.put,zpA,zpB,zpC]
     refine E_tk (i:=2) (some 61) (v:=?_) rfl rfl (by kernel_rfl) hHeld (fun w hSw=>?_) ?_;rotate_left 1
     ·(try dsimp only at hSw);go_simp;try with_reducible rfl
     try simp only [Act.put,zpA,zpB,zpC]
     refine E_tk (i:=3) (some 62) (v:=?_) rfl rfl (by kernel_rfl) hHeld (fun w hSw=>?_) ?_;rotate_left 1
     ·(try dsimp only at hSw);go_simp;try with_reducible rfl
     try simp only [Act.put,zpA,zpB,zpC]
     refine E_tk (i:=4) (some 63) (v:=?_) rfl rfl (by kernel_rfl) hHeld (fun w hSw=>?_) ?_;rotate_left 1
     ·(try dsimp only at hSw);go_simp;try with_reducible rfl
     try simp only [Act.put,zpA,zpB,zpC]
     refine E_tk (i:=5) (some 64) (v:=?_) rfl rfl (by kernel_rfl) hHeld (fun w hSw=>?_) ?_;rotate_left 1
     ·(try dsimp only at hSw);go_simp;try with_reducible rfl
     try simp only [Act.put,zpA,zpB,zpC]
     refine E_tk (i:=6) (some 65) (v:=?_) rfl rfl (by kernel_rfl) hHeld (fun w hSw=>?_) ?_;rotate_left 1
     ·(try dsimp only at hSw);go_simp;try with_reducible rfl
     try simp only [Act.put,zpA,zpB,zpC]
     refine E_tk (i:=7) (some 66) (v:=?_) rfl rfl (by kernel_rfl) hHeld (fun w hSw=>?_) ?_;rotate_left 1
     ·(try dsimp only at hSw);go_simp;try with_reducible rfl
     try simp only [Act.put,zpA,zpB,zpC]
     refine E_tk (i:=8) (some 67) (v:=?_) rfl rfl (by kernel_rfl) hHeld (fun w hSw=>?_) ?_;rotate_left 1
     ·(try dsimp only at hSw);go_simp;try with_reducible rfl
     try simp only [Act.put,zpA,zpB,zpC]
     refine E_tk (i:=9) (some 68) (v:=?_) rfl rfl (by kernel_rfl) hHeld (fun w hSw=>?_) ?_;rotate_left 1
     ·(try dsimp only at hSw);go_simp;try with_reducible rfl
     try simp only [Act.put,zpA,zpB,zpC]
     refine E_tk (i:=10) (some 69) (v:=?_) rfl rfl (by kernel_rfl) hHeld (fun w hSw=>?_) ?_;rotate_left 1
     ·(try dsimp only at hSw);go_simp;try with_reducible rfl
     try simp only [Act.put,zpA,zpB,zpC]
     refine E_tk (i:=11) (some 70) (v:=?_) rfl rfl (by kernel_rfl) hHeld (fun w hSw=>?_) ?_;rotate_left 1
     ·(try dsimp only at hSw);go_simp;try with_reducible rfl
     try simp only [Act.put,zpA,zpB,zpC]
     refine E_tk (i:=12) (some 71) (v:=?_) rfl rfl (by kernel_rfl) hHeld (fun w hSw=>?_) ?_;rotate_left 1
     ·(try dsimp only at hSw);go_simp;try with_reducible rfl
     try simp only [Act.put,zpA,zpB,zpC]
     refine E_tk (i:=13) (some 72) (v:=?_) rfl rfl (by kernel_rfl) hHeld (fun w hSw=>?_) ?_;rotate_left 1
     ·(try dsimp only at hSw);go_simp;try with_reducible rfl
     try simp only [Act.put,zpA,zpB,zpC]
     refine E_tk (i:=14) (some 73) (v:=?_) rfl rfl (by kernel_rfl) hHeld (fun w hSw=>?_) ?_;rotate_left 1
     ·(try dsimp only at hSw);go_simp;try with_reducible rfl
     try simp only [Act.put,zpA,zpB,zpC]
     refine E_on (i:=15) rfl (by kernel_rfl) (by kernel_rfl) (fun K hK=>?_)
     go_simp
     go_at_call 104
     refine (cT _).mono ?_
     clear cT
     rintro e w6 ⟨rfl,rfl⟩
     replace hHeld:=HC9.out _ (Ext.refl w5).drew
     refine hK _ _ (fun _=>hHeld) ?_
     clear hK K
     try simp only [Act.put,zpA,zpB,zpC]
     refine E_tk (i:=16) (some 75) (v:=?_) rfl rfl (by kernel_rfl) hHeld (fun w hSw=>?_) ?_;rotate_left 1
     ·(try dsimp only at hSw);go_simp;try with_reducible rfl
     try simp only [Act.put,zpA,zpB,zpC]
     refine E_on (i:=17) rfl (by kernel_rfl) (by kernel_rfl) (fun K hK=>?_)
     go_simp
     replace hHeld:=HC9.out _ ((Ext.refl w5).drew.alloc (.cells #[.int .i64 ((L.length:Int)+1),.int .i64 q.acc,.string s,.string (tokS ((L.length:Int)+1) q.acc),.int .i64 1,.int .i64 0,.int .i64 0] 69))
     refine hK _ _ (fun _=>hHeld) ?_
     clear hK K
     try simp only [Act.put,zpA,zpB,zpC]
     refine E_on (i:=18) rfl (by kernel_rfl) (by kernel_rfl) (fun K hK=>?_)
     clear hHeld
     refine wp_append_any _ (.tmp 64) (.tmp 76) 40 rfl W1.heap.size 69 i1 (.agg #[.int .i64 0,.int .i64 0,.string ⟨#[]⟩,.string ⟨#[]⟩,.int .i64 0,.int .i64 0,.int .i64 0]) 7 72 Tryz.underlying40 hj1 hy0 hy1 hy2 rfl (by decide) _ L.length (autV L) rfl ((HT5.out.own.drew).alloc _) _ (some ⟨w5.heap.size,0,none⟩) 1 1 [.int .i64 ((L.length:Int)+1),.int .i64 q.acc,.string s,.string (tokS ((L.length:Int)+1) q.acc),.int .i64 1,.int .i64 0,.int .i64 0] rfl (reads_newL w5.drew _ _) (by simp [Value.oneCell']) (by have:=HLN.out;simp only [maxLen];omega) (by have:=HLN.out;omega) (by have:=HT5.out.but.size;simp;omega) ?_
     intro v7 w7 hown7 hg7 _
     have X7:Ext w5 (w5.drew.alloc (.cells #[.int .i64 ((L.length:Int)+1),.int .i64 q.acc,.string s,.string (tokS ((L.length:Int)+1) q.acc),.int .i64 1,.int .i64 0,.int .i64 0] 69)):=(Ext.refl w5).drew.alloc _
     have s1:Blk w7 w.heap.size 90 #[.pointer (some ⟨b,0,none⟩)]:=Blk.grown (ext_blk (HX5.out.trans X7) HP3.out) hg7 (own_apart HT5.out.own (by have:=HS1.out;omega))
     have s2:=Blk.grown (ext_blk (HX5.out.trans X7) HB3.out) hg7 (own_apart HT5.out.own (by have:=HS1.out;omega))
     have s3:=Blk.grown (ext_blk X7 HBS5.out) hg7 (fun e=>own_blk_ne HT5.out.own HBS5.out (by decide) e.symm)
     obtain ⟨d7,A7,c7,rfl,ht7⟩:=(HT5.out.ext X7).addU HBS.out H61.out HBG.out (newA L.length q.acc s) hown7 hg7
     have hH7:w7.cell? ⟨w.heap.size,0,none⟩=some (.pointer (some ⟨b,0,none⟩))∧w7.cell? ⟨b,3,none⟩=some (.slice uA2 L.length uc2)∧w7.cell? ⟨w.heap.size+1,1,none⟩=some (.int .i64 q.acc)∧w7.cell? ⟨wr.heap.size,0,none⟩=some (.string s):=⟨s1.cell 0,d7.cell 3,s2.cell 1,s3.cell 0⟩
     have f3:=d7.frozen 3
     have HT7:=Lib.hid ht7
     have hHeld:=hH7
     clear s1 s2 s3 d7 ht7 hown7 hg7 X7
     replace hHeld:=hH7
     refine hK _ _ (fun _=>hHeld) ?_
     clear hK K
     try simp only [Act.put,zpA,zpB,zpC]
     refine E_on (i:=19) rfl (by kernel_rfl) (by kernel_rfl) (fun K hK=>?_)
     go_simp
     refine hK _ _ (fun _=>hHeld) ?_
     clear hK K
     try simp only [Act.put,zpA,zpB,zpC]
     refine E_on (i:=20) rfl (by kernel_rfl) (by kernel_rfl) (fun K hK=>?_)
     go_simp
     refine hK _ _ (fun _=>hHeld) ?_
     clear hK K
     try simp only [Act.put,zpA,zpB,zpC]
     refine E_on (i:=21) rfl (by kernel_rfl) (by kernel_rfl) (fun K hK=>?_)
     go_simp
     refine hK _ _ (fun _=>hHeld) ?_
     clear hK K
     try simp only [Act.put,zpA,zpB,zpC]
     refine E_on (i:=22) rfl (by kernel_rfl) (by kernel_rfl) (fun K hK=>?_)
     go_simp
     refine hK _ _ (fun h=>absurd rfl h) ?_
     clear hK K
     try simp only [Act.put,zpA,zpB,zpC]
     refine E_done (by kernel_rfl) ?_
     clear hHeld f3 hH7 HC9
     obtain ⟨W8,hW8⟩:∃ W,W=w7.setCell ⟨b,3,none⟩ (.slice A7 (L.length+1) c7):=⟨_,rfl⟩
     rw [← hW8] at HT7 ⊢
     clear hW8
     have f5:=HT7.out.ord.cell 5
     go_wp2_with (at_builtin;refine wpList_append_own _ rfl (.tmp 82) (.tmp 85) 76 rfl W1.heap.size 3 i0 (.int .i64 0) 1 8 Tryz.underlying76 hi hz0 hz1 hz2 rfl (by decide) _ _ _ rfl (HT7.out.num.alloc _) ⟨W8.heap.size,0,none⟩ 1 1 [.int .i64 ((L.length:Int)+1)] rfl rfl (cell_one_new _ _ _) (by simp [Value.oneCell']) (by have:=HNL.out;simp only [maxLen];omega) (by have:=HNL.out;omega) (by have:=HT7.out.but.size;simp;omega) ?_;intro v6 w6 hown6 hg6 _;obtain ⟨b6,A6,c6,rfl,ht6⟩:=(HT7.out.ext ((Ext.refl _).alloc _)).addN HBS.out H61.out HBG.out ((L.length:Int)+1) hown6 hg6;have f5:=b6.cell 5;have f6:=b6.frozen 5;have HT6:=Lib.hid ht6;clear b6 hown6 hg6 ht6)
     have hlen6:(ns++[((L.length:Int)+1)]).length=ns.length+1:=by simp
     have hj:=HJ.out
     have hll:=HLL.out
     have hnl:=HNL.out
     go_roundg (gk-1)
     case measure=>omega
     case rel=>exact ⟨j+1,by omega,int_congr (by omega),L++[newA L.length q.acc s],ns++[((L.length:Int)+1)],_,_,A6,c6,by rw [HHS.out,List.foldl_append,HFO.out];exact HF.out,HT6.out,(by rw [List.length_append];simp;omega),(fun x hx=>(by rcases List.mem_append.1 hx with hx|hx;exact HLW.out x hx;rw [List.mem_singleton] at hx;subst hx;exact newA_w HLN.out HACC.out HSN.out)),fun n hn=>(by rw [List.length_append];rcases List.mem_append.1 hn with hn|hn;have:=HNS.out n hn;simp;omega;rw [List.mem_singleton] at hn;subst hn;simp;omega),by rw [hlen6];omega⟩
   ·obtain rfl:j=q.names.length:=by omega
    have HFO2:Hid (q.names.foldl (wantA q.acc now) (d.auts,[])=(L,ns)):=Lib.hid (by rw [List.take_length] at hfo;exact hfo)
    have cO:∀ W,Ext wr W→Calls Tryz.prog 105 #[.slice d.rA d.ords.length d.rc] W fun e w'=>∃ v,e=.returned v∧w'.ownsRow wr.heap.size 78 8 v d.ords.length (ordV d.ords)∧Ext W w':=fun W x =>
     (cloneO_any d.rA d.ords.length d.rc (ordV d.ords) (ordV_one _) HW.out.rl W (((HW.out.ord.stay HL.out.r HGW.out.size (fun k hk hb=>HGW.out.block k hb (by simpa using hk))).below x.out).more x.size)).mono fun e w' ⟨v,h1,h2,h3⟩=>⟨v,h1,own_base h2 x.size,h3⟩
    have HC12:Hid (∀ W,Ext wr W→(W.cell? ⟨w.heap.size,0,none⟩=some (.pointer (some ⟨b,0,none⟩))∧W.cell? ⟨b,4,none⟩=some (.slice d.rA d.ords.length d.rc)∧W.cell? ⟨g6,0,none⟩=some (.int .i64 ((d.ords.length:Int)+1))∧W.cell? ⟨g6,1,none⟩=some (.int .i64 q.acc)∧W.cell? ⟨g6,2,none⟩=some (.slice nA q.names.length nc)∧W.cell? ⟨g6,3,none⟩=some (.int .u64 (q.key:Int))∧W.cell? ⟨g6,4,none⟩=some (.int .i64 q.life)∧W.cell? ⟨g6,5,none⟩=some (.slice aA ns.length ac)∧W.cell? ⟨g6,6,none⟩=some (.int .i64 1)∧W.cell? ⟨g6,7,none⟩=some (.int .i64 0))):=Lib.hid fun W x =>
     ⟨(ext_blk x HP3.out).cell 0,(DoorB.ext HST3.out.door x).cell 4,(ext_blk x HST3.out.ord).cell 0,(ext_blk x HST3.out.ord).cell 1,(ext_blk x HST3.out.ord).cell 2,(ext_blk x HST3.out.ord).cell 3,(ext_blk x HST3.out.ord).cell 4,(ext_blk x HST3.out.ord).cell 5,(ext_blk x HST3.out.ord).cell 6,(ext_blk x HST3.out.ord).cell 7⟩
    obtain ⟨i2,hj1,hy0,hy1,hy2⟩:=info_parts Tryz.infoOrd
    clear hj hfo hbu hLl hLw hns hnl hgx hs0 hs1 hbw h61 hgw bq3 bp3 hLn
    go_upto_region 12 with (fail)
    refine E_start (n:=14) (ls:=#[false,false,false,false,false,false,false,false,false,false,false,false,false,false]) (fun w'=>w'.cell? ⟨w.heap.size,0,none⟩=some (.pointer (some ⟨b,0,none⟩))∧w'.cell? ⟨b,4,none⟩=some (.slice d.rA d.ords.length d.rc)∧w'.cell? ⟨g6,0,none⟩=some (.int .i64 ((d.ords.length:Int)+1))∧w'.cell? ⟨g6,1,none⟩=some (.int .i64 q.acc)∧w'.cell? ⟨g6,2,none⟩=some (.slice nA q.names.length nc)∧w'.cell? ⟨g6,3,none⟩=some (.int .u64 (q.key:Int))∧w'.cell? ⟨g6,4,none⟩=some (.int .i64 q.life)∧w'.cell? ⟨g6,5,none⟩=some (.slice aA ns.length ac)∧w'.cell? ⟨g6,6,none⟩=some (.int .i64 1)∧w'.cell? ⟨g6,7,none⟩=some (.int .i64 0)) 13 (by kernel_rfl) (by kernel_rfl) (by kernel_rfl) (HC12.out _ (Ext.refl wr).drew) (fun hHeld=>?_)
    refine E_tk (i:=0) (some 89) (v:=?_) rfl rfl (by kernel_rfl) hHeld (fun w hSw=>?_) ?_;rotate_left 1
    ·(try dsimp only at hSw);go_simp;try with_reducible rfl
    try simp only [Act.put,zpA,zpB,zpC]
    refine E_tk (i:=1) (some 90) (v:=?_) rfl rfl (by kernel_rfl) hHeld (fun w hSw=>?_) ?_;rotate_left 1
    ·(try dsimp only at hSw);go_simp;try with_reducible rfl
    try simp only [Act.put,zpA,zpB,zpC]
    refine E_tk (i:=2) (some 91) (v:=?_) rfl rfl (by kernel_rfl) hHeld (fun w hSw=>?_) ?_;rotate_left 1
    ·(try dsimp only at hSw);go_simp;try with_reducible rfl
    try simp only [Act.put,zpA,zpB,zpC]
    refine E_tk (i:=3) (some 92) (v:=?_) rfl rfl (by kernel_rfl) hHeld (fun w hSw=>?_) ?_;rotate_left 1
    ·(try dsimp only at hSw);go_simp;try with_reducible rfl
    try simp only [Act.put,zpA,zpB,zpC]
    refine E_tk (i:=4) (some 93) (v:=?_) rfl rfl (by kernel_rfl) hHeld (fun w hSw=>?_) ?_;rotate_left 1
    ·(try dsimp only at hSw);go_simp;try with_reducible rfl
    try simp only [Act.put,zpA,zpB,zpC]
    refine E_tk (i:=5) (some 94) (v:=?_) rfl rfl (by kernel_rfl) hHeld (fun w hSw=>?_) ?_;rotate_left 1
    ·(try dsimp only at hSw);go_simp;try with_reducible rfl
    try simp only [Act.put,zpA,zpB,zpC]
    refine E_tk (i:=7) (some 96) (v:=?_) rfl rfl (by kernel_rfl) hHeld (fun w hSw=>?_) ?_;rotate_left 1
    ·(try dsimp only at hSw);go_simp;try with_reducible rfl
    try simp only [Act.put,zpA,zpB,zpC]
    refine E_tw (i:=6) (k:=8) rfl rfl (by kernel_rfl) (by kernel_rfl) (by kernel_rfl) (fun K hK=>?_) (fun K hK=>?_)
    ·go_simp
     go_at_call 105
     refine (cO _ (Ext.refl wr).drew).mono ?_
     clear cO
     rintro e w2 ⟨v,rfl,ho2,x2⟩
     have X2:Ext wr w2:=(Ext.refl wr).drew.trans x2
     have HO2:=Lib.hid ho2
     have HX2:=Lib.hid X2
     clear ho2 x2
     replace hHeld:=HC12.out _ X2
     refine hK _ _ (fun _=>hHeld) ?_
     clear hK K
     try simp only [Act.put,zpA,zpB,zpC]
     refine E_on (i:=8) rfl (by kernel_rfl) (by kernel_rfl) (fun K hK=>?_)
     go_simp
     replace hHeld:=HC12.out _ (X2.alloc (.cells #[.int .i64 ((d.ords.length:Int)+1),.int .i64 q.acc,.slice nA q.names.length nc,.int .u64 (q.key:Int),.int .i64 q.life,.slice aA ns.length ac,.int .i64 1,.int .i64 0] 78))
     refine hK _ _ (fun _=>hHeld) ?_
     clear hK K
     try simp only [Act.put,zpA,zpB,zpC]
     refine E_on (i:=9) rfl (by kernel_rfl) (by kernel_rfl) (fun K hK=>?_)
     clear hHeld
     refine wp_append_any _ (.tmp 95) (.tmp 97) 41 rfl wr.heap.size 78 i2 (.agg #[.int .i64 0,.int .i64 0,.slice none 0 0,.int .u64 0,.int .i64 0,.slice none 0 0,.int .i64 0,.int .i64 0]) 8 96 Tryz.underlying41 hj1 hy0 hy1 hy2 rfl (by decide) v d.ords.length (ordV d.ords) rfl (HO2.out.alloc _) _ (some ⟨w2.heap.size,0,none⟩) 1 1 [.int .i64 ((d.ords.length:Int)+1),.int .i64 q.acc,.slice nA q.names.length nc,.int .u64 (q.key:Int),.int .i64 q.life,.slice aA ns.length ac,.int .i64 1,.int .i64 0] rfl (reads_newL w2 _ _) (by simp [Value.oneCell']) (by have:=HOL.out;simp only [maxLen];omega) (by have:=HOL.out;omega) (by have:=HX2.out.size;simp;omega) ?_
     intro v9 w9 hown9 hg9 _
     have X9:Ext wr w9:=ext_grown (HX2.out.alloc _) (HO2.out.alloc _) hg9
     have hH9:=HC12.out _ X9
     have f4:=(DoorB.ext HST3.out.door X9).frozen 4
     obtain ⟨A9,c9,rfl,z3,z4,z0,hbut9,hfin⟩:=(HST3.out.ext X9).fin HBW.out (by have:=HG6.out;have:=HS0.out;omega) H61.out HX1.out HW.out HL.out HQ.out HO1.out HN1.out (by have:=HS0.out;omega) HST3.out.but.size HFO2.out HLL.out HLW.out HNS.out HNL.out HLEN.out HOL.out hown9
     have Z3:=Lib.hid z3
     have Z4:=Lib.hid z4
     have Z0:=Lib.hid z0
     have HB9:=Lib.hid hbut9
     have HFI:=Lib.hid hfin
     have hHeld:=hH9
     clear z3 z4 z0 hbut9 hfin hown9 hg9 X9
     replace hHeld:=hH9
     refine hK _ _ (fun _=>hHeld) ?_
     clear hK K
     try simp only [Act.put,zpA,zpB,zpC]
     refine E_on (i:=10) rfl (by kernel_rfl) (by kernel_rfl) (fun K hK=>?_)
     go_simp
     refine hK _ _ (fun _=>hHeld) ?_
     clear hK K
     try simp only [Act.put,zpA,zpB,zpC]
     refine E_on (i:=11) rfl (by kernel_rfl) (by kernel_rfl) (fun K hK=>?_)
     go_simp
     refine hK _ _ (fun _=>hHeld) ?_
     clear hK K
     try simp only [Act.put,zpA,zpB,zpC]
     refine E_on (i:=12) rfl (by kernel_rfl) (by kernel_rfl) (fun K hK=>?_)
     go_simp
     refine hK _ _ (fun _=>hHeld) ?_
     clear hK K
     try simp only [Act.put,zpA,zpB,zpC]
     refine E_on (i:=13) rfl (by kernel_rfl) (by kernel_rfl) (fun K hK=>?_)
     go_simp
     refine hK _ _ (fun h=>absurd rfl h) ?_
     clear hK K
     try simp only [Act.put,zpA,zpB,zpC]
     refine E_done (by kernel_rfl) ?_
     clear hHeld f4 hH9
     obtain ⟨W9,hW9⟩:∃ W,W=w9.setCell ⟨b,4,none⟩ (.slice A9 (d.ords.length+1) c9):=⟨_,rfl⟩
     rw [← hW9] at Z3 Z4 Z0 HB9 HFI ⊢
     clear hW9
     have z3:=Z3.out
     have z4:=Z4.out
     have z0:=Z0.out
     have zp:=(HB9.out.blk HBP1.out (by have:=HBW.out;omega) (by have:=HG6.out;have:=HS0.out;omega)).cell 0
     have d1:decide ((256:Int)<(L.length:Int))=false:=decide_eq_false (by have:=HLN.out;omega)
     have d2:decide ((128:Int)<(d.ords.length:Int)+1)=false:=decide_eq_false (by have:=HOL.out;omega)
     clear X2
     go_wp2
     go_ret2
     exact HFI.out
    ·go_simp
     replace hHeld:=HC12.out _ ((Ext.refl wr).drew.alloc (.cells #[.int .i64 ((d.ords.length:Int)+1),.int .i64 q.acc,.slice nA q.names.length nc,.int .u64 (q.key:Int),.int .i64 q.life,.slice aA ns.length ac,.int .i64 1,.int .i64 0] 78))
     refine hK _ _ (fun _=>hHeld) ?_
     clear hK K
     try simp only [Act.put,zpA,zpB,zpC]
     refine E_on (i:=6) rfl (by kernel_rfl) (by kernel_rfl) (fun K hK=>?_)
     go_simp
     go_at_call 105
     refine (cO _ ((Ext.refl wr).drew.alloc (.cells #[.int .i64 ((d.ords.length:Int)+1),.int .i64 q.acc,.slice nA q.names.length nc,.int .u64 (q.key:Int),.int .i64 q.life,.slice aA ns.length ac,.int .i64 1,.int .i64 0] 78))).mono ?_
     clear cO
     rintro e w2 ⟨v,rfl,ho2,x2⟩
     have X2:Ext wr w2:=((Ext.refl wr).drew.alloc _).trans x2
     have HO2:=Lib.hid ho2
     have HX2:=Lib.hid X2
     have HY2:=Lib.hid x2
     clear ho2 x2
     replace hHeld:=HC12.out _ X2
     refine hK _ _ (fun _=>hHeld) ?_
     clear hK K
     try simp only [Act.put,zpA,zpB,zpC]
     refine E_on (i:=9) rfl (by kernel_rfl) (by kernel_rfl) (fun K hK=>?_)
     clear hHeld
     refine wp_append_any _ (.tmp 95) (.tmp 97) 41 rfl wr.heap.size 78 i2 (.agg #[.int .i64 0,.int .i64 0,.slice none 0 0,.int .u64 0,.int .i64 0,.slice none 0 0,.int .i64 0,.int .i64 0]) 8 96 Tryz.underlying41 hj1 hy0 hy1 hy2 rfl (by decide) v d.ords.length (ordV d.ords) rfl HO2.out _ (some ⟨wr.heap.size,0,none⟩) 1 1 [.int .i64 ((d.ords.length:Int)+1),.int .i64 q.acc,.slice nA q.names.length nc,.int .u64 (q.key:Int),.int .i64 q.life,.slice aA ns.length ac,.int .i64 1,.int .i64 0] rfl (((reads_newL wr.drew _ _).below HY2.out.out).more HY2.out.size) (by simp [Value.oneCell']) (by have:=HOL.out;simp only [maxLen];omega) (by have:=HOL.out;omega) (by have:=HX2.out.size;simp;omega) ?_
     intro v9 w9 hown9 hg9 _
     have X9:Ext wr w9:=ext_grown HX2.out HO2.out hg9
     have hH9:=HC12.out _ X9
     have f4:=(DoorB.ext HST3.out.door X9).frozen 4
     obtain ⟨A9,c9,rfl,z3,z4,z0,hbut9,hfin⟩:=(HST3.out.ext X9).fin HBW.out (by have:=HG6.out;have:=HS0.out;omega) H61.out HX1.out HW.out HL.out HQ.out HO1.out HN1.out (by have:=HS0.out;omega) HST3.out.but.size HFO2.out HLL.out HLW.out HNS.out HNL.out HLEN.out HOL.out hown9
     have Z3:=Lib.hid z3
     have Z4:=Lib.hid z4
     have Z0:=Lib.hid z0
     have HB9:=Lib.hid hbut9
     have HFI:=Lib.hid hfin
     have hHeld:=hH9
     clear z3 z4 z0 hbut9 hfin hown9 hg9 X9
     replace hHeld:=hH9
     refine hK _ _ (fun _=>hHeld) ?_
     clear hK K
     try simp only [Act.put,zpA,zpB,zpC]
     refine E_on (i:=10) rfl (by kernel_rfl) (by kernel_rfl) (fun K hK=>?_)
     go_simp
     refine hK _ _ (fun _=>hHeld) ?_
     clear hK K
     try simp only [Act.put,zpA,zpB,zpC]
     refine E_on (i:=11) rfl (by kernel_rfl) (by kernel_rfl) (fun K hK=>?_)
     go_simp
     refine hK _ _ (fun _=>hHeld) ?_
     clear hK K
     try simp only [Act.put,zpA,zpB,zpC]
     refine E_on (i:=12) rfl (by kernel_rfl) (by kernel_rfl) (fun K hK=>?_)
     go_simp
     refine hK _ _ (fun _=>hHeld) ?_
     clear hK K
     try simp only [Act.put,zpA,zpB,zpC]
     refine E_on (i:=13) rfl (by kernel_rfl) (by kernel_rfl) (fun K hK=>?_)
     go_simp
     refine hK _ _ (fun h=>absurd rfl h) ?_
     clear hK K
     try simp only [Act.put,zpA,zpB,zpC]
     refine E_done (by kernel_rfl) ?_
     clear hHeld f4 hH9
     obtain ⟨W9,hW9⟩:∃ W,W=w9.setCell ⟨b,4,none⟩ (.slice A9 (d.ords.length+1) c9):=⟨_,rfl⟩
     rw [← hW9] at Z3 Z4 Z0 HB9 HFI ⊢
     clear hW9
     have z3:=Z3.out
     have z4:=Z4.out
     have z0:=Z0.out
     have zp:=(HB9.out.blk HBP1.out (by have:=HBW.out;omega) (by have:=HG6.out;have:=HS0.out;omega)).cell 0
     have d1:decide ((256:Int)<(L.length:Int))=false:=decide_eq_false (by have:=HLN.out;omega)
     have d2:decide ((128:Int)<(d.ords.length:Int)+1)=false:=decide_eq_false (by have:=HOL.out;omega)
     clear X2
     go_wp2
     go_ret2
     exact HFI.out
structure ButV (g:Nat) (v:Value) (w w':World):Prop where
 os:w'.os=w.os
 tape:w'.tape=w.tape
 output:w'.output=w.output
 size:w.heap.size≤w'.heap.size
 block:∀ k,k<w.heap.size→k≠g→v.ownBlock≠some k→w'.heap[k]?=w.heap[k]?
def follows (v v':Value) (w:World):Prop:=v'.ownBlock=v.ownBlock∨∃ k,v'.ownBlock=some k∧w.heap.size≤k
section
variable {g:Nat} {v v1 v2:Value} {w w1 w2:World}
theorem ButV.refl (g:Nat) (v:Value) (w:World):ButV g v w w:=⟨rfl,rfl,rfl,Nat.le_refl _,fun _ _ _ _=>rfl⟩
theorem follows.refl (v:Value) (w:World):follows v v w:=.inl rfl
theorem follows.trans (h:follows v v1 w) (k:follows v1 v2 w1) (hs:w.heap.size≤w1.heap.size):follows v v2 w:=by
 rcases k with e|⟨k,e,hk⟩
 ·rcases h with e'|⟨k,e',hk⟩
  ·exact .inl (e.trans e')
  ·exact .inr ⟨k,e.trans e',hk⟩
 ·exact .inr ⟨k,e,by omega⟩
theorem ButV.ext (h:ButV g v w w1) (x:Ext w1 w2):ButV g v w w2:=⟨x.out.os.trans h.os,x.out.tape.trans h.tape,x.out.output.trans h.output,Nat.le_trans h.size x.size,fun k hk h1 h2=>(x.out.block k (Nat.lt_of_lt_of_le hk h.size)).trans (h.block k hk h1 h2)⟩
theorem ButV.set (h:ButV g v w w1) (i:Nat) (u:Value):ButV g v w (w1.setCell ⟨g,i,none⟩ u) :=
 ⟨h.os,h.tape,h.output,Nat.le_trans h.size (KeepsWalks.setCell w1 ⟨g,i,none⟩ u).size,fun k hk h1 h2=>(Below.heap_setCell w1 ⟨g,i,none⟩ u k h1).trans (h.block k hk h1 h2)⟩
theorem ButV.grown (h:ButV g v w w1) (hf:follows v v1 w) (x:w1.grownBy w2 v1.ownBlock):ButV g v w w2 :=
 ⟨x.os.trans h.os,x.tape.trans h.tape,x.output.trans h.output,Nat.le_trans h.size x.size,fun k hk h1 h2=>(x.block k (Nat.lt_of_lt_of_le hk h.size) (fun e=>by
  rcases hf with e'|⟨k',e',hk'⟩
  ·exact h2 (by rw [← e',e])
  ·rw [e'] at e;cases e;omega)).trans (h.block k hk h1 h2)⟩
theorem ButV.blk (h:ButV g v w w1) {k:Nat} {T:TypeId} {cs:Array Value} (hb:Blk w k T cs) (h1:k≠g) (h2:v.ownBlock≠some k):Blk w1 k T cs:=(h.block k hb.lt h1 h2).trans hb
theorem ButV.below (h:ButV g v w w1) {B:Nat} (hB:B≤w.heap.size) (hg:B≤g) (hv:∀ k,v.ownBlock=some k→B≤k):Below B w w1 :=
 ⟨h.os,h.tape,h.output,h.size,fun k hk=>h.block k (by omega) (by omega) (fun e=>by have:=hv k e;omega)⟩
end
def longPost (g B:Nat) (v:Value) (l:List Nat) (w:World) (e:Ending) (w':World):Prop :=
 e=.returned (.tuple #[])∧∃ v',Blk w' g 30 #[v']∧w'.ownsRow B 5 1 v' l.length (bv l)∧follows v v' w∧ButV g v w w'
theorem long_any (g B:Nat) (n:Nat) (v:Value) (l:List Nat) (w:World) (hg:Blk w g 30 #[v]) (ho:w.ownsRow B 5 1 v l.length (bv l)) (hB:B≤w.heap.size) (hl:l.length≤1099511627776) :
  Calls Tryz.prog 41 #[.int .u64 n,.pointer (some ⟨g,0,none⟩)] w (longPost g B v (l++be n 8) w):=by
 obtain ⟨i0,hi,hz0,hz1,hz2⟩:=info_parts Tryz.infoU8
 have HG:=Lib.hid hg
 have HO:=Lib.hid ho
 have HB:=Lib.hid hB
 have HL:=Lib.hid hl
 clear hg ho hB hl
 go_enter Tryz.func41,Tryz.ntmps41
 go_wp2
 go_loopg [3] 8 (fun m s3 wr=>∃ (j:Nat) (v':Value),j+m=8∧s3=.int .i64 ((56:Int)-8*j)∧Blk wr g 30 #[v']∧wr.ownsRow B 5 1 v' (l++beN n 8 j).length (bv (l++beN n 8 j))∧follows v v' w∧ButV g v w wr)
 case atStart=>exact ⟨0,v,rfl,int_congr (by omega),HG.out,by simpa [beN] using HO.out,follows.refl _ _,ButV.refl _ _ _⟩
 case round =>
  obtain ⟨j,v',hj,rfl,hg,ho,hf,hb⟩:=hrel
  by_cases h:j<8
  ·obtain ⟨i,hij⟩:∃ i:Nat,(56:Int)-8*j=i:=⟨56-8*j,by omega⟩
   rw [hij]
   have hi7:(i:Int)≤56:=by omega
   obtain ⟨q,hq⟩:∃ q,q=n / 2 ^ i:=⟨_,rfl⟩
   have k1:(n:Int) / 2 ^ i=(q:Int):=by rw [hq];simp
   obtain ⟨r,hr⟩:∃ r,r=q % 256:=⟨_,rfl⟩
   have k2:IntKind.u8.wrap (q:Int)=(r:Int):=by rw [IntKind.wrap_u8,hr];omega
   have hrb:r=n / 2 ^ (8*(8-1-j)) % 256:=by rw [hr,hq];congr 3;omega
   have hlen:(l++beN n 8 j).length≤1099511627784:=by have:=HL.out;rw [List.length_append,beN_length];omega
   obtain ⟨L,hLL⟩:∃ L,L=l++beN n 8 j:=⟨_,rfl⟩
   rw [← hLL] at ho hlen
   have HLL:=Lib.hid hLL
   have HR:=Lib.hid hrb
   have HJ:=Lib.hid hj
   have HI:=Lib.hid hij
   have HLN:=Lib.hid hlen
   have HG2:=Lib.hid hg
   have HO2:=Lib.hid ho
   have HF:=Lib.hid hf
   have HV:=Lib.hid hb
   have hS1:=fun (W:World) (x:Ext wr W)=>(ext_blk x hg).cell 0
   clear hLL hq hr hrb hj hij hlen hg ho hf hb
   go_upto_region 3 with (fail)
   refine E_start (n:=8) (ls:=#[false,false,false,false,false,false,false,false]) (fun w'=>w'.cell? ⟨g,0,none⟩=some v') 7 (by kernel_rfl) (by kernel_rfl) (by kernel_rfl) (hS1 _ (Ext.refl wr).drew) (fun hHeld=>?_)
   refine E_tk (i:=0) (some 8) (v:=?_) rfl rfl (by kernel_rfl) hHeld (fun w hSw=>?_) ?_;rotate_left 1
   ·(try dsimp only at hSw);go_simp;try with_reducible rfl
   try simp only [Act.put,zpA,zpB,zpC]
   refine E_tk (i:=1) (some 9) (v:=?_) rfl rfl (by kernel_rfl) hHeld (fun w hSw=>?_) ?_;rotate_left 1
   ·(try dsimp only at hSw);go_simp;try with_reducible rfl
   try simp only [Act.put,zpA,zpB,zpC]
   refine E_tk (i:=2) (some 10) (v:=?_) rfl rfl (by kernel_rfl) hHeld (fun w hSw=>?_) ?_;rotate_left 1
   ·(try dsimp only at hSw);go_simp;try with_reducible rfl
   try simp only [Act.put,zpA,zpB,zpC]
   refine E_tk (i:=3) (some 11) (v:=?_) rfl rfl (by kernel_rfl) hHeld (fun w hSw=>?_) ?_;rotate_left 1
   ·(try dsimp only at hSw);go_simp;try with_reducible rfl
   try simp only [Act.put,zpA,zpB,zpC]
   refine E_tk (i:=4) (some 12) (v:=?_) rfl rfl (by kernel_rfl) hHeld (fun w hSw=>?_) ?_;rotate_left 1
   ·(try dsimp only at hSw);go_simp;try with_reducible rfl
   try simp only [Act.put,zpA,zpB,zpC]
   refine E_on (i:=5) rfl (by kernel_rfl) (by kernel_rfl) (fun K hK=>?_)
   go_simp
   replace hHeld:=hS1 _ ((Ext.refl wr).drew.alloc (.cells #[.int .u8 (r:Int)] 5))
   refine hK _ _ (fun _=>hHeld) ?_
   clear hK K
   try simp only [Act.put,zpA,zpB,zpC]
   refine E_on (i:=6) rfl (by kernel_rfl) (by kernel_rfl) (fun K hK=>?_)
   clear hHeld
   refine wp_append_any _ (.tmp 8) (.tmp 13) 30 rfl B 5 i0 (.int .u8 0) 1 1 Tryz.underlying30 hi hz0 hz1 hz2 rfl (by decide) v' L.length (bv L) rfl ((HO2.out.drew).alloc _) _ (some ⟨wr.heap.size,0,none⟩) 1 1 [.int .u8 (r:Int)] rfl (reads_newL wr.drew _ _) (by simp [Value.oneCell']) (by have:=HLN.out;simp only [maxLen];omega) (by have:=HLN.out;omega) (by have:=HV.out.size;have:=HB.out;simp;omega) ?_
   intro v9 w9 hown9 hg9 hfo9
   obtain ⟨A9,c9,rfl,hc9,-⟩:=own_slice2 hown9
   have X9:Ext wr (wr.drew.alloc (.cells #[.int .u8 (r:Int)] 5)):=(Ext.refl wr).drew.alloc _
   have b9:=Blk.grown (ext_blk X9 HG2.out) hg9 (fun e=>own_blk_ne HO2.out HG2.out (by decide) e.symm)
   have hH9:=b9.cell 0
   have f9:=b9.frozen 0
   have HB9:=Lib.hid b9
   have HF9:Hid (follows v (.slice A9 (L.length+1) c9) w):=Lib.hid (HF.out.trans (w1:=wr) (hfo9.imp id (fun e=>⟨_,e,by simp⟩)) HV.out.size)
   have HV9:=Lib.hid ((HV.out.ext X9).grown HF.out hg9)
   have HO9:=Lib.hid hown9
   have hHeld:=hH9
   clear b9 hown9 hg9 hfo9 X9
   replace hHeld:=hH9
   refine hK _ _ (fun _=>hHeld) ?_
   clear hK K
   try simp only [Act.put,zpA,zpB,zpC]
   refine E_on (i:=7) rfl (by kernel_rfl) (by kernel_rfl) (fun K hK=>?_)
   go_simp
   refine hK _ _ (fun h=>absurd rfl h) ?_
   clear hK K
   try simp only [Act.put,zpA,zpB,zpC]
   refine E_done (by kernel_rfl) ?_
   clear hHeld f9 hH9 hS1
   have HJJ:=HJ.out
   have HII:=HI.out
   go_wp2
   go_roundg (gk-1)
   case measure=>omega
   case rel =>
    refine ⟨j+1,.slice A9 (L.length+1) c9,by omega,int_congr (by omega),HB9.out.set_ 0 _,?_,HF9.out,HV9.out.set 0 _⟩
    have e:l++beN n 8 (j+1)=L++[r]:=by rw [beN_succ,HLL.out,List.append_assoc,HR.out]
    rw [e,List.length_append,bv_append]
    exact own_setT HO9.out HB9.out (by decide) 0 _
  ·obtain rfl:j=8:=by omega
   have e:(56:Int)-8*(8:Nat)=-8:=by omega
   rw [e]
   have HO2:=Lib.hid ho
   have HG2:=Lib.hid hg
   have HV:=Lib.hid hb
   have HF:=Lib.hid hf
   clear ho hg hf hb hi hz0 hz1 hz2 hj
   go_wp2
   (try simp only [Exit.inBlock,Exit.then])
   refine bodyPost_end (results_none rfl _ _ _) rfl ?_
   exact ⟨rfl,v',HG2.out,HO2.out,HF.out,HV.out⟩
theorem be_big (n:Nat):be n 8=bigD 8 n:=by
 simp [be,beN,bigD,List.range_succ,Nat.div_div_eq_div_mul]
theorem namesB_append:∀ (a b:List ByteArray),namesB (a++b)=namesB a++namesB b
 | [],b=>rfl
 | s :: a,b=>by simp [namesB,namesB_append a b]
theorem fm_len8:∀ l:List Nat,(l.flatMap (bigD 8)).length=8*l.length
 | []=>rfl
 | a :: l=>by rw [List.flatMap_cons,List.length_append,fm_len8 l,bigD_length,List.length_cons];omega
theorem namesB_len:∀ {l:List ByteArray},(∀ s∈l,s.size≤64)→(namesB l).length≤72*l.length
 | [],_=>by simp [namesB]
 | s :: l,h=>by
  have:=namesB_len (l:=l) fun x hx=>h x (by simp [hx])
  have h0:=h s (by simp)
  have e1:(txN s).length=s.size:=strN_length s
  simp only [namesB,List.length_append,List.length_cons,eight_length,e1]
  omega
structure BSt (w W0:World) (l:List Nat) (wr:World):Prop where
 row:∃ v,Blk wr (w.heap.size+1) 30 #[v]∧wr.ownsRow (w.heap.size+2) 5 1 v l.length (bv l)
 below:Below (w.heap.size+1) W0 wr
theorem long_st (w W0:World) (l:List Nat) (n:Nat) (wr:World) (h0:w.heap.size+2≤W0.heap.size) (h:BSt w W0 l wr) (hl:l.length≤1099511627776) :
  Calls Tryz.prog 41 #[.int .u64 n,.pointer (some ⟨w.heap.size+1,0,none⟩)] wr fun e w'=>e=.returned (.tuple #[])∧BSt w W0 (l++bigD 8 n) w'∧∀ k T cs,Blk wr k T cs→5≠T→k≠w.heap.size+1→Blk w' k T cs:=by
 obtain ⟨⟨v,hb,ho⟩,hw⟩:=h
 refine (long_any (w.heap.size+1) (w.heap.size+2) n v l wr hb ho (by have:=hw.size;omega) hl).mono ?_
 rintro e w' ⟨rfl,v',b',o',hf,hv⟩
 rw [be_big] at o'
 refine ⟨rfl,⟨⟨v',b',o'⟩,hw.trans (hv.below (by have:=hw.size;omega) (Nat.le_refl _) (fun k hk=>by have:=own_out ho k hk;omega))⟩,fun k T cs hk hT hne=>hv.blk hk hne (own_blk_ne ho hk hT)⟩
theorem uv_at {W:World} {g:Nat} {T:TypeId} {l:List Nat} (h:Blk W g T (uv l).toArray) {j:Nat} {x:Nat} (hj:l[j]?=some x):W.cell? ⟨g,j,none⟩=some (.int .u64 (x:Int)):=by
 rw [h.cell j];simp [uv,hj]
theorem iv_cell {W:World} {g:Nat} {T:TypeId} {l:List Int} (h:Blk W g T (iv l).toArray) {j:Nat} {x:Int} (hj:l[j]?=some x):W.cell? ⟨g,j,none⟩=some (.int .i64 x):=by
 rw [h.cell j];simp [iv,hj]
def bytR (q:QueR):List Nat:=if byteE q=0 then byteL q else []
def bytPost (q:QueR) (w:World) (e:Ending) (w':World):Prop:=∃ v,e=.returned (.tuple #[v,.int .i64 ((byteE q:Nat):Int)])∧w'.ownsRow w.heap.size 5 1 v (bytR q).length (bv (bytR q))∧Ext w w'
theorem bytPost_no {q:QueR} {w w':World} (h:¬ (headP q∧∀ s∈q.names,s.size≤64)) (x:Ext w w'):bytPost q w (.returned (.tuple #[.slice none 0 0,.int .i64 1])) w':=by
 have h1:byteE q=1:=by unfold byteE;rw [if_neg h]
 have h2:bytR q=[]:=by unfold bytR;rw [h1];rfl
 exact ⟨.slice none 0 0,by rw [h1];rfl,by rw [h2];exact ⟨rfl,.inl ⟨rfl,rfl⟩⟩,x⟩
theorem bytes_head_no {q:QueR} (h:¬ (1≤q.kind∧q.kind≤5∧q.names.length≤8)):¬ (headP q∧∀ s∈q.names,s.size≤64):=fun k=>h ⟨k.1.1,k.1.2.1,k.1.2.2.1⟩
theorem BSt.ext {w W0:World} (x:Ext w W0) (h0:w.heap.size+2≤W0.heap.size) {l:List Nat} {wr:World} (h:BSt w W0 l wr):Ext w wr:=Ext.of (x.out.trans ⟨h.below.os,h.below.tape,h.below.output,h.below.size,fun k hk=>h.below.block k (by omega)⟩)
theorem oBytes_any (q:QueR) (A:Option Addr) (c:Nat) (w:World) (hq:QueW w w.heap.size q A c):Calls Tryz.prog 14 #[queV q A c] w (bytPost q w):=by
 unfold queV
 obtain ⟨W0,e0,bq,bb,x0,s0⟩:=startP w #[.int .i64 q.kind,.int .i64 q.acc,.int .i64 q.nonce,.int .u64 (q.key:Int),.slice A q.names.length c,.int .i64 q.life,.int .i64 q.id,.int .u64 (q.e:Int),.int .u64 (q.s:Int)] #[.slice none 0 0] 27 30
 have HQ:=Lib.hid hq
 have HX:=Lib.hid x0
 have HS0:=Lib.hid s0
 have HBQ:=Lib.hid bq
 have HBB:=Lib.hid bb
 have hnl:(q.names.length:Int)≤1099511627776:=by have:=hq.nl;omega
 obtain ⟨k0,k1,k2,k3,k4,k5,k6,k7,k8⟩:=arr9 bq
 have c0:=bb.cell 0
 have f0:=bb.frozen 0
 clear hq x0 s0 bq bb
 go_enter Tryz.func14,Tryz.ntmps14
 go_upto_region 2 with (fail)
 try rw [e0]
 clear e0
 by_cases h1:1≤q.kind∧q.kind≤5∧q.names.length≤8
 case neg =>
  have hno:=Lib.hid (bytes_head_no h1)
  have key:∀ (d1 d2 d3:Bool),decide (q.kind<1)=d1→decide (5<q.kind)=d2→decide ((8:Int)<(q.names.length:Int))=d3→(d1 || d2 || d3)=true:=by
   intro d1 d2 d3 e1 e2 e3
   subst e1 e2 e3
   simp
   omega
  cases e1:decide (q.kind<1) <;> cases e2:decide (5<q.kind) <;> cases e3:decide ((8:Int)<(q.names.length:Int))
  all_goals (try (have:=key _ _ _ e1 e2 e3;cases this;done))
  all_goals
   clear key h1
   go_wp2
   refine bodyPost_ret (v:=.tuple #[.slice none 0 0,.int .i64 1]) (by simp [results,Tryz.results14,go_sem,c0]) rfl (bytPost_no hno.out (HX.out.setCell (p:=⟨w.heap.size+1,0,none⟩) (Nat.le_succ _) _))
 have d1:decide (q.kind<1)=false:=decide_eq_false (by omega)
 have d2:decide (5<q.kind)=false:=decide_eq_false (by omega)
 have d3:decide ((8:Int)<(q.names.length:Int))=false:=decide_eq_false (by omega)
 have H1:=Lib.hid h1
 clear h1
 go_upto_region 4 with (fail)
 go_upto_if 5 with (fail)
 obtain ⟨W1,e1⟩:∃ W,W0.alloc (.cells #[.int .i64 q.acc,.int .i64 q.nonce,.int .i64 q.life,.int .i64 q.id] 3)=W:=⟨_,rfl⟩
 try rw [e1]
 have X1:Ext W0 W1:=by rw [← e1];exact (Ext.refl W0).alloc _
 have b4:Blk W1 W0.heap.size 3 (iv [q.acc,q.nonce,q.life,q.id]).toArray:=by rw [← e1];exact Blk.new _ _ _
 clear e1 k0 k1 k2 k3 k4 k5 k6 k7 k8 c0 f0 d1 d2 d3
 have HX1:=Lib.hid X1
 have HB4:=Lib.hid b4
 clear X1 b4
 go_loopg [3,36] 4 (fun g s3 s36 wr=>∃ j:Nat,j+g=4∧s3=.int .i64 0∧s36=.int .i64 j∧wr=W1∧∀ (i:Nat) (x:Int),i<j→[q.acc,q.nonce,q.life,q.id][i]?=some x→numP x)
 case atStart=>exact ⟨0,rfl,rfl,rfl,rfl,fun i x h=>by omega⟩
 case round =>
  obtain ⟨j,hj,rfl,rfl,hw,hok⟩:=hrel
  obtain rfl:W1=wr:=hw.symm
  by_cases hjl:j<4
  ·obtain ⟨x,hx⟩:∃ x,[q.acc,q.nonce,q.life,q.id][j]?=some x:=⟨_,List.getElem?_eq_getElem (by simpa using hjl)⟩
   have p1:=iv_cell HB4.out hx
   have hjb:(j:Int)<4:=by omega
   by_cases hn:numP x
   ·have HOK:Hid (∀ (i:Nat) (y:Int),i<j+1→[q.acc,q.nonce,q.life,q.id][i]?=some y→numP y):=Lib.hid fun i y hi hy=>by
     by_cases hij:i<j
     ·exact hok i y hij hy
     ·obtain rfl:i=j:=by omega
      rw [hx] at hy;cases hy;exact hn
    have cN:=onum_any x
    rw [show decide (numP x)=true from decide_eq_true hn] at cN
    have HJ:=Lib.hid hj
    clear hok hx hn hj
    go_wp2_with (go_at_call 42;refine (cN _).mono ?_;clear cN;rintro e w5 ⟨rfl,rfl⟩)
    have hj:=HJ.out
    go_roundg (gk-1)
    case measure=>omega
    case rel=>exact ⟨j+1,by omega,rfl,int_congr (by omega),rfl,HOK.out⟩
   ·have hno:Hid (¬ (headP q∧∀ s∈q.names,s.size≤64)):=Lib.hid fun h=>hn (by
     obtain ⟨⟨_,_,_,h1,h2,h3,h4⟩,_⟩:=h
     match j,hx with
     | 0,e=>simp at e;exact e ▸ h1
     | 1,e=>simp at e;exact e ▸ h2
     | 2,e=>simp at e;exact e ▸ h3
     | 3,e=>simp at e;exact e ▸ h4)
    have cN:=onum_any x
    rw [show decide (numP x)=false from decide_eq_false hn] at cN
    have bb:=ext_blk HX1.out HBB.out
    have c0:=bb.cell 0
    have f0:=bb.frozen 0
    clear hok hx hn hj bb
    go_wp2_with (go_at_call 42;refine (cN _).mono ?_;clear cN;rintro e w5 ⟨rfl,rfl⟩)
    refine bodyPost_ret (v:=.tuple #[.slice none 0 0,.int .i64 1]) (by simp [results,Tryz.results14,go_sem,c0]) rfl (bytPost_no hno.out ((HX.out.trans HX1.out).setCell (p:=⟨w.heap.size+1,0,none⟩) (Nat.le_succ _) _))
  ·obtain rfl:j=4:=by omega
   have hh:headP q:=⟨H1.out.1,H1.out.2.1,H1.out.2.2,hok 0 _ (by omega) rfl,hok 1 _ (by omega) rfl,hok 2 _ (by omega) rfl,hok 3 _ (by omega) rfl⟩
   clear hok hj hjl
   obtain ⟨z1,z2,z3,z4,z5,z6,z7⟩:=id hh
   obtain ⟨nk,hk⟩:∃ k:Nat,q.kind=k:=⟨q.kind.toNat,by omega⟩
   obtain ⟨na,ha⟩:∃ k:Nat,q.acc=k:=⟨q.acc.toNat,by have:=z4.1;omega⟩
   obtain ⟨nn,hn⟩:∃ k:Nat,q.nonce=k:=⟨q.nonce.toNat,by have:=z5.1;omega⟩
   obtain ⟨nf,hf⟩:∃ k:Nat,q.life=k:=⟨q.life.toNat,by have:=z6.1;omega⟩
   obtain ⟨ni,hi⟩:∃ k:Nat,q.id=k:=⟨q.id.toNat,by have:=z7.1;omega⟩
   have w1:IntKind.u64.wrap (nk:Int)=(nk:Int):=by rw [IntKind.wrap_u64];omega
   have w2:IntKind.u64.wrap (na:Int)=(na:Int):=by rw [IntKind.wrap_u64];have:=z4.2;omega
   have w3:IntKind.u64.wrap (nn:Int)=(nn:Int):=by rw [IntKind.wrap_u64];have:=z5.2;omega
   have w4:IntKind.u64.wrap (nf:Int)=(nf:Int):=by rw [IntKind.wrap_u64];have:=z6.2;omega
   have w5:IntKind.u64.wrap (ni:Int)=(ni:Int):=by rw [IntKind.wrap_u64];have:=z7.2;omega
   have w6:IntKind.u64.wrap (q.names.length:Int)=(q.names.length:Int):=by rw [IntKind.wrap_u64];omega
   have bq:=ext_blk HX1.out HBQ.out
   obtain ⟨k0,k1,k2,k3,k4,k5,k6,k7,k8⟩:=arr9 bq
   rw [hk] at k0
   rw [ha] at k1
   rw [hn] at k2
   rw [hf] at k5
   rw [hi] at k6
   have HK:=Lib.hid (And.intro hk (And.intro ha (And.intro hn (And.intro hf hi))))
   have HH:=Lib.hid hh
   clear hh z1 z2 z3 z4 z5 z6 z7 hk ha hn hf hi bq
   go_upto_region 11 with (fail)
   obtain ⟨uvl,huvl⟩:∃ l,l=[nk,na,nn,q.key,nf,ni,q.names.length]:=⟨_,rfl⟩
   have hul:uvl.length=7:=by rw [huvl];rfl
   obtain ⟨W2,e2⟩:∃ W,W1.alloc (.cells #[.int .u64 (nk:Int),.int .u64 (na:Int),.int .u64 (nn:Int),.int .u64 (q.key:Int),.int .u64 (nf:Int),.int .u64 (ni:Int),.int .u64 (q.names.length:Int)] 22)=W:=⟨_,rfl⟩
   try rw [e2]
   have X2:Ext W1 W2:=by rw [← e2];exact (Ext.refl W1).alloc _
   have b7:Blk W2 W1.heap.size 22 (uv uvl).toArray:=by rw [← e2,huvl];exact Blk.new _ _ _
   have HX2:=Lib.hid (HX1.out.trans X2)
   have HB7:=Lib.hid b7
   have HUV:=Lib.hid huvl
   have HUL:=Lib.hid hul
   have HB2:Hid (BSt w W0 [] W2):=Lib.hid ⟨⟨_,ext_blk HX2.out HBB.out,⟨rfl,.inl ⟨rfl,rfl⟩⟩⟩,HX2.out.out.mono (by have:=HS0.out;omega)⟩
   clear e2 X2 b7 huvl hul k0 k1 k2 k3 k4 k5 k6 k7 k8 w1 w2 w3 w4 w5 w6
   go_loopg [67] 7 (fun g s67 wr=>∃ j:Nat,j+g=7∧s67=.int .i64 j∧BSt w W0 ((uvl.take j).flatMap (bigD 8)) wr∧Blk wr W1.heap.size 22 (uv uvl).toArray∧Blk wr w.heap.size 27 #[.int .i64 q.kind,.int .i64 q.acc,.int .i64 q.nonce,.int .u64 (q.key:Int),.slice A q.names.length c,.int .i64 q.life,.int .i64 q.id,.int .u64 (q.e:Int),.int .u64 (q.s:Int)])
   case atStart=>exact ⟨0,rfl,rfl,HB2.out,HB7.out,ext_blk HX2.out HBQ.out⟩
   case round =>
    obtain ⟨j,hj,rfl,hst,hb7,hbq⟩:=hrel
    by_cases hjl:j<7
    ·obtain ⟨x,hx⟩:∃ x,uvl[j]?=some x:=⟨_,List.getElem?_eq_getElem (by have:=HUL.out;omega)⟩
     have p1:=uv_at hb7 hx
     have hjb:(j:Int)<7:=by omega
     have hfl:((uvl.take j).flatMap (bigD 8)).length≤1099511627776:=by
      rw [fm_len8,List.length_take];omega
     have cL:=long_st w W0 ((uvl.take j).flatMap (bigD 8)) x wr (by have:=HS0.out;omega) hst hfl
     have HE:Hid ((uvl.take (j+1)).flatMap (bigD 8)=(uvl.take j).flatMap (bigD 8)++bigD 8 x):=Lib.hid (by rw [tk_snoc hx,List.flatMap_append];simp)
     have HJ:=Lib.hid hj
     have H7:=Lib.hid hb7
     have HQ7:=Lib.hid hbq
     have hne:Hid (W1.heap.size≠w.heap.size+1):=Lib.hid (by have:=HS0.out;have:=HX1.out.size;omega)
     clear hx hj hst hb7 hbq hfl
     go_wp2_with (go_at_call 41;refine cL.mono ?_;clear cL;rintro e w5 ⟨rfl,hst5,hk5⟩)
     have hj:=HJ.out
     go_roundg (gk-1)
     case measure=>omega
     case rel=>exact ⟨j+1,by omega,int_congr (by omega),by rw [HE.out];exact hst5,hk5 _ _ _ H7.out (by decide) hne.out,hk5 _ _ _ HQ7.out (by decide) (by omega)⟩
    ·obtain rfl:j=7:=by omega
     have hst2:BSt w W0 (uvl.flatMap (bigD 8)) wr:=by rw [List.take_of_length_le (by have:=HUL.out;omega)] at hst;exact hst
     have hpre:uvl.flatMap (bigD 8)++namesB q.names=byteL q:=by
      obtain ⟨e1,e2,e3,e4,e5⟩:=HK.out
      unfold byteL eightI
      rw [HUV.out,e1,e2,e3,e4,e5]
      simp
     have hpl:(uvl.flatMap (bigD 8)).length=56:=by rw [HUV.out];simp [bigD_length]
     obtain ⟨P,hP⟩:∃ P,P=uvl.flatMap (bigD 8):=⟨_,rfl⟩
     rw [← hP] at hst2 hpre hpl
     have HPR:=Lib.hid hpre
     have HPL:=Lib.hid hpl
     have HST:=Lib.hid hst2
     have bq9:=hbq.cell 4
     clear hst hst2 hb7 hbq hj hjl hP hpre hpl
     go_upto_region 16 with (fail)
     go_loopg [3,78] q.names.length (fun g s3 s78 wr=>∃ j:Nat,j+g=q.names.length∧s3=.int .i64 0∧s78=.int .i64 j∧BSt w W0 (P++namesB (q.names.take j)) wr∧∀ s∈q.names.take j,s.size≤64)
     case atStart=>exact ⟨0,by omega,rfl,rfl,by simpa [namesB] using HST.out,by simp⟩
     case round =>
      obtain ⟨j,hj,rfl,rfl,hst,hok⟩:=hrel
      have hxw:=hst.ext HX.out (by have:=HS0.out;omega)
      have hjb:(j:Int)≤1099511627776:=by have:=HQ.out.nl;omega
      by_cases hjl:j<q.names.length
      ·obtain ⟨s,hs⟩:∃ s,q.names[j]?=some s:=⟨_,List.getElem?_eq_getElem hjl⟩
       obtain ⟨ad,hA,p1⟩:=reads_text (HQ.out.ext hxw).names hs
       subst hA
       by_cases h64:s.size≤64
       ·have hlB:(P++namesB (q.names.take j)).length≤1000:=by
         have:=namesB_len hok
         rw [List.length_append,HPL.out]
         rw [List.length_take] at this
         have:=H1.out.2.2
         omega
        have cL:=long_st w W0 (P++namesB (q.names.take j)) s.size wr (by have:=HS0.out;omega) hst (by omega)
        have d1:decide ((64:Int)<(s.size:Int))=false:=decide_eq_false (by omega)
        have w1:IntKind.u64.wrap (s.size:Int)=(s.size:Int):=by rw [IntKind.wrap_u64];omega
        have HE:Hid (P++namesB (q.names.take (j+1))=(P++namesB (q.names.take j)++bigD 8 s.size)++txN s):=Lib.hid (by
         rw [tk_snoc hs,namesB_append]
         simp [namesB,eightI])
        have HOK:Hid (∀ x∈q.names.take (j+1),x.size≤64):=Lib.hid (by
         rw [tk_snoc hs]
         intro x hx
         rcases List.mem_append.1 hx with hx|hx
         ·exact hok x hx
         ·rw [List.mem_singleton] at hx;subst hx;exact h64)
        obtain ⟨Q,hQ⟩:∃ Q,Q=P++namesB (q.names.take j)++bigD 8 s.size:=⟨_,rfl⟩
        rw [← hQ] at cL HE
        have hQl:Q.length≤1008:=by rw [hQ,List.length_append,bigD_length];omega
        have hQ0:0<Q.length:=by rw [hQ,List.length_append,bigD_length];omega
        have HQL:=Lib.hid hQl
        have HQ0:=Lib.hid hQ0
        have HJ:=Lib.hid hj
        have H64:=Lib.hid h64
        clear hs hj hst hok h64 hlB hQ hQl hQ0 hxw
        go_upto_region 21 with (go_at_call 41;refine cL.mono ?_;clear cL;rintro e w5 ⟨rfl,hst5,hk5⟩)
        obtain ⟨⟨v5,b5,o5⟩,hB5⟩:=id hst5
        have hv5:v5≠.slice none 0 0:=by
         obtain ⟨g,cap,e,_⟩:=o5.form HQ0.out
         rw [e]
         intro h
         cases h
        have c5:=b5.cell 0
        obtain ⟨i0,hi,hz0,hz1,hz2⟩:=info_parts Tryz.infoU8
        have HO5:=Lib.hid o5
        have HB5:=Lib.hid b5
        have HBL:=Lib.hid hB5
        clear hst5 hk5 o5 b5 hB5
        go_wp2_with (at_builtin;refine wpList_append_own_src _ rfl (.tmp 90) (.tmp 91) 30 9 rfl (w.heap.size+2) 5 i0 (.int .u8 0) 1 1 Tryz.underlying30 hi hz0 hz1 hz2 rfl v5 Q.length (bv Q) rfl HO5.out (.string s) s.size (byteCells s) rfl (Src.ofString _ Tryz.underlying9 s) (by have:=H64.out;have:=HQL.out;simp only [maxLen];omega) (by have:=H64.out;have:=HQL.out;omega) (by have:=HS0.out;have:=HBL.out.size;omega) hv5 ?_;intro v6 w6 hown6 hg6 _;obtain ⟨A6,c6,rfl,hc6,-⟩:=own_slice2 hown6;have b6:=Blk.grown HB5.out hg6 (fun e=>own_blk_ne HO5.out HB5.out (by decide) e.symm);have f6:=b6.frozen 0;have c6':=b6.cell 0;have HB6:=Lib.hid b6;have HO6:=Lib.hid hown6;have HBL6:=Lib.hid (HBL.out.grown hg6 (by have:=HS0.out;have:=HBL.out.size;omega) (fun k hk=>by have:=own_out HO5.out k hk;omega));clear b6 hown6 hg6)
        have hj:=HJ.out
        have hst9:Hid (BSt w W0 (P++namesB (q.names.take (j+1))) (w6.setCell ⟨w.heap.size+1,0,none⟩ (.slice A6 (Q.length+s.size) c6))):=Lib.hid (by
         rw [HE.out]
         have e1:(txN s).length=s.size:=strN_length s
         refine ⟨⟨_,HB6.out.set_ 0 _,?_⟩,HBL6.out.setCell (p:=⟨w.heap.size+1,0,none⟩) (Nat.le_refl _) _⟩
         rw [List.length_append,e1,bv_append]
         have:=own_setT HO6.out HB6.out (by decide) 0 (.slice A6 (Q.length+s.size) c6)
         rw [byteCells_strN] at this
         exact this)
        go_roundg (gk-1)
        case measure=>omega
        case rel=>exact ⟨j+1,by omega,rfl,int_congr (by omega),hst9.out,HOK.out⟩
       ·have hno:Hid (¬ (headP q∧∀ s∈q.names,s.size≤64)):=Lib.hid fun h=>h64 (h.2 s (List.mem_of_getElem? hs))
        have d1:decide ((64:Int)<(s.size:Int))=true:=decide_eq_true (by omega)
        obtain ⟨⟨v5,b5,o5⟩,hB5⟩:=hst
        have c0:=b5.cell 0
        have f0:=b5.frozen 0
        have HXW:=Lib.hid hxw
        have HB5:=Lib.hid b5
        clear hs hj hok h64 hxw b5 o5 hB5
        go_wp2
        have c9:=(HB5.out.set_ 0 (.slice none 0 0)).cell 0
        refine bodyPost_ret (v:=.tuple #[.slice none 0 0,.int .i64 1]) (by simp [results,Tryz.results14,go_sem,c9]) rfl (bytPost_no hno.out (HXW.out.setCell (p:=⟨w.heap.size+1,0,none⟩) (Nat.le_succ _) _))
      ·obtain rfl:j=q.names.length:=by omega
       rw [List.take_length] at hst hok
       rw [HPR.out] at hst
       have hbe:byteE q=0:=by unfold byteE;rw [if_pos ⟨HH.out,hok⟩]
       obtain ⟨⟨v5,b5,o5⟩,hB5⟩:=hst
       obtain ⟨A5,c5,rfl,hc5,-⟩:=own_slice2 o5
       have f0:=b5.frozen 0
       have c0:=b5.cell 0
       have HB5:=Lib.hid b5
       have HO5:=Lib.hid o5
       have HXW:=Lib.hid hxw
       have HBE:=Lib.hid hbe
       clear hok hj hjl hxw b5 o5 hB5 hbe
       go_wp2
       have c9:=(HB5.out.set_ 0 (.slice A5 (byteL q).length c5)).cell 0
       refine bodyPost_ret (v:=.tuple #[.slice A5 (byteL q).length c5,.int .i64 0]) (by simp [results,Tryz.results14,go_sem,c9]) rfl ⟨_,by rw [HBE.out];rfl,?_,HXW.out.setCell (p:=⟨w.heap.size+1,0,none⟩) (Nat.le_succ _) _⟩
       rw [show bytR q=byteL q by unfold bytR;rw [HBE.out];rfl]
       exact own_base (own_setT HO5.out HB5.out (by decide) 0 _) (by omega)
