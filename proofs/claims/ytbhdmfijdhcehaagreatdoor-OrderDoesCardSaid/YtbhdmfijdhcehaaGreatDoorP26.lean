/- Parts of the proofs, put together: OrR2, Or45, OrFew, OrFew2, OrFew3, OrH, OrT18. -/
import Derived.Test.YtbhdmfijdhcehaaGreatDoorP12
import Derived.Test.YtbhdmfijdhcehaaGreatDoorP22
import Derived.Test.YtbhdmfijdhcehaaGreatDoorP23
import Derived.Test.YtbhdmfijdhcehaaGreatDoorP24
import Derived.Test.YtbhdmfijdhcehaaGreatDoorP25
import Derived.Test.YtbhdmfijdhcehaaGreatDoorP27
import Derived.Test.YtbhdmfijdhcehaaGreatDoorP28
set_option maxRecDepth 100000
set_option maxHeartbeats 64000000
namespace Go.Proofs.YtbhdmfijdhcehaaGreatDoor
open Go.RowKit Go.Shelf Go.Maps
set_option linter.unusedSimpArgs false
set_option linter.unusedVariables false
theorem live_r2 {Q:Exit→Act→World→Prop} {c0 c2 c3 c4 c5 c6 c7 c8 c9 c10 c11 c12 c13 c14 c15 c16 c17 c18 c19 c20 c21 c22 c23 c24 c25 c26 c27 c28 c29 c30 c31 c32 c33 c34 c35 c36 c37 c38 c39 c40 c41 c42 c43 c44 c45 c46 c47 c48 c49 c50 c51 c52 c53 c54 c55 c56 c57 c58 c59 c60 c61 c62 c63 c64 c65 c66 c67 c68 c69 c70 c71 c72 c73 c74 c75 c76 c77 c78 c79 c80 c81 c82 c83 c84 c85 c86 c87 c88 c89 c90 c91 c92 c93 c94 c95 c96 c97 c98 c99 c100 c101 c102 c103 c104 c105 c106 c107 c108 c109 c110 c111 c112 c113 c114 c115 c116 c117 c118 c119 c120 c121 c122 c123 c124 c125 c126 c127 c128 c129 c130 c131 c132 c133 c134 c135 c136 c137 c138 c139 c140 c141 c142 c143 c144 c145 c146 c147 c148 c149 c150 c151 c152 c153 c154 c155 c156 c157 c158 c159 c160 c161 c162 c163 c164 c165 c166 c167 c168 c169 c170 c171 c172 c173 c174 c175 c176 c177 c178 c179 c180 c181 c182 c183 c184 c185 c186 c187 c188 c189 c190 c191 c192 c193 c194 c195 c196 c197 c198 c199 c200 c201:Value} {w W1:World} {b k1:Nat} {f1:FroR} {s1:QueR} (H:Hid (LvD w W1 b doorZ froZ)) (cK:∀ W,Calls Tryz.prog 39 #[.int .u8 1] W fun e w'=>e=.returned (.int .u64 (k1:Int))∧Ext W w') (cA:∀ W,Ext W1 W→Calls Tryz.prog 40 #[.agg #[.int .i64 0,.slice none 0 0,.slice none 0 0,.slice none 0 0,.slice none 0 0,.int .i64 0],.agg #[.int .i64 1,.int .i64 0,.int .i64 0,.int .u64 (k1:Int),.slice none 0 0,.int .i64 0,.int .i64 0,.int .u64 0,.int .u64 0],.int .u8 1,.int .i64 3] W (ansP doorZ none 0 f1 s1 1 0 W)) (HN1:Hid (s1.names=[]))
  (hQ:∀ (d:DoorX) (b2:Nat) (W':World) (v33 v34 v35 v36 v37 v38 v39 v40 v41:Value),LvD w W' b d f1→Blk W' b2 27 #[.int .i64 s1.kind,.int .i64 s1.acc,.int .i64 s1.nonce,.int .u64 (s1.key:Int),.slice none s1.names.length 0,.int .i64 s1.life,.int .i64 s1.id,.int .u64 (s1.e:Int),.int .u64 (s1.s:Int)]→QueW W' W'.heap.size s1 none 0→Q .normal ⟨#[c0,.pointer (some ⟨b,0,none⟩),.pointer (some ⟨b2,0,none⟩),.int .i64 1,.int .i64 0,c5,c6,c7,c8,c9,c10,c11,c12,c13,c14,c15,c16,c17,c18,c19,c20,c21,c22,c23,c24,c25,c26,c27,c28,c29,c30,c31,c32,v33,v34,v35,v36,v37,v38,v39,v40,v41,c42,c43,c44,c45,c46,c47,c48,c49,c50,c51,c52,c53,c54,c55,c56,c57,c58,c59,c60,c61,c62,c63,c64,c65,c66,c67,c68,c69,c70,c71,c72,c73,c74,c75,c76,c77,c78,c79,c80,c81,c82,c83,c84,c85,c86,c87,c88,c89,c90,c91,c92,c93,c94,c95,c96,c97,c98,c99,c100,c101,c102,c103,c104,c105,c106,c107,c108,c109,c110,c111,c112,c113,c114,c115,c116,c117,c118,c119,c120,c121,c122,c123,c124,c125,c126,c127,c128,c129,c130,c131,c132,c133,c134,c135,c136,c137,c138,c139,c140,c141,c142,c143,c144,c145,c146,c147,c148,c149,c150,c151,c152,c153,c154,c155,c156,c157,c158,c159,c160,c161,c162,c163,c164,c165,c166,c167,c168,c169,c170,c171,c172,c173,c174,c175,c176,c177,c178,c179,c180,c181,c182,c183,c184,c185,c186,c187,c188,c189,c190,c191,c192,c193,c194,c195,c196,c197,c198,c199,c200,c201],[]⟩ W') :
  Code.wp Tryz.prog liveR2 Q ⟨#[c0,.pointer (some ⟨b,0,none⟩),c2,c3,c4,c5,c6,c7,c8,c9,c10,c11,c12,c13,c14,c15,c16,c17,c18,c19,c20,c21,c22,c23,c24,c25,c26,c27,c28,c29,c30,c31,c32,c33,c34,c35,c36,c37,c38,c39,c40,c41,c42,c43,c44,c45,c46,c47,c48,c49,c50,c51,c52,c53,c54,c55,c56,c57,c58,c59,c60,c61,c62,c63,c64,c65,c66,c67,c68,c69,c70,c71,c72,c73,c74,c75,c76,c77,c78,c79,c80,c81,c82,c83,c84,c85,c86,c87,c88,c89,c90,c91,c92,c93,c94,c95,c96,c97,c98,c99,c100,c101,c102,c103,c104,c105,c106,c107,c108,c109,c110,c111,c112,c113,c114,c115,c116,c117,c118,c119,c120,c121,c122,c123,c124,c125,c126,c127,c128,c129,c130,c131,c132,c133,c134,c135,c136,c137,c138,c139,c140,c141,c142,c143,c144,c145,c146,c147,c148,c149,c150,c151,c152,c153,c154,c155,c156,c157,c158,c159,c160,c161,c162,c163,c164,c165,c166,c167,c168,c169,c170,c171,c172,c173,c174,c175,c176,c177,c178,c179,c180,c181,c182,c183,c184,c185,c186,c187,c188,c189,c190,c191,c192,c193,c194,c195,c196,c197,c198,c199,c200,c201],[]⟩ W1:=by
 conv=>arg 2;whnf
 have HC:Hid (∀ W,Ext W1 W→(W.cell? ⟨b,0,none⟩=some (.int .i64 0)∧W.cell? ⟨b,1,none⟩=some (.slice none 0 0)∧W.cell? ⟨b,2,none⟩=some (.slice none 0 0)∧W.cell? ⟨b,3,none⟩=some (.slice none 0 0)∧W.cell? ⟨b,4,none⟩=some (.slice none 0 0)∧W.cell? ⟨b,5,none⟩=some (.int .i64 0))):=Lib.hid fun W x=>arr6f (ext_blk x H.out.box)
 refine F_start (n:=14) (ls:=#[false,false,false,false,false,false,false,false,false,false,false,false,false,false]) (fun w'=>w'.cell? ⟨b,0,none⟩=some (.int .i64 0)∧w'.cell? ⟨b,1,none⟩=some (.slice none 0 0)∧w'.cell? ⟨b,2,none⟩=some (.slice none 0 0)∧w'.cell? ⟨b,3,none⟩=some (.slice none 0 0)∧w'.cell? ⟨b,4,none⟩=some (.slice none 0 0)∧w'.cell? ⟨b,5,none⟩=some (.int .i64 0)) 10 (by kernel_rfl) (by kernel_rfl) (by kernel_rfl) (HC.out _ (Ext.refl W1).drew) (fun hHeld=>?_)
 refine F_take (i:=0) (some 34) (ls':=#[true,false,false,false,false,false,false,false,false,false,false,false,false,false]) rfl rfl (by kernel_rfl) (by kernel_rfl) (by kernel_rfl) (by kernel_rfl) (by kernel_rfl) (by rfl) (v:=?_) ?_ hHeld ?_
 rotate_left 1
 ·intro w hSw;(try dsimp only at hSw);go_simp;try with_reducible rfl
 try simp only [Act.put,zpA,zpB,zpC]
 refine F_some (is:=[1,9]) (by kernel_rfl) (by simp) (fun i hi=>?_)
 simp only [List.mem_cons,List.not_mem_nil,or_false] at hi
 rcases hi with rfl|rfl
 ·refine F_wy (S:=frontS b doorZ) (L:=10) rfl (by kernel_rfl) (fun K hK=>?_)
  go_simp
  go_at_call 39
  refine (cK _).mono ?_
  rintro e w2 ⟨rfl,x2⟩
  have X2:Ext W1 w2:=Ext.trans (by with_reducible (repeat (first|assumption|exact Ext.refl _|refine Ext.drew ?_|refine Ext.alloc ?_ _))) x2
  have hs2:W1.heap.size+0≤w2.heap.size:=by have hs:(W1).heap.size=W1.heap.size+0:=(by simp);have h:=x2.size;have h':(W1).heap.size≤w2.heap.size:=h;omega
  replace hHeld:=HC.out _ X2
  refine hK _ _ (fun _ _=>hHeld) ?_
  clear hK K
  try simp only [Act.put,zpA,zpB,zpC]
  refine F_pr (i:=2) (some 36) (v:=?_) rfl rfl (by kernel_rfl) (fun w=>?_) ?_;rotate_left 1
  ·go_simp;try with_reducible rfl
  try simp only [Act.put,zpA,zpB,zpC]
  refine F_some (is:=[3,9]) (by kernel_rfl) (by simp) (fun i hi=>?_)
  simp only [List.mem_cons,List.not_mem_nil,or_false] at hi
  rcases hi with rfl|rfl
  ·refine F_wy (S:=frontS b doorZ) (L:=10) rfl (by kernel_rfl) (fun K hK=>?_)
   go_simp
   go_at_call 40
   refine (cA (w2) (by with_reducible (repeat (first|assumption|exact Ext.refl _|refine Ext.drew ?_|refine Ext.alloc ?_ _)))).mono ?_
   rintro e w3 ⟨dd,rfl,hfd,hwd,hld,hqd,x3⟩
   have X3:Ext W1 w3:=Ext.trans (by with_reducible (repeat (first|assumption|exact Ext.refl _|refine Ext.drew ?_|refine Ext.alloc ?_ _))) x3
   have hxw:Ext W1 w2:=(by with_reducible (repeat (first|assumption|exact Ext.refl _|refine Ext.drew ?_|refine Ext.alloc ?_ _)))
   replace hHeld:=HC.out _ X3
   refine hK _ _ (fun _ _=>hHeld) ?_
   clear hK K
   try simp only [Act.put,zpA,zpB,zpC]
   refine F_pr (i:=4) (some 33) (v:=?_) rfl rfl (by kernel_rfl) (fun w=>?_) ?_;rotate_left 1
   ·go_simp;try with_reducible rfl
   try simp only [Act.put,zpA,zpB,zpC]
   refine F_pr (i:=5) (some 38) (v:=?_) rfl rfl (by kernel_rfl) (fun w=>?_) ?_;rotate_left 1
   ·go_simp;try with_reducible rfl
   try simp only [Act.put,zpA,zpB,zpC]
   refine F_pr (i:=6) (some 39) (v:=?_) rfl rfl (by kernel_rfl) (fun w=>?_) ?_;rotate_left 1
   ·go_simp;try with_reducible rfl
   try simp only [Act.put,zpA,zpB,zpC]
   refine F_pr (i:=7) (some 40) (v:=?_) rfl rfl (by kernel_rfl) (fun w=>?_) ?_;rotate_left 1
   ·go_simp;try with_reducible rfl
   try simp only [Act.put,zpA,zpB,zpC]
   refine F_pr (i:=8) (some 41) (v:=?_) rfl rfl (by kernel_rfl) (fun w=>?_) ?_;rotate_left 1
   ·go_simp;try with_reducible rfl
   try simp only [Act.put,zpA,zpB,zpC]
   refine F_some (is:=[9]) (by kernel_rfl) (by simp) (fun i hi=>?_)
   obtain rfl:i=9:=by simpa using hi
   refine F_wy (S:=frontS b doorZ) (L:=10) rfl (by kernel_rfl) (fun K hK=>?_)
   go_simp
   replace hHeld:=HC.out ((w3.alloc (.cells #[.int .i64 0,.int .i64 0,.int .i64 0,.int .u64 0,.slice none 0 0,.int .i64 0,.int .i64 0,.int .u64 0,.int .u64 0] 27))) (by with_reducible (repeat (first|assumption|exact Ext.refl _|refine Ext.drew ?_|refine Ext.alloc ?_ _)))
   refine hK _ _ (fun _ _=>hHeld) ?_
   clear hK K
   try simp only [Act.put,zpA,zpB,zpC]
   refine F_some (is:=[10]) (by kernel_rfl) (by simp) (fun i hi=>?_)
   obtain rfl:i=10:=by simpa using hi
   refine F_wy (S:=frontS b doorZ) (L:=10) rfl (by kernel_rfl) (fun K hK=>?_)
   have k6:Blk (w3.alloc (.cells #[.int .i64 0,.int .i64 0,.int .i64 0,.int .u64 0,.slice none 0 0,.int .i64 0,.int .i64 0,.int .u64 0,.int .u64 0] 27)) b 43 #[.int .i64 0,.slice none 0 0,.slice none 0 0,.slice none 0 0,.slice none 0 0,.int .i64 0]:=ext_blk (by with_reducible (repeat (first|assumption|exact Ext.refl _|refine Ext.drew ?_|refine Ext.alloc ?_ _))) H.out.box
   obtain ⟨v0,v1,v2,v3,v4,v5,f0,f1_,f2_,f3_,f4_,f5_⟩:=st6 k6
   go_simp
   refine hK _ _ (fun h _=>absurd h (by decide)) ?_
   clear hK K
   try simp only [Act.put,zpA,zpB,zpC]
   refine F_some (is:=[11]) (by kernel_rfl) (by simp) (fun i hi=>?_)
   obtain rfl:i=11:=by simpa using hi
   refine F_wy (S:=frontS b doorZ) (L:=10) rfl (by kernel_rfl) (fun K hK=>?_)
   have k2:Blk (w3.alloc (.cells #[.int .i64 0,.int .i64 0,.int .i64 0,.int .u64 0,.slice none 0 0,.int .i64 0,.int .i64 0,.int .u64 0,.int .u64 0] 27)) (w3.heap.size) 27 #[.int .i64 0,.int .i64 0,.int .i64 0,.int .u64 0,.slice none 0 0,.int .i64 0,.int .i64 0,.int .u64 0,.int .u64 0]:=(by with_reducible (repeat (first|exact Blk.new _ _ _|exact blk_new1 _ _ _ _|refine Blk.drew ?_|refine Blk.alloc ?_ _|refine ext_blk x3 ?_|refine ext_blk x2 ?_)))
   have hne:b<w3.heap.size:=(by have h1:=H.out.box.lt;have h2:=X3.size;omega)
   have k7:=far6 k2 (b:=b) (Nat.ne_of_gt hne) (.int .i64 dd.next) (.slice dd.oA dd.opn.length dd.oc) (.slice dd.cA dd.accs.length dd.cc) (.slice dd.uA dd.auts.length dd.uc) (.slice dd.rA dd.ords.length dd.rc) (.int .i64 dd.ser)
   have k8:=st9 k7
   have g0:=k8.1.1;have g1:=k8.1.2.1;have g2:=k8.1.2.2.1;have g3:=k8.1.2.2.2.1;have g4:=k8.1.2.2.2.2.1;have g5:=k8.1.2.2.2.2.2.1;have g6:=k8.1.2.2.2.2.2.2.1;have g7:=k8.1.2.2.2.2.2.2.2.1;have g8:=k8.1.2.2.2.2.2.2.2.2;have e0:=k8.2.1;have e1:=k8.2.2.1;have e2:=k8.2.2.2.1;have e3:=k8.2.2.2.2.1;have e4:=k8.2.2.2.2.2.1;have e5:=k8.2.2.2.2.2.2.1;have e6:=k8.2.2.2.2.2.2.2.1;have e7:=k8.2.2.2.2.2.2.2.2.1;have e8:=k8.2.2.2.2.2.2.2.2.2
   clear k8
   go_simp
   refine hK _ _ (fun h _=>absurd h (by decide)) ?_
   clear hK K
   try simp only [Act.put,zpA,zpB,zpC]
   refine F_some (is:=[12]) (by kernel_rfl) (by simp) (fun i hi=>?_)
   obtain rfl:i=12:=by simpa using hi
   refine F_wy (S:=frontS b doorZ) (L:=10) rfl (by kernel_rfl) (fun K hK=>?_)
   go_simp
   refine hK _ _ (fun h _=>absurd h (by decide)) ?_
   clear hK K
   try simp only [Act.put,zpA,zpB,zpC]
   refine F_some (is:=[13]) (by kernel_rfl) (by simp) (fun i hi=>?_)
   obtain rfl:i=13:=by simpa using hi
   refine F_wy (S:=frontS b doorZ) (L:=10) rfl (by kernel_rfl) (fun K hK=>?_)
   go_simp
   refine hK _ _ (fun h _=>absurd h (by decide)) ?_
   clear hK K
   try simp only [Act.put,zpA,zpB,zpC]
   refine F_done (by kernel_rfl) ?_
   have hLB:=LvD.put3 (H.out.later hxw) x3 hwd hld hfd 27 #[.int .i64 s1.kind,.int .i64 s1.acc,.int .i64 s1.nonce,.int .u64 (s1.key:Int),.slice none s1.names.length 0,.int .i64 s1.life,.int .i64 s1.id,.int .u64 (s1.e:Int),.int .u64 (s1.s:Int)]
   have hL:=hLB.1
   have hB:=hLB.2
   exact hQ dd (w3.heap.size) _ _ _ _ _ _ _ _ _ _ hL hB (hqd.any HN1.out _ _)
  ·refine F_wy (S:=frontS b doorZ) (L:=10) rfl (by kernel_rfl) (fun K hK=>?_)
   go_simp
   replace hHeld:=HC.out ((w2.alloc (.cells #[.int .i64 0,.int .i64 0,.int .i64 0,.int .u64 0,.slice none 0 0,.int .i64 0,.int .i64 0,.int .u64 0,.int .u64 0] 27))) (by with_reducible (repeat (first|assumption|exact Ext.refl _|refine Ext.drew ?_|refine Ext.alloc ?_ _)))
   refine hK _ _ (fun _ _=>hHeld) ?_
   clear hK K
   try simp only [Act.put,zpA,zpB,zpC]
   refine F_some (is:=[3]) (by kernel_rfl) (by simp) (fun i hi=>?_)
   obtain rfl:i=3:=by simpa using hi
   refine F_wy (S:=frontS b doorZ) (L:=10) rfl (by kernel_rfl) (fun K hK=>?_)
   go_simp
   go_at_call 40
   refine (cA ((w2.alloc (.cells #[.int .i64 0,.int .i64 0,.int .i64 0,.int .u64 0,.slice none 0 0,.int .i64 0,.int .i64 0,.int .u64 0,.int .u64 0] 27))) (by with_reducible (repeat (first|assumption|exact Ext.refl _|refine Ext.drew ?_|refine Ext.alloc ?_ _)))).mono ?_
   rintro e w3 ⟨dd,rfl,hfd,hwd,hld,hqd,x3⟩
   have X3:Ext W1 w3:=Ext.trans (by with_reducible (repeat (first|assumption|exact Ext.refl _|refine Ext.drew ?_|refine Ext.alloc ?_ _))) x3
   have hxw:Ext W1 (w2.alloc (.cells #[.int .i64 0,.int .i64 0,.int .i64 0,.int .u64 0,.slice none 0 0,.int .i64 0,.int .i64 0,.int .u64 0,.int .u64 0] 27)):=(by with_reducible (repeat (first|assumption|exact Ext.refl _|refine Ext.drew ?_|refine Ext.alloc ?_ _)))
   replace hHeld:=HC.out _ X3
   refine hK _ _ (fun _ _=>hHeld) ?_
   clear hK K
   try simp only [Act.put,zpA,zpB,zpC]
   refine F_pr (i:=4) (some 33) (v:=?_) rfl rfl (by kernel_rfl) (fun w=>?_) ?_;rotate_left 1
   ·go_simp;try with_reducible rfl
   try simp only [Act.put,zpA,zpB,zpC]
   refine F_pr (i:=5) (some 38) (v:=?_) rfl rfl (by kernel_rfl) (fun w=>?_) ?_;rotate_left 1
   ·go_simp;try with_reducible rfl
   try simp only [Act.put,zpA,zpB,zpC]
   refine F_pr (i:=6) (some 39) (v:=?_) rfl rfl (by kernel_rfl) (fun w=>?_) ?_;rotate_left 1
   ·go_simp;try with_reducible rfl
   try simp only [Act.put,zpA,zpB,zpC]
   refine F_pr (i:=7) (some 40) (v:=?_) rfl rfl (by kernel_rfl) (fun w=>?_) ?_;rotate_left 1
   ·go_simp;try with_reducible rfl
   try simp only [Act.put,zpA,zpB,zpC]
   refine F_pr (i:=8) (some 41) (v:=?_) rfl rfl (by kernel_rfl) (fun w=>?_) ?_;rotate_left 1
   ·go_simp;try with_reducible rfl
   try simp only [Act.put,zpA,zpB,zpC]
   refine F_some (is:=[10]) (by kernel_rfl) (by simp) (fun i hi=>?_)
   obtain rfl:i=10:=by simpa using hi
   refine F_wy (S:=frontS b doorZ) (L:=10) rfl (by kernel_rfl) (fun K hK=>?_)
   have k6:Blk w3 b 43 #[.int .i64 0,.slice none 0 0,.slice none 0 0,.slice none 0 0,.slice none 0 0,.int .i64 0]:=ext_blk (by with_reducible (repeat (first|assumption|exact Ext.refl _|refine Ext.drew ?_|refine Ext.alloc ?_ _))) H.out.box
   obtain ⟨v0,v1,v2,v3,v4,v5,f0,f1_,f2_,f3_,f4_,f5_⟩:=st6 k6
   go_simp
   refine hK _ _ (fun h _=>absurd h (by decide)) ?_
   clear hK K
   try simp only [Act.put,zpA,zpB,zpC]
   refine F_some (is:=[11]) (by kernel_rfl) (by simp) (fun i hi=>?_)
   obtain rfl:i=11:=by simpa using hi
   refine F_wy (S:=frontS b doorZ) (L:=10) rfl (by kernel_rfl) (fun K hK=>?_)
   have k2:Blk w3 (w2.heap.size) 27 #[.int .i64 0,.int .i64 0,.int .i64 0,.int .u64 0,.slice none 0 0,.int .i64 0,.int .i64 0,.int .u64 0,.int .u64 0]:=(by with_reducible (repeat (first|exact Blk.new _ _ _|exact blk_new1 _ _ _ _|refine Blk.drew ?_|refine Blk.alloc ?_ _|refine ext_blk x3 ?_|refine ext_blk x2 ?_)))
   have hne:b<w2.heap.size:=(by have h1:=H.out.box.lt;have h2:=X2.size;omega)
   have k7:=far6 k2 (b:=b) (Nat.ne_of_gt hne) (.int .i64 dd.next) (.slice dd.oA dd.opn.length dd.oc) (.slice dd.cA dd.accs.length dd.cc) (.slice dd.uA dd.auts.length dd.uc) (.slice dd.rA dd.ords.length dd.rc) (.int .i64 dd.ser)
   have k8:=st9 k7
   have g0:=k8.1.1;have g1:=k8.1.2.1;have g2:=k8.1.2.2.1;have g3:=k8.1.2.2.2.1;have g4:=k8.1.2.2.2.2.1;have g5:=k8.1.2.2.2.2.2.1;have g6:=k8.1.2.2.2.2.2.2.1;have g7:=k8.1.2.2.2.2.2.2.2.1;have g8:=k8.1.2.2.2.2.2.2.2.2;have e0:=k8.2.1;have e1:=k8.2.2.1;have e2:=k8.2.2.2.1;have e3:=k8.2.2.2.2.1;have e4:=k8.2.2.2.2.2.1;have e5:=k8.2.2.2.2.2.2.1;have e6:=k8.2.2.2.2.2.2.2.1;have e7:=k8.2.2.2.2.2.2.2.2.1;have e8:=k8.2.2.2.2.2.2.2.2.2
   clear k8
   go_simp
   refine hK _ _ (fun h _=>absurd h (by decide)) ?_
   clear hK K
   try simp only [Act.put,zpA,zpB,zpC]
   refine F_some (is:=[12]) (by kernel_rfl) (by simp) (fun i hi=>?_)
   obtain rfl:i=12:=by simpa using hi
   refine F_wy (S:=frontS b doorZ) (L:=10) rfl (by kernel_rfl) (fun K hK=>?_)
   go_simp
   refine hK _ _ (fun h _=>absurd h (by decide)) ?_
   clear hK K
   try simp only [Act.put,zpA,zpB,zpC]
   refine F_some (is:=[13]) (by kernel_rfl) (by simp) (fun i hi=>?_)
   obtain rfl:i=13:=by simpa using hi
   refine F_wy (S:=frontS b doorZ) (L:=10) rfl (by kernel_rfl) (fun K hK=>?_)
   go_simp
   refine hK _ _ (fun h _=>absurd h (by decide)) ?_
   clear hK K
   try simp only [Act.put,zpA,zpB,zpC]
   refine F_done (by kernel_rfl) ?_
   have hLB:=LvD.put2 (q:=s1) (A:=none) (c:=0) (H.out.later hxw) (W':=w3) x3 hwd hld hfd k2 hne ((hld _ H.out.door.lies).mono (fun k hk=>by have hs:((w2.alloc (.cells #[.int .i64 0,.int .i64 0,.int .i64 0,.int .u64 0,.slice none 0 0,.int .i64 0,.int .i64 0,.int .u64 0,.int .u64 0] 27))).heap.size=w2.heap.size+1:=(by simp);have hk':k<W1.heap.size∨((w2.alloc (.cells #[.int .i64 0,.int .i64 0,.int .i64 0,.int .u64 0,.slice none 0 0,.int .i64 0,.int .i64 0,.int .u64 0,.int .u64 0] 27))).heap.size≤k:=hk;rw [hs] at hk';have h2:=X2.size;have h3:=X2.size;(try have h5:=hs2);omega))
   have hL:=hLB.1
   have hB:=hLB.2
   exact hQ dd (w2.heap.size) _ _ _ _ _ _ _ _ _ _ hL hB (hqd.any HN1.out _ _)
 ·refine F_wy (S:=frontS b doorZ) (L:=10) rfl (by kernel_rfl) (fun K hK=>?_)
  go_simp
  replace hHeld:=HC.out ((W1.alloc (.cells #[.int .i64 0,.int .i64 0,.int .i64 0,.int .u64 0,.slice none 0 0,.int .i64 0,.int .i64 0,.int .u64 0,.int .u64 0] 27)).drew) (by with_reducible (repeat (first|assumption|exact Ext.refl _|refine Ext.drew ?_|refine Ext.alloc ?_ _)))
  refine hK _ _ (fun _ _=>hHeld) ?_
  clear hK K
  try simp only [Act.put,zpA,zpB,zpC]
  refine F_some (is:=[1]) (by kernel_rfl) (by simp) (fun i hi=>?_)
  obtain rfl:i=1:=by simpa using hi
  refine F_wy (S:=frontS b doorZ) (L:=10) rfl (by kernel_rfl) (fun K hK=>?_)
  go_simp
  go_at_call 39
  refine (cK _).mono ?_
  rintro e w2 ⟨rfl,x2⟩
  have X2:Ext W1 w2:=Ext.trans (by with_reducible (repeat (first|assumption|exact Ext.refl _|refine Ext.drew ?_|refine Ext.alloc ?_ _))) x2
  have hs2:W1.heap.size+1≤w2.heap.size:=by have hs:((W1.alloc (.cells #[.int .i64 0,.int .i64 0,.int .i64 0,.int .u64 0,.slice none 0 0,.int .i64 0,.int .i64 0,.int .u64 0,.int .u64 0] 27))).heap.size=W1.heap.size+1:=(by simp);have h:=x2.size;have h':((W1.alloc (.cells #[.int .i64 0,.int .i64 0,.int .i64 0,.int .u64 0,.slice none 0 0,.int .i64 0,.int .i64 0,.int .u64 0,.int .u64 0] 27))).heap.size≤w2.heap.size:=h;omega
  replace hHeld:=HC.out _ X2
  refine hK _ _ (fun _ _=>hHeld) ?_
  clear hK K
  try simp only [Act.put,zpA,zpB,zpC]
  refine F_pr (i:=2) (some 36) (v:=?_) rfl rfl (by kernel_rfl) (fun w=>?_) ?_;rotate_left 1
  ·go_simp;try with_reducible rfl
  try simp only [Act.put,zpA,zpB,zpC]
  refine F_some (is:=[3]) (by kernel_rfl) (by simp) (fun i hi=>?_)
  obtain rfl:i=3:=by simpa using hi
  refine F_wy (S:=frontS b doorZ) (L:=10) rfl (by kernel_rfl) (fun K hK=>?_)
  go_simp
  go_at_call 40
  refine (cA (w2) (by with_reducible (repeat (first|assumption|exact Ext.refl _|refine Ext.drew ?_|refine Ext.alloc ?_ _)))).mono ?_
  rintro e w3 ⟨dd,rfl,hfd,hwd,hld,hqd,x3⟩
  have X3:Ext W1 w3:=Ext.trans (by with_reducible (repeat (first|assumption|exact Ext.refl _|refine Ext.drew ?_|refine Ext.alloc ?_ _))) x3
  have hxw:Ext W1 w2:=(by with_reducible (repeat (first|assumption|exact Ext.refl _|refine Ext.drew ?_|refine Ext.alloc ?_ _)))
  replace hHeld:=HC.out _ X3
  refine hK _ _ (fun _ _=>hHeld) ?_
  clear hK K
  try simp only [Act.put,zpA,zpB,zpC]
  refine F_pr (i:=4) (some 33) (v:=?_) rfl rfl (by kernel_rfl) (fun w=>?_) ?_;rotate_left 1
  ·go_simp;try with_reducible rfl
  try simp only [Act.put,zpA,zpB,zpC]
  refine F_pr (i:=5) (some 38) (v:=?_) rfl rfl (by kernel_rfl) (fun w=>?_) ?_;rotate_left 1
  ·go_simp;try with_reducible rfl
  try simp only [Act.put,zpA,zpB,zpC]
  refine F_pr (i:=6) (some 39) (v:=?_) rfl rfl (by kernel_rfl) (fun w=>?_) ?_;rotate_left 1
  ·go_simp;try with_reducible rfl
  try simp only [Act.put,zpA,zpB,zpC]
  refine F_pr (i:=7) (some 40) (v:=?_) rfl rfl (by kernel_rfl) (fun w=>?_) ?_;rotate_left 1
  ·go_simp;try with_reducible rfl
  try simp only [Act.put,zpA,zpB,zpC]
  refine F_pr (i:=8) (some 41) (v:=?_) rfl rfl (by kernel_rfl) (fun w=>?_) ?_;rotate_left 1
  ·go_simp;try with_reducible rfl
  try simp only [Act.put,zpA,zpB,zpC]
  refine F_some (is:=[10]) (by kernel_rfl) (by simp) (fun i hi=>?_)
  obtain rfl:i=10:=by simpa using hi
  refine F_wy (S:=frontS b doorZ) (L:=10) rfl (by kernel_rfl) (fun K hK=>?_)
  have k6:Blk w3 b 43 #[.int .i64 0,.slice none 0 0,.slice none 0 0,.slice none 0 0,.slice none 0 0,.int .i64 0]:=ext_blk (by with_reducible (repeat (first|assumption|exact Ext.refl _|refine Ext.drew ?_|refine Ext.alloc ?_ _))) H.out.box
  obtain ⟨v0,v1,v2,v3,v4,v5,f0,f1_,f2_,f3_,f4_,f5_⟩:=st6 k6
  go_simp
  refine hK _ _ (fun h _=>absurd h (by decide)) ?_
  clear hK K
  try simp only [Act.put,zpA,zpB,zpC]
  refine F_some (is:=[11]) (by kernel_rfl) (by simp) (fun i hi=>?_)
  obtain rfl:i=11:=by simpa using hi
  refine F_wy (S:=frontS b doorZ) (L:=10) rfl (by kernel_rfl) (fun K hK=>?_)
  have k2:Blk w3 (W1.heap.size) 27 #[.int .i64 0,.int .i64 0,.int .i64 0,.int .u64 0,.slice none 0 0,.int .i64 0,.int .i64 0,.int .u64 0,.int .u64 0]:=(by with_reducible (repeat (first|exact Blk.new _ _ _|exact blk_new1 _ _ _ _|refine Blk.drew ?_|refine Blk.alloc ?_ _|refine ext_blk x3 ?_|refine ext_blk x2 ?_)))
  have hne:b<W1.heap.size:=(by have h1:=H.out.box.lt;omega)
  have k7:=far6 k2 (b:=b) (Nat.ne_of_gt hne) (.int .i64 dd.next) (.slice dd.oA dd.opn.length dd.oc) (.slice dd.cA dd.accs.length dd.cc) (.slice dd.uA dd.auts.length dd.uc) (.slice dd.rA dd.ords.length dd.rc) (.int .i64 dd.ser)
  have k8:=st9 k7
  have g0:=k8.1.1;have g1:=k8.1.2.1;have g2:=k8.1.2.2.1;have g3:=k8.1.2.2.2.1;have g4:=k8.1.2.2.2.2.1;have g5:=k8.1.2.2.2.2.2.1;have g6:=k8.1.2.2.2.2.2.2.1;have g7:=k8.1.2.2.2.2.2.2.2.1;have g8:=k8.1.2.2.2.2.2.2.2.2;have e0:=k8.2.1;have e1:=k8.2.2.1;have e2:=k8.2.2.2.1;have e3:=k8.2.2.2.2.1;have e4:=k8.2.2.2.2.2.1;have e5:=k8.2.2.2.2.2.2.1;have e6:=k8.2.2.2.2.2.2.2.1;have e7:=k8.2.2.2.2.2.2.2.2.1;have e8:=k8.2.2.2.2.2.2.2.2.2
  clear k8
  go_simp
  refine hK _ _ (fun h _=>absurd h (by decide)) ?_
  clear hK K
  try simp only [Act.put,zpA,zpB,zpC]
  refine F_some (is:=[12]) (by kernel_rfl) (by simp) (fun i hi=>?_)
  obtain rfl:i=12:=by simpa using hi
  refine F_wy (S:=frontS b doorZ) (L:=10) rfl (by kernel_rfl) (fun K hK=>?_)
  go_simp
  refine hK _ _ (fun h _=>absurd h (by decide)) ?_
  clear hK K
  try simp only [Act.put,zpA,zpB,zpC]
  refine F_some (is:=[13]) (by kernel_rfl) (by simp) (fun i hi=>?_)
  obtain rfl:i=13:=by simpa using hi
  refine F_wy (S:=frontS b doorZ) (L:=10) rfl (by kernel_rfl) (fun K hK=>?_)
  go_simp
  refine hK _ _ (fun h _=>absurd h (by decide)) ?_
  clear hK K
  try simp only [Act.put,zpA,zpB,zpC]
  refine F_done (by kernel_rfl) ?_
  have hLB:=LvD.put2 (q:=s1) (A:=none) (c:=0) (H.out.later hxw) (W':=w3) x3 hwd hld hfd k2 hne ((hld _ H.out.door.lies).mono (fun k hk=>by have hs:(w2).heap.size=w2.heap.size+0:=(by simp);have hk':k<W1.heap.size∨(w2).heap.size≤k:=hk;rw [hs] at hk';have h3:=X2.size;(try have h5:=hs2);omega))
  have hL:=hLB.1
  have hB:=hLB.2
  exact hQ dd (W1.heap.size) _ _ _ _ _ _ _ _ _ _ hL hB (hqd.any HN1.out _ _)
theorem live_any (w:World):Calls Tryz.prog 12 #[] w fun e w'=>e=.returned (.bool true)∧Ext w w':=by
 have L:=live_all sigR_ok
 obtain ⟨k1,hk1⟩:∃ v,v=sigR.pk 1:=⟨_,rfl⟩
 obtain ⟨k9,hk9⟩:∃ v,v=sigR.pk 9:=⟨_,rfl⟩
 have HK1:Hid (k1<18446744073709551616):=Lib.hid (by rw [hk1];exact pk_lt 1)
 have HK9:Hid (k9<18446744073709551616):=Lib.hid (by rw [hk9];exact pk_lt 9)
 have q1:lq1 sigR=⟨1,0,0,k1,[],0,0,0,0⟩:=by rw [hk1];rfl
 have q2:lq2 sigR=⟨2,1,0,k9,[⟨#[97,46,98]⟩],5,0,0,0⟩:=by rw [hk9];rfl
 have cK1:=fun W=>key_any 1 (by decide) W
 have cK9:=fun W=>key_any 9 (by decide) W
 rw [← hk1] at cK1
 rw [← hk9] at cK9
 obtain ⟨f1,hf1⟩:∃ f,f=lv1 sigR:=⟨_,rfl⟩
 obtain ⟨s1,hs1⟩:∃ f,f=sentQ sigR froZ (lq1 sigR) 1:=⟨_,rfl⟩
 obtain ⟨f2,hf2⟩:∃ f,f=lv2 sigR:=⟨_,rfl⟩
 obtain ⟨s2,hs2⟩:∃ f,f=sentQ sigR f1 (lq2 sigR) 1:=⟨_,rfl⟩
 have hn1:s1.names=[]:=by rw [hs1];rfl
 obtain ⟨f3,hf3⟩:∃ f,f=lv3 sigR:=⟨_,rfl⟩
 obtain ⟨f4,hf4⟩:∃ f,f=lv4 sigR:=⟨_,rfl⟩
 obtain ⟨f5,hf5⟩:∃ f,f=lv5 sigR:=⟨_,rfl⟩
 obtain ⟨f6,hf6⟩:∃ f,f=lv6 sigR:=⟨_,rfl⟩
 have a2:=L.a2
 rw [← hf1,← hs1,sigR_sgf] at a2
 have a4:=L.a4
 rw [← hf2,← hf3] at a4
 obtain ⟨s3,hs3⟩:∃ f,f=sentQ sigR f2 lq3 1:=⟨_,rfl⟩
 rw [← hs3] at a4
 have a5:=L.a5
 rw [← hf3] at a5
 have a6:=L.a6
 rw [← hf3,← hf4] at a6
 have a7:=L.a7
 rw [← hf4] at a7
 have a8:=L.a8
 rw [← hf4,← hf5] at a8
 obtain ⟨s8,hs8⟩:∃ f,f=sentQ sigR f4 lq4 1:=⟨_,rfl⟩
 rw [← hs8] at a8
 have a9:=L.a9
 rw [← hf5,← hk9] at a9
 have a10:=L.a10
 rw [← hf5,← hf6] at a10
 have a11:=L.a11
 rw [← hf6] at a11
 have l2:f2.accs.length=1∧f2.auts.length=1∧f2.ords.length=1:=by rw [hf2];exact ⟨rfl,rfl,rfl⟩
 have l3:f3.accs.length=1∧f3.auts.length=1∧f3.ords.length=1:=by rw [hf3];exact ⟨rfl,rfl,rfl⟩
 have l4:f4.accs.length=1∧f4.auts.length=1∧f4.ords.length=1:=by rw [hf4];exact ⟨rfl,rfl,rfl⟩
 have l5:f5.accs.length=1∧f5.auts.length=1∧f5.ords.length=1:=by rw [hf5];exact ⟨rfl,rfl,rfl⟩
 have l6:f6.accs.length=1∧f6.auts.length=1∧f6.ords.length=1∧f6.ser=4:=by rw [hf6];exact ⟨rfl,rfl,rfl,rfl⟩
 have u5:f5.auts=[⟨1,1,⟨#[97,46,98]⟩,⟨#[49,45,49]⟩,3,7,57⟩]:=by
  rw [hf5]
  show [(⟨((0:Nat):Int)+1,1,abS,tokS (((0:Nat):Int)+1) 1,3,7,57⟩:AutR)]=_
  rw [show ((0:Nat):Int)+1=1 from rfl,tok11];rfl
 have HA2:=Lib.hid a2
 have HA4:=Lib.hid a4
 have HA5:=Lib.hid a5
 have HA6:=Lib.hid a6
 have HA7:=Lib.hid a7
 have HA8:=Lib.hid a8
 have HA9:=Lib.hid a9
 have HA10:=Lib.hid a10
 have HA11:=Lib.hid a11
 have HL2:=Lib.hid l2
 have HL3:=Lib.hid l3
 have HL4:=Lib.hid l4
 have HL5:=Lib.hid l5
 have HL6:=Lib.hid l6
 have HU5:=Lib.hid u5
 clear hf3 hf4 hf5 hf6 hs3 hs8 a2 a4 a5 a6 a7 a8 a9 a10 a11 l2 l3 l4 l5 l6 u5
 have a1:=L.a1
 have a3:=L.a3
 rw [← hf1,← hs1,q1] at a1
 rw [← hf1,← hf2,← hs2,q2] at a3
 have l1:f1.accs.length=1∧f1.auts.length=0∧f1.ords.length=0:=by rw [hf1];exact ⟨rfl,rfl,rfl⟩
 have LL:=Lib.hid L
 have HF1:=Lib.hid hf1
 have HF2:=Lib.hid hf2
 have HS1:=Lib.hid hs1
 have HN1:=Lib.hid hn1
 have A1:=Lib.hid a1
 have A3:=Lib.hid a3
 have L1:=Lib.hid l1
 clear L hf1 hf2 hs1 hs2 hn1 a1 a3 l1 hk1 hk9 q1 q2
 go_enter Tryz.func12,Tryz.ntmps12
 go_upto_region 2 with (go_at_call 34;refine (oNewV _).mono ?_;rintro e w1 ⟨rfl,x1⟩)
 obtain ⟨W1,e1⟩:∃ W,w1.alloc (.cells #[.int .i64 0,.slice none 0 0,.slice none 0 0,.slice none 0 0,.slice none 0 0,.int .i64 0] 43)=W:=⟨_,rfl⟩
 obtain ⟨b,hb⟩:∃ b,b=w1.heap.size:=⟨_,rfl⟩
 try rw [e1]
 try rw [← hb]
 have H1:Hid (LvD w W1 b doorZ froZ):=Lib.hid (by
  rw [← e1,hb]
  exact ⟨x1.alloc _,rfl,Blk.new _ _ _,doorZ_w _ _,doorZ_l _,x1.size⟩)
 clear e1 hb x1
 go_cut [2,3,4] (fun s2_ s3_ s4_ wx=>∃ d b2,s2_=.pointer (some ⟨b2,0,none⟩)∧s3_=.int .i64 1∧s4_=.int .i64 0∧LvD w wx b d f1∧Blk wx b2 27 #[.int .i64 s1.kind,.int .i64 s1.acc,.int .i64 s1.nonce,.int .u64 (s1.key:Int),.slice none s1.names.length 0,.int .i64 s1.life,.int .i64 s1.id,.int .u64 (s1.e:Int),.int .u64 (s1.s:Int)]∧QueW wx wx.heap.size s1 none 0)
 case first =>
  have HC:Hid (∀ W,Ext W1 W→(W.cell? ⟨b,0,none⟩=some (.int .i64 0)∧W.cell? ⟨b,1,none⟩=some (.slice none 0 0)∧W.cell? ⟨b,2,none⟩=some (.slice none 0 0)∧W.cell? ⟨b,3,none⟩=some (.slice none 0 0)∧W.cell? ⟨b,4,none⟩=some (.slice none 0 0)∧W.cell? ⟨b,5,none⟩=some (.int .i64 0))):=Lib.hid fun W x=>arr6f (ext_blk x H1.out.box)
  have cA:∀ W,Ext W1 W→Calls Tryz.prog 40 #[.agg #[.int .i64 0,.slice none 0 0,.slice none 0 0,.slice none 0 0,.slice none 0 0,.int .i64 0],.agg #[.int .i64 1,.int .i64 0,.int .i64 0,.int .u64 (k1:Int),.slice none 0 0,.int .i64 0,.int .i64 0,.int .u64 0,.int .u64 0],.int .u8 1,.int .i64 3] W (ansP doorZ none 0 f1 s1 1 0 W):=fun W x =>
   (H1.out.later x).asks (q:=⟨1,0,0,k1,[],0,0,0,0⟩) (que_lit W _ 1 0 0 0 _ (by decide) (by decide) (by decide) (by decide) HK1.out) (by decide) (by decide) (by decide) (by decide) A1.out
  refine live_r2 (k1:=k1) (f1:=f1) (s1:=s1) H1 cK1 cA HN1 (fun d b2 W' v33 v34 v35 v36 v37 v38 v39 v40 v41 hL hB hQ=>?_)
  clear cA HC
  go_wp2
  go_meet
  exact ⟨d,b2,rfl,rfl,rfl,hL,hB,hQ⟩
 case rest =>
  obtain ⟨d1,b2,rfl,rfl,rfl,hL,hB,hQ⟩:=hcut
  obtain ⟨W2,hW2⟩:∃ W,W=wc:=⟨_,rfl⟩
  rw [← hW2] at hL hB hQ ⊢
  have H2:=Lib.hid hL
  have cDo:Calls Tryz.prog 18 #[.agg #[.int .i64 d1.next,.slice d1.oA d1.opn.length d1.oc,.slice d1.cA d1.accs.length d1.cc,.slice d1.uA d1.auts.length d1.uc,.slice d1.rA d1.ords.length d1.rc,.int .i64 d1.ser],.agg #[.int .i64 s1.kind,.int .i64 s1.acc,.int .i64 s1.nonce,.int .u64 (s1.key:Int),.slice none s1.names.length 0,.int .i64 s1.life,.int .i64 s1.id,.int .u64 (s1.e:Int),.int .u64 (s1.s:Int)],.int .i64 3] W2 (fun e w'=>∃ dd:DoorX,e=.returned (.tuple #[.agg #[.int .i64 dd.next,.slice dd.oA dd.opn.length dd.oc,.slice dd.cA dd.accs.length dd.cc,.slice dd.uA dd.auts.length dd.uc,.slice dd.rA dd.ords.length dd.rc,.int .i64 dd.ser],.int .i64 0,.int .i64 210])∧Ext W2 w'):=by
   have h:=oDo_any d1 s1 none 0 3 W2 H2.out.door hQ (by rw [H2.out.auts];have:=L1.out;omega) (by rw [H2.out.accs];have:=L1.out;omega) (by rw [H2.out.ords];have:=L1.out;omega)
   rw [H2.out.fro,HA2.out] at h
   exact h.mono (fun e w' ⟨dd,he,_,_,_,x⟩=>⟨dd,he,x⟩)
  obtain ⟨m0,m1,m2,m3,m4,m5⟩:=arr6f (hL.box)
  obtain ⟨n0,n1,n2,n3,n4,n5,n6,n7,n8⟩:=arr9 (hB)
  clear hL hB hQ hW2
  go_upto_region 4 with (go_at_call 18;refine cDo.mono ?_;clear cDo m0 m1 m2 m3 m4 m5 n0 n1 n2 n3 n4 n5 n6 n7 n8;rintro e w3 ⟨dd,rfl,x3⟩)
  obtain ⟨W3,e3⟩:∃ W,w3.alloc (.cells #[.int .i64 dd.next,.slice dd.oA dd.opn.length dd.oc,.slice dd.cA dd.accs.length dd.cc,.slice dd.uA dd.auts.length dd.uc,.slice dd.rA dd.ords.length dd.rc,.int .i64 dd.ser] 43)=W:=⟨_,rfl⟩
  try rw [e3]
  have H3:Hid (LvD w W3 b d1 f1):=Lib.hid (H2.out.later (by rw [← e3];exact x3.alloc _))
  clear e3 x3
  go_cut [8,9,10] (fun s8_ s9_ s10_ wx=>∃ d b8,s8_=.pointer (some ⟨b8,0,none⟩)∧s9_=.int .i64 1∧s10_=.int .i64 0∧LvD w wx b d f2)
  case first =>
   have HC:Hid (∀ W,Ext W3 W→(W.cell? ⟨b,0,none⟩=some (.int .i64 d1.next)∧W.cell? ⟨b,1,none⟩=some (.slice d1.oA d1.opn.length d1.oc)∧W.cell? ⟨b,2,none⟩=some (.slice d1.cA d1.accs.length d1.cc)∧W.cell? ⟨b,3,none⟩=some (.slice d1.uA d1.auts.length d1.uc)∧W.cell? ⟨b,4,none⟩=some (.slice d1.rA d1.ords.length d1.rc)∧W.cell? ⟨b,5,none⟩=some (.int .i64 d1.ser))):=Lib.hid fun W x=>arr6f (ext_blk x H3.out.box)
   have cA:∀ W,Ext W3 W→∀ bs,Reads W W.heap.size 1 (some ⟨bs,0,none⟩) 1 (tv [⟨#[97,46,98]⟩])→Calls Tryz.prog 40 #[.agg #[.int .i64 d1.next,.slice d1.oA d1.opn.length d1.oc,.slice d1.cA d1.accs.length d1.cc,.slice d1.uA d1.auts.length d1.uc,.slice d1.rA d1.ords.length d1.rc,.int .i64 d1.ser],.agg #[.int .i64 2,.int .i64 1,.int .i64 0,.int .u64 (k9:Int),.slice (some ⟨bs,0,none⟩) 1 1,.int .i64 5,.int .i64 0,.int .u64 0,.int .u64 0],.int .u8 1,.int .i64 4] W (ansP d1 (some ⟨bs,0,none⟩) 1 f2 s2 1 0 W):=fun W x bs hr =>
    (H3.out.later x).asks (q:=⟨2,1,0,k9,[⟨#[97,46,98]⟩],5,0,0,0⟩) (que_lit1 (by decide) (by decide) (by decide) (by decide) HK9.out (by decide) hr) (by decide) (by have:=L1.out;omega) (by have:=L1.out;omega) (by have:=L1.out;omega) A3.out
   refine live_r4 (k9:=k9) (f2:=f2) (s2:=s2) H3 cK9 cA (fun d b2 W' v49 v50 v51 v52 v53 v54 v55 v56 v57 v58 hL=>?_)
   clear cA HC
   go_wp2
   go_meet
   exact ⟨d,b2,rfl,rfl,rfl,hL⟩
  obtain ⟨d4,b8,rfl,rfl,rfl,hL4⟩:=hcut
  obtain ⟨W4,hW4⟩:∃ W,W=wc:=⟨_,rfl⟩
  rw [← hW4] at hL4 ⊢
  have H4:=Lib.hid hL4
  clear hL4 hW4
  obtain ⟨m0,m1,m2,m3,m4,m5⟩:=arr6f (H4.out.box)
  have cA5:Calls Tryz.prog 40 #[.agg #[.int .i64 d4.next,.slice d4.oA d4.opn.length d4.oc,.slice d4.cA d4.accs.length d4.cc,.slice d4.uA d4.auts.length d4.uc,.slice d4.rA d4.ords.length d4.rc,.int .i64 d4.ser],.agg #[.int .i64 3,.int .i64 1,.int .i64 0,.int .u64 0,.slice none 0 0,.int .i64 0,.int .i64 1,.int .u64 0,.int .u64 0],.int .u8 1,.int .i64 5] W4 (ansP d4 none 0 f3 s3 1 0 W4) :=
   H4.out.asks (q:=lq3) (que_lit W4 _ _ _ _ _ _ (by decide) (by decide) (by decide) (by decide) (by decide)) (by decide) (by have:=HL2.out;omega) (by have:=HL2.out;omega) (by have:=HL2.out;omega) HA4.out
  go_upto_region 6 with (go_at_call 40;refine cA5.mono ?_;clear cA5 m0 m1 m2 m3 m4 m5;rintro e w5 ⟨dd,rfl,hfd,hwd,hld,hqd,x5⟩;have k6:=ext_blk x5 H4.out.box;have hlt:b<w5.heap.size:=k6.lt;have hne:b≠w5.heap.size:=Nat.ne_of_lt hlt;obtain ⟨v0,v1,v2,v3,v4,v5,j0,j1,j2,j3,j4,j5⟩:=st6 k6)
  have hLB:=LvD.put3 H4.out x5 hwd hld hfd 27 #[.int .i64 s3.kind,.int .i64 s3.acc,.int .i64 s3.nonce,.int .u64 (s3.key:Int),.slice none s3.names.length 0,.int .i64 s3.life,.int .i64 s3.id,.int .u64 (s3.e:Int),.int .u64 (s3.s:Int)]
  obtain ⟨W5,e5⟩:∃ W,((((((w5.setCell ⟨b,0,none⟩ (.int .i64 dd.next)).setCell ⟨b,1,none⟩ (.slice dd.oA dd.opn.length dd.oc)).setCell ⟨b,2,none⟩ (.slice dd.cA dd.accs.length dd.cc)).setCell ⟨b,3,none⟩ (.slice dd.uA dd.auts.length dd.uc)).setCell ⟨b,4,none⟩ (.slice dd.rA dd.ords.length dd.rc)).setCell ⟨b,5,none⟩ (.int .i64 dd.ser)).alloc (.cells #[.int .i64 s3.kind,.int .i64 s3.acc,.int .i64 s3.nonce,.int .u64 (s3.key:Int),.slice none s3.names.length 0,.int .i64 s3.life,.int .i64 s3.id,.int .u64 (s3.e:Int),.int .u64 (s3.s:Int)] 27)=W:=⟨_,rfl⟩
  rw [e5] at hLB
  try rw [e5]
  have H5:=Lib.hid hLB.1
  obtain ⟨d5,hd5⟩:∃ y,y=dd:=⟨_,rfl⟩
  rw [← hd5] at H5
  clear hLB e5 k6 hlt hne v0 v1 v2 v3 v4 v5 j0 j1 j2 j3 j4 j5 hfd hwd hld hqd x5 hd5
  obtain ⟨m0,m1,m2,m3,m4,m5⟩:=arr6f (H5.out.box)
  obtain ⟨fx6,sx6,nx6,hx6⟩:∃ fx sx nx,asksF sigR f3 lq4 1 6=(fx,sx,nx,221):=⟨_,_,_,by rw [← HA5.out]⟩
  have cA6:Calls Tryz.prog 40 #[.agg #[.int .i64 d5.next,.slice d5.oA d5.opn.length d5.oc,.slice d5.cA d5.accs.length d5.cc,.slice d5.uA d5.auts.length d5.uc,.slice d5.rA d5.ords.length d5.rc,.int .i64 d5.ser],.agg #[.int .i64 4,.int .i64 1,.int .i64 0,.int .u64 0,.slice none 0 0,.int .i64 0,.int .i64 1,.int .u64 0,.int .u64 0],.int .u8 1,.int .i64 6] W5 (ansP d5 none 0 fx6 sx6 nx6 221 W5) :=
   H5.out.asks (q:=lq4) (que_lit W5 _ _ _ _ _ _ (by decide) (by decide) (by decide) (by decide) (by decide)) (by decide) (by have:=HL3.out;omega) (by have:=HL3.out;omega) (by have:=HL3.out;omega) hx6
  clear hx6
  go_upto_region 7 with (go_at_call 40;refine cA6.mono ?_;clear cA6 m0 m1 m2 m3 m4 m5;rintro e w6 ⟨dd,rfl,hfd,hwd,hld,hqd,x6⟩)
  obtain ⟨W6,e6⟩:∃ W,(w6.alloc (.cells #[.int .i64 dd.next,.slice dd.oA dd.opn.length dd.oc,.slice dd.cA dd.accs.length dd.cc,.slice dd.uA dd.auts.length dd.uc,.slice dd.rA dd.ords.length dd.rc,.int .i64 dd.ser] 43)).alloc (.cells #[.int .i64 sx6.kind,.int .i64 sx6.acc,.int .i64 sx6.nonce,.int .u64 (sx6.key:Int),.slice none sx6.names.length 0,.int .i64 sx6.life,.int .i64 sx6.id,.int .u64 (sx6.e:Int),.int .u64 (sx6.s:Int)] 27)=W:=⟨_,rfl⟩
  try rw [e6]
  have H6:Hid (LvD w W6 b d5 f3):=Lib.hid (H5.out.later (by rw [← e6];exact (x6.alloc _).alloc _))
  clear e6 hfd hwd hld hqd x6
  obtain ⟨m0,m1,m2,m3,m4,m5⟩:=arr6f (H6.out.box)
  have cS:Calls Tryz.prog 26 #[.agg #[.int .i64 d5.next,.slice d5.oA d5.opn.length d5.oc,.slice d5.cA d5.accs.length d5.cc,.slice d5.uA d5.auts.length d5.uc,.slice d5.rA d5.ords.length d5.rc,.int .i64 d5.ser],.int .i64 1,.bool true,.int .i64 7] W6 (outS d5 (f4,0) W6):=by
   have h:=oSaw_any d5 1 true 7 W6 H6.out.door (by rw [H6.out.auts];have:=HL3.out;omega) (by rw [H6.out.accs];have:=HL3.out;omega)
   rw [H6.out.fro,HA6.out] at h
   exact h
  unfold outS frontV at cS
  go_upto_region 8 with (go_at_call 26;refine cS.mono ?_;clear cS m0 m1 m2 m3 m4 m5;rintro e w7 ⟨d7,rfl,hfd,hwd,hld,x7⟩;obtain ⟨v0,v1,v2,v3,v4,v5,j0,j1,j2,j3,j4,j5⟩:=st6 (ext_blk x7 H6.out.box))
  have hL:=LvD.put H6.out x7 hwd hld hfd
  obtain ⟨W7,e7⟩:∃ W,((((((w7.setCell ⟨b,0,none⟩ (.int .i64 d7.next)).setCell ⟨b,1,none⟩ (.slice d7.oA d7.opn.length d7.oc)).setCell ⟨b,2,none⟩ (.slice d7.cA d7.accs.length d7.cc)).setCell ⟨b,3,none⟩ (.slice d7.uA d7.auts.length d7.uc)).setCell ⟨b,4,none⟩ (.slice d7.rA d7.ords.length d7.rc)).setCell ⟨b,5,none⟩ (.int .i64 d7.ser))=W:=⟨_,rfl⟩
  rw [e7] at hL
  try rw [e7]
  have H7:=Lib.hid hL
  clear e7 hL v0 v1 v2 v3 v4 v5 j0 j1 j2 j3 j4 j5 hfd hwd hld x7
  obtain ⟨m0,m1,m2,m3,m4,m5⟩:=arr6f (H7.out.box)
  rw [H7.out.auts,HL4.out.2.1] at m3
  rw [H7.out.ords,HL4.out.2.2] at m4
  go_upto_region 10 with (fail)
  clear m0 m1 m2 m3 m4 m5
  obtain ⟨m0,m1,m2,m3,m4,m5⟩:=arr6f (H7.out.box)
  obtain ⟨fx10,sx10,nx10,hx10⟩:∃ fx sx nx,asksF sigR f4 lq4 1 58=(fx,sx,nx,221):=⟨_,_,_,by rw [← HA7.out]⟩
  have cA10:Calls Tryz.prog 40 #[.agg #[.int .i64 d7.next,.slice d7.oA d7.opn.length d7.oc,.slice d7.cA d7.accs.length d7.cc,.slice d7.uA d7.auts.length d7.uc,.slice d7.rA d7.ords.length d7.rc,.int .i64 d7.ser],.agg #[.int .i64 4,.int .i64 1,.int .i64 0,.int .u64 0,.slice none 0 0,.int .i64 0,.int .i64 1,.int .u64 0,.int .u64 0],.int .u8 1,.int .i64 58] W7 (ansP d7 none 0 fx10 sx10 nx10 221 W7) :=
   H7.out.asks (q:=lq4) (que_lit W7 _ _ _ _ _ _ (by decide) (by decide) (by decide) (by decide) (by decide)) (by decide) (by have:=HL4.out;omega) (by have:=HL4.out;omega) (by have:=HL4.out;omega) hx10
  clear hx10
  go_upto_region 11 with (go_at_call 40;refine cA10.mono ?_;clear cA10 m0 m1 m2 m3 m4 m5;rintro e w10 ⟨dd,rfl,hfd,hwd,hld,hqd,x10⟩)
  obtain ⟨W10,e10⟩:∃ W,(w10.alloc (.cells #[.int .i64 dd.next,.slice dd.oA dd.opn.length dd.oc,.slice dd.cA dd.accs.length dd.cc,.slice dd.uA dd.auts.length dd.uc,.slice dd.rA dd.ords.length dd.rc,.int .i64 dd.ser] 43)).alloc (.cells #[.int .i64 sx10.kind,.int .i64 sx10.acc,.int .i64 sx10.nonce,.int .u64 (sx10.key:Int),.slice none sx10.names.length 0,.int .i64 sx10.life,.int .i64 sx10.id,.int .u64 (sx10.e:Int),.int .u64 (sx10.s:Int)] 27)=W:=⟨_,rfl⟩
  try rw [e10]
  have H10:Hid (LvD w W10 b d7 f4):=Lib.hid (H7.out.later (by rw [← e10];exact (x10.alloc _).alloc _))
  clear e10 hfd hwd hld hqd x10
  obtain ⟨m0,m1,m2,m3,m4,m5⟩:=arr6f (H10.out.box)
  have cA11:Calls Tryz.prog 40 #[.agg #[.int .i64 d7.next,.slice d7.oA d7.opn.length d7.oc,.slice d7.cA d7.accs.length d7.cc,.slice d7.uA d7.auts.length d7.uc,.slice d7.rA d7.ords.length d7.rc,.int .i64 d7.ser],.agg #[.int .i64 4,.int .i64 1,.int .i64 0,.int .u64 0,.slice none 0 0,.int .i64 0,.int .i64 1,.int .u64 0,.int .u64 0],.int .u8 1,.int .i64 57] W10 (ansP d7 none 0 f5 s8 1 0 W10) :=
   H10.out.asks (q:=lq4) (que_lit W10 _ _ _ _ _ _ (by decide) (by decide) (by decide) (by decide) (by decide)) (by decide) (by have:=HL4.out;omega) (by have:=HL4.out;omega) (by have:=HL4.out;omega) HA8.out
  go_upto_region 12 with (go_at_call 40;refine cA11.mono ?_;clear cA11 m0 m1 m2 m3 m4 m5;rintro e w11 ⟨dd,rfl,hfd,hwd,hld,hqd,x11⟩;have k6:=ext_blk x11 H10.out.box;have hlt:b<w11.heap.size:=k6.lt;have hne:b≠w11.heap.size:=Nat.ne_of_lt hlt;obtain ⟨v0,v1,v2,v3,v4,v5,j0,j1,j2,j3,j4,j5⟩:=st6 k6)
  have hLB:=LvD.put3 H10.out x11 hwd hld hfd 27 #[.int .i64 s8.kind,.int .i64 s8.acc,.int .i64 s8.nonce,.int .u64 (s8.key:Int),.slice none s8.names.length 0,.int .i64 s8.life,.int .i64 s8.id,.int .u64 (s8.e:Int),.int .u64 (s8.s:Int)]
  obtain ⟨W11,e11⟩:∃ W,((((((w11.setCell ⟨b,0,none⟩ (.int .i64 dd.next)).setCell ⟨b,1,none⟩ (.slice dd.oA dd.opn.length dd.oc)).setCell ⟨b,2,none⟩ (.slice dd.cA dd.accs.length dd.cc)).setCell ⟨b,3,none⟩ (.slice dd.uA dd.auts.length dd.uc)).setCell ⟨b,4,none⟩ (.slice dd.rA dd.ords.length dd.rc)).setCell ⟨b,5,none⟩ (.int .i64 dd.ser)).alloc (.cells #[.int .i64 s8.kind,.int .i64 s8.acc,.int .i64 s8.nonce,.int .u64 (s8.key:Int),.slice none s8.names.length 0,.int .i64 s8.life,.int .i64 s8.id,.int .u64 (s8.e:Int),.int .u64 (s8.s:Int)] 27)=W:=⟨_,rfl⟩
  rw [e11] at hLB
  try rw [e11]
  have H11:=Lib.hid hLB.1
  obtain ⟨d11,hd11⟩:∃ y,y=dd:=⟨_,rfl⟩
  rw [← hd11] at H11
  clear hLB e11 k6 hlt hne v0 v1 v2 v3 v4 v5 j0 j1 j2 j3 j4 j5 hfd hwd hld hqd x11 hd11
  obtain ⟨m0,m1,m2,m3,m4,m5⟩:=arr6f (H11.out.box)
  have cW:Calls Tryz.prog 28 #[.agg #[.int .i64 d11.next,.slice d11.oA d11.opn.length d11.oc,.slice d11.cA d11.accs.length d11.cc,.slice d11.uA d11.auts.length d11.uc,.slice d11.rA d11.ords.length d11.rc,.int .i64 d11.ser],.int .i64 1,.int .i64 57] W11 (fun e w'=>∃ (AW:Option Addr) (cW:Nat),e=.returned (.tuple #[.agg #[.int .i64 1,.slice AW 1 cW,.int .u64 (k9:Int),.int .i64 5],.int .i64 0])∧Ext W11 w'):=by
   have h:=oWish_any d11 1 57 W11 H11.out.door (by rw [H11.out.auts];have:=HL5.out;omega) (by rw [H11.out.accs];have:=HL5.out;omega)
   rw [H11.out.fro,HA9.out] at h
   exact h.mono (fun e w' ⟨AW,cW,he,_,_,x⟩=>⟨AW,cW,he,x⟩)
  go_upto_region 13 with (go_at_call 28;refine cW.mono ?_;clear cW m0 m1 m2 m3 m4 m5;rintro e w12 ⟨AW,cW,rfl,x12⟩)
  obtain ⟨W12,e12⟩:∃ W,w12.alloc (.cells #[.int .i64 1,.slice AW 1 cW,.int .u64 (k9:Int),.int .i64 5] 55)=W:=⟨_,rfl⟩
  try rw [e12]
  have HBW:Hid (Blk W12 w12.heap.size 55 #[.int .i64 1,.slice AW 1 cW,.int .u64 (k9:Int),.int .i64 5]):=Lib.hid (by rw [← e12];exact Blk.new _ _ _)
  have H12:Hid (LvD w W12 b d11 f5):=Lib.hid (H11.out.later (by rw [← e12];exact x12.alloc _))
  clear e12 x12
  obtain ⟨m0,m1,m2,m3,m4,m5⟩:=arr6f (H12.out.box)
  have cD:Calls Tryz.prog 30 #[.agg #[.int .i64 d11.next,.slice d11.oA d11.opn.length d11.oc,.slice d11.cA d11.accs.length d11.cc,.slice d11.uA d11.auts.length d11.uc,.slice d11.rA d11.ords.length d11.rc,.int .i64 d11.ser],.int .i64 1,.int .i64 4] W12 (fun e w'=>∃ dd:DoorX,e=.returned (.tuple #[.agg #[.int .i64 dd.next,.slice dd.oA dd.opn.length dd.oc,.slice dd.cA dd.accs.length dd.cc,.slice dd.uA dd.auts.length dd.uc,.slice dd.rA dd.ords.length dd.rc,.int .i64 dd.ser],.int .i64 0])∧dd.fro=f6∧DoorW w' w'.heap.size dd∧Ext W12 w'):=by
   have h:=oDone_any d11 1 4 W12 H12.out.door (by rw [H12.out.auts];have:=HL5.out;omega) (by rw [H12.out.accs];have:=HL5.out;omega)
   rw [H12.out.fro,HA10.out] at h
   exact h.mono (fun e w' ⟨dd,he,h1,h2,_,x⟩=>⟨dd,he,h1,h2,x⟩)
  go_upto_region 14 with (go_at_call 30;refine cD.mono ?_;clear cD m0 m1 m2 m3 m4 m5;rintro e w13 ⟨d6,rfl,hf6,hw6,x13⟩)
  obtain ⟨W13,e13⟩:∃ W,w13.alloc (.cells #[.int .i64 d6.next,.slice d6.oA d6.opn.length d6.oc,.slice d6.cA d6.accs.length d6.cc,.slice d6.uA d6.auts.length d6.uc,.slice d6.rA d6.ords.length d6.rc,.int .i64 d6.ser] 43)=W:=⟨_,rfl⟩
  try rw [e13]
  have HB6:Hid (Blk W13 w13.heap.size 43 #[.int .i64 d6.next,.slice d6.oA d6.opn.length d6.oc,.slice d6.cA d6.accs.length d6.cc,.slice d6.uA d6.auts.length d6.uc,.slice d6.rA d6.ords.length d6.rc,.int .i64 d6.ser]):=Lib.hid (by rw [← e13];exact Blk.new _ _ _)
  have HX13:Hid (Ext W12 W13):=Lib.hid (by rw [← e13];exact x13.alloc _)
  have HW6:Hid (DoorW W13 W13.heap.size d6):=Lib.hid (hw6.ext (by rw [← e13];exact (Ext.refl _).alloc _))
  have HF6:=Lib.hid hf6
  clear e13 hf6 hw6 x13
  have HBW2:=Lib.hid (ext_blk HX13.out HBW.out)
  have H13:=Lib.hid (H12.out.later HX13.out)
  have hau:d11.auts=[(⟨1,1,⟨#[97,46,98]⟩,⟨#[49,45,49]⟩,3,7,57⟩:AutR)]:=by have:=H13.out.fro;rw [← HU5.out,← this,dfro_auts]
  obtain ⟨ad,hA,hlt,q0,q1,q2,q3,q4,q5,q6⟩:=reads_aut H13.out.door.aut (j:=0) (x:=(⟨1,1,⟨#[97,46,98]⟩,⟨#[49,45,49]⟩,3,7,57⟩:AutR)) (by rw [hau];rfl)
  rw [show ad.add (0*7)=ad by unfold Addr.add;simp] at q0 q1 q2 q3 q4 q5 q6
  simp only at q0 q1 q2 q3 q4 q5 q6
  obtain ⟨m0,m1,m2,m3,m4,m5⟩:=arr6f (H13.out.box)
  rw [hA,show d11.auts.length=1 by rw [hau];rfl] at m3
  clear hA hlt hau
  go_upto_region 15 with (fail)
  obtain ⟨W14,e14⟩:∃ W,W13.alloc (.cells #[.int .i64 1,.int .i64 1,.string ⟨#[97,46,98]⟩,.string ⟨#[49,45,49]⟩,.int .i64 3,.int .i64 7,.int .i64 57] 69)=W:=⟨_,rfl⟩
  try rw [e14]
  have X14:Ext W13 W14:=by rw [← e14];exact (Ext.refl _).alloc _
  have hb7:=arr7 (show Blk W14 W13.heap.size 69 #[.int .i64 1,.int .i64 1,.string ⟨#[97,46,98]⟩,.string ⟨#[49,45,49]⟩,.int .i64 3,.int .i64 7,.int .i64 57] by rw [← e14];exact Blk.new _ _ _)
  have HX14:=Lib.hid X14
  have hse:=fun W:World=>(eqAut (⟨1,1,⟨#[97,46,98]⟩,⟨#[49,45,49]⟩,3,7,57⟩:AutR) (⟨1,1,⟨#[97,46,98]⟩,⟨#[49,45,49]⟩,3,7,57⟩:AutR) W).trans (by rw [decide_eq_true rfl])
  simp only at hse
  clear e14 X14 m0 m1 m2 m3 m4 m5 q0 q1 q2 q3 q4 q5 q6
  have r0:=hb7.1
  have r1:=hb7.2.1
  have r2:=hb7.2.2.1
  have r3:=hb7.2.2.2.1
  have r4:=hb7.2.2.2.2.1
  have r5:=hb7.2.2.2.2.2.1
  have r6:=hb7.2.2.2.2.2.2
  clear hb7
  go_upto_region 16 with (fail)
  clear r0 r1 r2 r3 r4 r5 r6 hse
  have t0:=(ext_blk HX14.out HBW2.out).cell 0
  have t1:=(ext_blk HX14.out HBW2.out).cell 1
  have t3:=(ext_blk HX14.out HBW2.out).cell 3
  obtain ⟨m0,m1,m2,m3,m4,m5⟩:=arr6f (ext_blk HX14.out HB6.out)
  have cC:=oCheck_any d6 (by rw [← dfro_auts,HF6.out];have:=HL6.out;omega) (by rw [← dfro_accs,HF6.out];have:=HL6.out;omega) W14 (HW6.out.ext HX14.out)
  rw [HF6.out,HA11.out] at cC
  unfold frontV at cC
  have hser:d6.ser=4:=by have:=congrArg (fun f:FroR=>f.ser) HF6.out;rw [← HL6.out.2.2.2];exact this
  rw [hser] at m5 cC
  clear hser
  go_wp2_with (go_at_call 21;refine cC.mono ?_;clear cC;rintro e w15 ⟨rfl,x15⟩)
  go_ret
  exact ⟨rfl,H13.out.ext.trans (HX14.out.trans x15)⟩
def few1 (o:OrdR):Prop:=o.names.length≤10∧o.auths.length≤10
def few2 (a:AutR):Prop:=a.name.size≤200∧a.tok.size≤200
instance (o:OrdR):Decidable (few1 o):=by unfold few1;infer_instance
instance (o:AutR):Decidable (few2 o):=by unfold few2;infer_instance
def fewP (f:FroR):Prop:=(∀ o∈f.ords.take 40,few1 o)∧(∀ a∈f.auts.take 80,few2 a)∧f.opn.length≤70∧f.accs.length≤12∧f.auts.length≤60∧f.ords.length≤30
instance (f:FroR):Decidable (fewP f):=by unfold fewP;infer_instance
def fewQ (q:QueR):Prop:=(∀ s∈q.names.take 12,s.size≤200)∧q.names.length≤12
instance (q:QueR):Decidable (fewQ q):=by unfold fewQ;infer_instance
theorem DoorI.door {w:World} {d:DoorX} (h:DoorI w d) (k:fewP d.fro):DoorW w w.heap.size d:=by
 obtain ⟨k1,k2,k3,k4,k5,k6⟩:=k
 have e6:d.ords.length≤30:=by rw [dfro_ords,List.length_map] at k6;exact k6
 rw [List.take_of_length_le (by omega)] at k1 k2
 have e3:d.opn.length≤70:=k3
 have e4:d.accs.length≤12:=k4
 have e5:d.auts.length≤60:=k5
 refine ⟨⟨h.nx,h.opn,h.oc,by omega,h.ow⟩,h.ser,h.acc,h.cc,by omega,h.cw,h.aut,h.uc,by omega,fun x hx=>?_,h.ord,h.rc,by omega,fun x hx=>?_⟩
 ·have u:=h.uw x hx
  have:=k2 x hx
  exact ⟨u.id,u.acc,u.st,u.fr,u.un,by have:=u.name;omega,by have:=u.tok;omega⟩
 ·have u:=h.rw x hx
  have:=k1 x.o (by rw [dfro_ords];exact List.mem_map.2 ⟨x,hx,rfl⟩)
  exact ⟨u.id,u.acc,u.key,u.life,u.st,u.ser,u.names,u.nc,by have:=this.1;omega,fun s hs=>by have:=u.ns s hs;omega,u.auths,u.ac,by have:=this.2;omega,u.aw⟩
theorem QueI.que {w:World} {q:QueR} {A:Option Addr} {c:Nat} (h:QueI w q A c) (k:fewQ q):QueW w w.heap.size q A c :=
 ⟨h.kind,h.acc,h.nonce,h.key,h.life,h.id,h.e,h.s,h.names,h.nc,by have:=k.2;omega,fun s hs=>by have:=h.ns s hs;omega⟩
theorem DoorI.ext {w w':World} {d:DoorX} (h:DoorI w d) (x:Ext w w'):DoorI w' d :=
 ⟨h.nx,h.ser,(h.opn.below x.out).more x.size,h.oc,h.ocr,h.ow,(h.acc.below x.out).more x.size,h.cc,h.ccr,h.cw,(h.aut.below x.out).more x.size,h.uc,h.ucr,h.uw,(h.ord.below x.out).more x.size,h.rc,h.rcr,
  fun y hy=>⟨(h.rw y hy).id,(h.rw y hy).acc,(h.rw y hy).key,(h.rw y hy).life,(h.rw y hy).st,(h.rw y hy).ser,((h.rw y hy).names.below x.out).more x.size,(h.rw y hy).nc,(h.rw y hy).nr,(h.rw y hy).ns,((h.rw y hy).auths.below x.out).more x.size,(h.rw y hy).ac,(h.rw y hy).ar,(h.rw y hy).aw⟩⟩
theorem QueI.ext {w w':World} {q:QueR} {A:Option Addr} {c:Nat} (h:QueI w q A c) (x:Ext w w'):QueI w' q A c :=
 ⟨h.kind,h.acc,h.nonce,h.key,h.life,h.id,h.e,h.s,(h.names.below x.out).more x.size,h.nc,h.nr,h.ns⟩
theorem take_all {α:Type} {p:α→Prop} {l:List α} {j n:Nat} (h:∀ x∈l.take j,p x) (hj:¬ (j<l.length∧j<n)):∀ x∈l.take n,p x:=fun x hx=>by
 refine h x ?_
 by_cases h1:j<l.length
 ·have h2:¬ j<n:=fun h2=>hj ⟨h1,h2⟩
  exact (List.take_subset_take_left l (by omega)) hx
 ·rw [List.take_of_length_le (by omega)];exact List.mem_of_mem_take hx
theorem take_no {α:Type} {p:α→Prop} {l:List α} {j n:Nat} {x:α} (hx:l[j]?=some x) (hj:j<n) (h:¬ p x):¬ ∀ x∈l.take n,p x:=fun k=>h (k x (by
 have:(l.take n)[j]?=some x:=by rw [List.getElem?_take,if_pos hj];exact hx
 exact List.mem_of_getElem? this))
theorem take_succ_all {α:Type} {p:α→Prop} {l:List α} {j:Nat} {x:α} (hx:l[j]?=some x) (h:∀ x∈l.take j,p x) (k:p x):∀ x∈l.take (j+1),p x:=fun y hy=>by
 rw [List.take_add_one,hx] at hy
 simp only [Option.toList_some,List.mem_append,List.mem_singleton] at hy
 rcases hy with hy|rfl
 ·exact h y hy
 ·exact k
theorem FewQ_any (q:QueR) (A:Option Addr) (c:Nat) (w:World) (hq:QueI w q A c):Calls Tryz.prog 13 #[queV q A c] w fun e w'=>e=.returned (.bool (decide (fewQ q)))∧Ext w w':=by
 obtain ⟨W0,e0⟩:∃ W,w.alloc (.cells #[.int .i64 q.kind,.int .i64 q.acc,.int .i64 q.nonce,.int .u64 (q.key:Int),.slice A q.names.length c,.int .i64 q.life,.int .i64 q.id,.int .u64 (q.e:Int),.int .u64 (q.s:Int)] 27)=W:=⟨_,rfl⟩
 have x0:Ext w W0:=by rw [← e0];exact (Ext.refl w).alloc _
 have b0:Blk W0 w.heap.size 27 #[.int .i64 q.kind,.int .i64 q.acc,.int .i64 q.nonce,.int .u64 (q.key:Int),.slice A q.names.length c,.int .i64 q.life,.int .i64 q.id,.int .u64 (q.e:Int),.int .u64 (q.s:Int)]:=by rw [← e0];exact Blk.new _ _ _
 obtain ⟨k0,k1,k2,k3,k4,k5,k6,k7,k8⟩:=arr9 b0
 have HR:=Lib.hid ((hq.names.below x0.out).more x0.size)
 have HX0:=Lib.hid x0
 have HC:Hid (q.names.length≤140737488351232):=Lib.hid (by have:=hq.nc;have:=hq.nr;omega)
 unfold queV
 clear hq x0 b0 k0 k1 k2 k3 k5 k6 k7 k8
 go_enter Tryz.func13,Tryz.ntmps13
 go_upto_region 1 with (fail)
 try rw [e0]
 clear e0
 go_wp2
 go_loopg [3] 13 (fun m s3 wr=>∃ j:Nat,j+m=13∧s3=.int .i64 j∧j≤12∧(∀ s∈q.names.take j,s.size≤200)∧Ext W0 wr)
 case atStart=>exact ⟨0,by omega,rfl,by omega,by simp,Ext.refl W0⟩
 case round =>
  obtain ⟨j,hj,rfl,hj12,hok,hx⟩:=hrel
  have k4:=hx.cell k4
  have HX:=Lib.hid hx
  have HJ:=Lib.hid hj
  have HOK:=Lib.hid hok
  by_cases h:j<q.names.length
  ·obtain ⟨s,hs⟩:∃ s,q.names[j]?=some s:=⟨_,List.getElem?_eq_getElem h⟩
   obtain ⟨ad,hA,q0⟩:=reads_text (HR.out.below hx.out) hs
   have d1:decide (j<q.names.length)=true:=decide_eq_true h
   have hjl:(j:Int)<(q.names.length:Int):=by omega
   have hl:=HC.out
   by_cases h2:j<12
   ·have d2:(j:Int)<12:=by omega
    by_cases h3:s.size≤200
    ·have d3:¬ (200:Int)<(s.size:Int):=by omega
     have HOK2:=Lib.hid (take_succ_all hs hok h3)
     subst hA
     clear hx hj hok h3 hs h hl
     go_wp2
     have hj:=HJ.out
     go_roundg (gk-1)
     case measure=>omega
     case rel=>exact ⟨j+1,by omega,int_congr (by omega),by omega,HOK2.out,HX.out⟩
    ·have d3:(200:Int)<(s.size:Int):=by omega
     have HN:Hid (decide (fewQ q)=false):=Lib.hid (decide_eq_false fun k=>take_no hs h2 h3 k.1)
     subst hA
     clear hx hj hok h3 hs h hl
     go_wp2
     go_ret
     exact ⟨ret_bool HN.out.symm,HX0.out.trans HX.out⟩
   ·have d2:¬ (j:Int)<12:=by omega
    have HB:Hid (decide ((q.names.length:Int)≤12)=decide (fewQ q)):=Lib.hid (by
     rw [decide_eq_decide]
     exact ⟨fun h=>⟨take_all hok (by omega),by omega⟩,fun h=>by have:=h.2;omega⟩)
    subst hA
    clear hx hj hok hs h hl
    go_wp2
    go_ret
    exact ⟨ret_bool HB.out,HX0.out.trans HX.out⟩
  ·have d1:decide (j<q.names.length)=false:=decide_eq_false h
   have HB:Hid (decide ((q.names.length:Int)≤12)=decide (fewQ q)):=Lib.hid (by
    rw [decide_eq_decide]
    exact ⟨fun h=>⟨take_all hok (by omega),by omega⟩,fun h=>by have:=h.2;omega⟩)
   have hjl:¬ (j:Int)<(q.names.length:Int):=by omega
   clear hx hj hok h
   go_wp2
   go_ret
   exact ⟨ret_bool HB.out,HX0.out.trans HX.out⟩
theorem map_take_all {l:List OrdX} {j n:Nat} {p:OrdR→Prop} (h:∀ o∈(l.map (·.o)).take j,p o) (hj:¬ (j<l.length∧j<n)):∀ o∈(l.map (·.o)).take n,p o:=take_all h (by rw [List.length_map];exact hj)
theorem Few_any (d:DoorX) (w:World) (hd:DoorI w d):Calls Tryz.prog 23 #[frontV d] w fun e w'=>e=.returned (.bool (decide (fewP d.fro)))∧Ext w w':=by
 obtain ⟨W0,e0⟩:∃ W,w.alloc (.cells #[.int .i64 d.next,.slice d.oA d.opn.length d.oc,.slice d.cA d.accs.length d.cc,.slice d.uA d.auts.length d.uc,.slice d.rA d.ords.length d.rc,.int .i64 d.ser] 43)=W:=⟨_,rfl⟩
 have x0:Ext w W0:=by rw [← e0];exact (Ext.refl w).alloc _
 have b0:Blk W0 w.heap.size 43 #[.int .i64 d.next,.slice d.oA d.opn.length d.oc,.slice d.cA d.accs.length d.cc,.slice d.uA d.auts.length d.uc,.slice d.rA d.ords.length d.rc,.int .i64 d.ser]:=by rw [← e0];exact Blk.new _ _ _
 obtain ⟨k0,k1,k2,k3,k4,k5⟩:=arr6f b0
 have HD:=Lib.hid hd
 have HDI:=Lib.hid (hd.ext x0)
 have HX0:=Lib.hid x0
 unfold frontV
 clear hd x0 b0 k0 k5
 go_enter Tryz.func23,Tryz.ntmps23
 go_upto_region 1 with (fail)
 try rw [e0]
 clear e0
 go_wp2
 go_loopg [3] 41 (fun m s3 wr=>∃ j:Nat,j+m=41∧s3=.int .i64 j∧j≤40∧(∀ o∈(d.ords.map (·.o)).take j,few1 o)∧wr=W0)
 case atStart=>exact ⟨0,by omega,rfl,by omega,by simp,rfl⟩
 case round =>
  obtain ⟨j,hj,rfl,hj40,hok,rfl⟩:=hrel
  have HJ:=Lib.hid hj
  have HOK:=Lib.hid hok
  clear hj hok
  go_upto_region 2 with (fail)
  go_cut [13] (fun s13 wx=>wx=wr∧s13=.bool (decide (j<d.ords.length∧j<40)))
  case first =>
   by_cases h1:j<d.ords.length
   ·have d1:decide (j<d.ords.length)=true:=decide_eq_true h1
    by_cases h2:j<40
    ·have d2:(j:Int)<40:=by omega
     go_wp2
     go_meet
     exact ⟨rfl,by simp [h1,h2]⟩
    ·have d2:¬ (j:Int)<40:=by omega
     go_wp2
     go_meet
     exact ⟨rfl,by simp [h1,h2]⟩
   ·have d1:decide (j<d.ords.length)=false:=decide_eq_false h1
    go_wp2
    go_meet
    exact ⟨rfl,by simp [h1]⟩
  case rest =>
   obtain ⟨hw,rfl⟩:=hcut
   rw [hw]
   clear hw
   by_cases h:j<d.ords.length∧j<40
   ·rw [decide_eq_true h]
    obtain ⟨h1,h2⟩:=h
    obtain ⟨x,hx⟩:∃ s,d.ords[j]?=some s:=⟨_,List.getElem?_eq_getElem h1⟩
    have hxo:(d.ords.map (·.o))[j]?=some x.o:=by rw [List.getElem?_map,hx];rfl
    obtain ⟨ad,hA,hlt,q0,q1,q2,q3,q4,q5,q6,q7⟩:=reads_ord HDI.out.ord hx
    have hjl:(j:Int)<(d.ords.length:Int):=by omega
    have hj2:(j:Int)≤40:=by omega
    rw [hA] at k4
    by_cases g1:x.o.names.length≤10
    case neg =>
     have HN:Hid (decide (fewP d.fro)=false):=Lib.hid (decide_eq_false fun k=>take_no hxo h2 (fun q=>g1 q.1) k.1)
     have d1:(10:Int)<(x.o.names.length:Int):=by omega
     clear g1 h1 h2 hx hxo hA hlt q0 q1 q3 q4 q6 q7
     go_wp2
     go_ret
     exact ⟨ret_bool HN.out.symm,HX0.out⟩
    have d1:¬ (10:Int)<(x.o.names.length:Int):=by omega
    by_cases g2:x.o.auths.length≤10
    case neg =>
     have HN:Hid (decide (fewP d.fro)=false):=Lib.hid (decide_eq_false fun k=>take_no hxo h2 (fun q=>g2 q.2) k.1)
     have d2:(10:Int)<(x.o.auths.length:Int):=by omega
     clear g1 g2 h1 h2 hx hxo hA hlt q0 q1 q3 q4 q6 q7
     go_wp2
     go_ret
     exact ⟨ret_bool HN.out.symm,HX0.out⟩
    have d2:¬ (10:Int)<(x.o.auths.length:Int):=by omega
    have HOK2:=Lib.hid (take_succ_all hxo HOK.out ⟨g1,g2⟩)
    clear g1 g2 hx hxo hA hlt q0 q1 q3 q4 q6 q7 h1
    go_wp2
    have hj:=HJ.out
    go_roundg (gk-1)
    case measure=>omega
    case rel=>exact ⟨j+1,by omega,int_congr (by omega),by omega,HOK2.out,rfl⟩
   ·rw [decide_eq_false h]
    have HO:Hid (∀ o∈d.fro.ords.take 40,few1 o):=Lib.hid (map_take_all HOK.out h)
    obtain ⟨W1,hW1⟩:∃ W,W=wr:=⟨_,rfl⟩
    rw [← hW1] at HX0 HDI k1 k2 k3 k4 ⊢
    clear h HOK HJ hj40 hW1
    go_wp2
    go_loopg [4] 81 (fun m s4 wz=>∃ j:Nat,j+m=81∧s4=.int .i64 j∧j≤80∧(∀ o∈d.auts.take j,few2 o)∧wz=W1)
    case atStart=>exact ⟨0,by omega,rfl,by omega,by simp,rfl⟩
    case round =>
     obtain ⟨i,hi,rfl,hi80,hok,rfl⟩:=hrel
     have HI:=Lib.hid hi
     have HOK:=Lib.hid hok
     clear hi hok
     go_upto_region 7 with (fail)
     go_cut [42] (fun s42 wx=>wx=wr∧s42=.bool (decide (i<d.auts.length∧i<80)))
     case first =>
      by_cases h1:i<d.auts.length
      ·have d1:decide (i<d.auts.length)=true:=decide_eq_true h1
       by_cases h2:i<80
       ·have d2:(i:Int)<80:=by omega
        go_wp2
        go_meet
        exact ⟨rfl,by simp [h1,h2]⟩
       ·have d2:¬ (i:Int)<80:=by omega
        go_wp2
        go_meet
        exact ⟨rfl,by simp [h1,h2]⟩
      ·have d1:decide (i<d.auts.length)=false:=decide_eq_false h1
       go_wp2
       go_meet
       exact ⟨rfl,by simp [h1]⟩
     case rest =>
      obtain ⟨hw,rfl⟩:=hcut
      rw [hw]
      clear hw
      by_cases h:i<d.auts.length∧i<80
      ·rw [decide_eq_true h]
       obtain ⟨h1,h2⟩:=h
       obtain ⟨x,hx⟩:∃ s,d.auts[i]?=some s:=⟨_,List.getElem?_eq_getElem h1⟩
       obtain ⟨ad,hA,hlt,q0,q1,q2,q3,q4,q5,q6⟩:=reads_aut HDI.out.aut hx
       have hjl:(i:Int)<(d.auts.length:Int):=by omega
       have hj2:(i:Int)≤80:=by omega
       rw [hA] at k3
       by_cases g1:x.name.size≤200
       case neg =>
        have HN:Hid (decide (fewP d.fro)=false):=Lib.hid (decide_eq_false fun k=>take_no hx h2 (fun q=>g1 q.1) k.2.1)
        have d1:(200:Int)<(x.name.size:Int):=by omega
        clear g1 h1 h2 hx hA hlt q0 q1 q4 q5 q6
        go_wp2
        go_ret
        exact ⟨ret_bool HN.out.symm,HX0.out⟩
       have d1:¬ (200:Int)<(x.name.size:Int):=by omega
       by_cases g2:x.tok.size≤200
       case neg =>
        have HN:Hid (decide (fewP d.fro)=false):=Lib.hid (decide_eq_false fun k=>take_no hx h2 (fun q=>g2 q.2) k.2.1)
        have d2:(200:Int)<(x.tok.size:Int):=by omega
        clear g1 g2 h1 h2 hx hA hlt q0 q1 q4 q5 q6
        go_wp2
        go_ret
        exact ⟨ret_bool HN.out.symm,HX0.out⟩
       have d2:¬ (200:Int)<(x.tok.size:Int):=by omega
       have HOK2:=Lib.hid (take_succ_all hx HOK.out ⟨g1,g2⟩)
       clear g1 g2 hx hA hlt q0 q1 q4 q5 q6 h1
       go_wp2
       have hi:=HI.out
       go_roundg (gk-1)
       case measure=>omega
       case rel=>exact ⟨i+1,by omega,int_congr (by omega),by omega,HOK2.out,rfl⟩
      ·rw [decide_eq_false h]
       have HU:Hid (∀ o∈d.fro.auts.take 80,few2 o):=Lib.hid (take_all HOK.out h)
       clear h HOK HI hi80
       have hno:¬ (d.opn.length≤70∧d.accs.length≤12∧d.auts.length≤60∧d.ords.length≤30)→decide (fewP d.fro)=false:=fun h=>decide_eq_false fun k=>h ⟨k.2.2.1,k.2.2.2.1,k.2.2.2.2.1,by have:=k.2.2.2.2.2;rw [dfro_ords,List.length_map] at this;exact this⟩
       have hyes:(d.opn.length≤70∧d.accs.length≤12∧d.auts.length≤60∧d.ords.length≤30)→decide (fewP d.fro)=true:=fun h=>decide_eq_true ⟨HO.out,HU.out,h.1,h.2.1,h.2.2.1,by rw [dfro_ords,List.length_map];exact h.2.2.2⟩
       by_cases g1:d.opn.length≤70
       case neg =>
        have HN:=Lib.hid (hno fun h=>g1 h.1)
        have d1:¬ (d.opn.length:Int)≤70:=by omega
        clear g1 hno hyes
        go_wp2
        go_ret
        exact ⟨ret_bool HN.out.symm,HX0.out⟩
       have d1:(d.opn.length:Int)≤70:=by omega
       by_cases g2:d.accs.length≤12
       case neg =>
        have HN:=Lib.hid (hno fun h=>g2 h.2.1)
        have d2:¬ (d.accs.length:Int)≤12:=by omega
        clear g1 g2 hno hyes
        go_wp2
        go_ret
        exact ⟨ret_bool HN.out.symm,HX0.out⟩
       have d2:(d.accs.length:Int)≤12:=by omega
       by_cases g3:d.auts.length≤60
       case neg =>
        have HN:=Lib.hid (hno fun h=>g3 h.2.2.1)
        have d3:¬ (d.auts.length:Int)≤60:=by omega
        clear g1 g2 g3 hno hyes
        go_wp2
        go_ret
        exact ⟨ret_bool HN.out.symm,HX0.out⟩
       have d3:(d.auts.length:Int)≤60:=by omega
       by_cases g4:d.ords.length≤30
       case neg =>
        have HN:=Lib.hid (hno fun h=>g4 h.2.2.2)
        have d4:¬ (d.ords.length:Int)≤30:=by omega
        clear g1 g2 g3 g4 hno hyes
        go_wp2
        go_ret
        first|exact ⟨ret_bool HN.out.symm,HX0.out⟩|exact ⟨ret_bool (by rw [HN.out];simp;omega),HX0.out⟩
       have d4:(d.ords.length:Int)≤30:=by omega
       have HN:=Lib.hid (hyes ⟨g1,g2,g3,g4⟩)
       clear g1 g2 g3 g4 hno hyes
       go_wp2
       go_ret
       first|exact ⟨ret_bool HN.out.symm,HX0.out⟩|exact ⟨ret_bool (by rw [HN.out];simp;omega),HX0.out⟩
theorem few22_any (d:DoorX) (q:QueR) (A:Option Addr) (c:Nat) (w:World) (hd:DoorI w d) (hq:QueI w q A c) :
  Calls Tryz.prog 17 #[frontV d,queV q A c] w fun e w'=>e=.returned (.bool (decide (fewP d.fro∧fewQ q)))∧Ext w w':=by
 obtain ⟨W0,e0,b0,b1,x0,s0⟩:=startP w #[.int .i64 d.next,.slice d.oA d.opn.length d.oc,.slice d.cA d.accs.length d.cc,.slice d.uA d.auts.length d.uc,.slice d.rA d.ords.length d.rc,.int .i64 d.ser] #[.int .i64 q.kind,.int .i64 q.acc,.int .i64 q.nonce,.int .u64 (q.key:Int),.slice A q.names.length c,.int .i64 q.life,.int .i64 q.id,.int .u64 (q.e:Int),.int .u64 (q.s:Int)] 43 27
 have c1:=Few_any d W0 (hd.ext x0)
 have c2:=fun W (x:Ext W0 W)=>FewQ_any q A c W (hq.ext (x0.trans x))
 have HB1:=Lib.hid b1
 have HX0:=Lib.hid x0
 obtain ⟨k0,k1,k2,k3,k4,k5⟩:=arr6f b0
 unfold frontV queV at *
 clear b0 b1 x0 s0 hd hq
 by_cases h1:fewP d.fro
 ·rw [decide_eq_true h1] at c1
  have HH:Hid (decide (fewQ q)=decide (fewP d.fro∧fewQ q)):=Lib.hid (by simp [h1])
  clear h1
  go_enter Tryz.func17,Tryz.ntmps17
  go_upto_region 1 with (fail)
  try rw [e0]
  clear e0
  go_wp2_with (first
   | (go_at_call 23;refine c1.mono ?_;clear c1;rintro e w1 ⟨rfl,x1⟩;obtain ⟨n0,n1,n2,n3,n4,n5,n6,n7,n8⟩:=arr9 (ext_blk x1 HB1.out))
   | (go_at_call 13;refine (c2 _ x1).mono ?_;clear c2;rintro e w2 ⟨rfl,x2⟩))
  go_ret
  exact ⟨ret_bool HH.out,HX0.out.trans (x1.trans x2)⟩
 ·rw [decide_eq_false h1] at c1
  have HH:Hid (false=decide (fewP d.fro∧fewQ q)):=Lib.hid (by simp [h1])
  clear h1
  go_enter Tryz.func17,Tryz.ntmps17
  go_upto_region 1 with (fail)
  try rw [e0]
  clear e0
  go_wp2_with (go_at_call 23;refine c1.mono ?_;clear c1;rintro e w1 ⟨rfl,x1⟩)
  go_ret
  exact ⟨ret_bool HH.out,HX0.out.trans x1⟩
def few4 (o:OpR):Prop:=o.names.length≤4∧∀ s∈o.names,s.size≤100
instance (o:OpR):Decidable (few4 o):=by unfold few4;infer_instance
def fewS (l:List OpR):Prop:=(∀ o∈l.take 30,few4 o)∧l.length≤20
instance (l:List OpR):Decidable (fewS l):=by unfold fewS;infer_instance
instance (l:List (Int × ByteArray × Int)) (a:Int) (n:ByteArray) (t:Int):Decidable (hadP l a n t):=by unfold hadP;infer_instance
def set8 (W:World) (g a:Nat) (y:OrdX):World:=((((((((W.setCell ⟨g,a*8,none⟩ (.int .i64 y.o.id)).setCell ⟨g,a*8+1,none⟩ (.int .i64 y.o.acc)).setCell ⟨g,a*8+2,none⟩ (.slice y.nA y.o.names.length y.nc)).setCell ⟨g,a*8+3,none⟩ (.int .u64 (y.o.key:Int))).setCell ⟨g,a*8+4,none⟩ (.int .i64 y.o.life)).setCell ⟨g,a*8+5,none⟩ (.slice y.aA y.o.auths.length y.ac)).setCell ⟨g,a*8+6,none⟩ (.int .i64 y.o.st)).setCell ⟨g,a*8+7,none⟩ (.int .i64 y.o.ser))
theorem ord_put8 {w:World} {base g cap n:Nat} {l:List OrdX} (h:w.ownsRow base 78 8 (.slice (some ⟨g,0,none⟩) n cap) n (ordV l)) {a:Nat} {x:OrdX} (hx:l[a]?=some x) (y:OrdX) :
  (set8 w g a y).ownsRow base 78 8 (.slice (some ⟨g,0,none⟩) n cap) n (ordV (l.set a y)):=by
 obtain ⟨o0,h0⟩:=ord_put h hx (i:=0) (u:=.int .i64 y.o.id) (y:={ x with o:={ x.o with id:=y.o.id } }) (by decide) rfl
 obtain ⟨o1,h1⟩:=ord_put o0 h0 (i:=1) (u:=.int .i64 y.o.acc) (y:={ x with o:={ x.o with id:=y.o.id,acc:=y.o.acc } }) (by decide) rfl
 obtain ⟨o2,h2⟩:=ord_put o1 h1 (i:=2) (u:=.slice y.nA y.o.names.length y.nc) (y:={ x with o:={ x.o with id:=y.o.id,acc:=y.o.acc,names:=y.o.names },nA:=y.nA,nc:=y.nc }) (by decide) rfl
 obtain ⟨o3,h3⟩:=ord_put o2 h2 (i:=3) (u:=.int .u64 (y.o.key:Int)) (y:={ x with o:={ x.o with id:=y.o.id,acc:=y.o.acc,names:=y.o.names,key:=y.o.key },nA:=y.nA,nc:=y.nc }) (by decide) rfl
 obtain ⟨o4,h4⟩:=ord_put o3 h3 (i:=4) (u:=.int .i64 y.o.life) (y:={ x with o:={ x.o with id:=y.o.id,acc:=y.o.acc,names:=y.o.names,key:=y.o.key,life:=y.o.life },nA:=y.nA,nc:=y.nc }) (by decide) rfl
 obtain ⟨o5,h5⟩:=ord_put o4 h4 (i:=5) (u:=.slice y.aA y.o.auths.length y.ac) (y:={ x with o:={ x.o with id:=y.o.id,acc:=y.o.acc,names:=y.o.names,key:=y.o.key,life:=y.o.life,auths:=y.o.auths },nA:=y.nA,nc:=y.nc,aA:=y.aA,ac:=y.ac }) (by decide) rfl
 obtain ⟨o6,h6⟩:=ord_put o5 h5 (i:=6) (u:=.int .i64 y.o.st) (y:={ x with o:={ x.o with id:=y.o.id,acc:=y.o.acc,names:=y.o.names,key:=y.o.key,life:=y.o.life,auths:=y.o.auths,st:=y.o.st },nA:=y.nA,nc:=y.nc,aA:=y.aA,ac:=y.ac }) (by decide) rfl
 obtain ⟨o7,h7⟩:=ord_put o6 h6 (i:=7) (u:=.int .i64 y.o.ser) (y:=y) (by decide) rfl
 simp only [List.set_set] at o7
 exact o7
theorem grown8 (w:World) (g a:Nat) (y:OrdX):w.grownBy (set8 w g a y) (some g):=by
 unfold set8
 exact (((((((grown_set _ _ _ _).trans (grown_set _ _ _ _)).trans (grown_set _ _ _ _)).trans (grown_set _ _ _ _)).trans (grown_set _ _ _ _)).trans (grown_set _ _ _ _)).trans (grown_set _ _ _ _)).trans (grown_set _ _ _ _)
theorem far_set8 {w:World} {b:Nat} {T:TypeId} {cs:Array Value} (h:Blk w b T cs) {g:Nat} (hb:b≠g) (a:Nat) (y:OrdX):Blk (set8 w g a y) b T cs:=Blk.grown h (grown8 w g a y) (by simpa using hb)
theorem own_form {w:World} {base:Nat} {e:TypeId} {size n:Nat} {v:Value} {xs:List Value} (h:w.ownsRow base e size v n xs) (hn:0<n):∃ g cap,v=.slice (some ⟨g,0,none⟩) n cap∧base≤g∧n≤cap∧g<w.heap.size:=by
 rcases h.2 with ⟨h',h0⟩|⟨g,cap,cur,rfl,hb,hg,hnc,-⟩
 ·omega
 ·exact ⟨g,cap,rfl,hb,hnc,(h.lt g rfl).2⟩
theorem reight_any (n:Nat) (hn:n<18446744073709551616) (w:World) :
  Calls Tryz.prog 44 #[.int .u64 n] w fun e w'=>∃ v,e=.returned v∧w'.ownsRow w.heap.size 5 1 v 8 (bv (bigD 8 n))∧Ext w w':=by
 obtain ⟨i0,hi,hz0,hz1,hz2⟩:=info_parts Tryz.infoU8
 go_enter Tryz.func44,Tryz.ntmps44
 go_upto_region 3 with (fail)
 obtain ⟨W0,e0⟩:∃ W,w.alloc (.cells #[] 5)=W:=⟨_,rfl⟩
 try rw [e0]
 have HX0:Hid (Ext w W0):=Lib.hid (by rw [← e0];exact (Ext.refl w).alloc _)
 have HO0:Hid (W0.ownsRow w.heap.size 5 1 (.slice (some ⟨w.heap.size,0,none⟩) 0 0) 0 []):=Lib.hid (by rw [← e0];exact own_empty w _ _ rfl (Nat.le_refl _) _ _)
 have HS0:Hid (w.heap.size≤W0.heap.size):=Lib.hid HX0.out.size
 clear e0
 have HN:=Lib.hid hn
 go_loopg [3,4] 8 (fun m s3 s4 wr=>∃ (j:Nat) (v:Value),j+m=8∧s3=v∧s4=.int .i64 ((7:Int)-j)∧wr.ownsRow w.heap.size 5 1 v (beN n 8 j).length (bv (beN n 8 j))∧Ext w wr)
 case atStart=>exact ⟨0,_,rfl,rfl,int_congr (by omega),by simpa [beN,bv] using HO0.out,HX0.out⟩
 case round =>
  obtain ⟨j,v,hj,hv,rfl,ho,hx⟩:=hrel
  rw [hv]
  clear hv
  by_cases h:j<8
  ·obtain ⟨i,hij⟩:∃ i:Nat,(7:Int)-j=i:=⟨7-j,by omega⟩
   rw [hij]
   have hi7:(i:Int)≤7:=by omega
   obtain ⟨q,hq⟩:∃ q,q=n / 2 ^ (8*i):=⟨_,rfl⟩
   obtain ⟨r,hr⟩:∃ r,r=q % 256:=⟨_,rfl⟩
   have hql:q<18446744073709551616:=by rw [hq];exact Nat.lt_of_le_of_lt (Nat.div_le_self _ _) hn
   have k1:(n:Int) / 2 ^ (8*i)=(q:Int):=by rw [hq];simp
   have k2:bits BinOp.and IntKind.u64 (q:Int) 255=(r:Int):=by
    rw [show (255:Int)=((255:Nat):Int) from rfl,bits_and_u64_nat q 255 hql (by decide),hr]
    congr 1
    exact Nat.and_two_pow_sub_one_eq_mod q 8
   have k3:(r:Int) % 256=(r:Int):=by omega
   have hrb:r=n / 2 ^ (8*(8-1-j)) % 256:=by rw [hr,hq];congr 3;omega
   have hlen:(beN n 8 j).length≤8:=by rw [beN_length];omega
   obtain ⟨L,hLL⟩:∃ L,L=beN n 8 j:=⟨_,rfl⟩
   rw [← hLL] at ho hlen
   have HLL:=Lib.hid hLL
   have HRB:=Lib.hid hrb
   have HJ:=Lib.hid hj
   have HI:=Lib.hid hij
   have HLN:=Lib.hid hlen
   have HO2:=Lib.hid ho
   have HX:=Lib.hid hx
   clear hLL hrb hj hij hlen ho hx h hql hq hr
   go_wp2_with (at_builtin;refine wpList_append_any _ rfl (.tmp 10) (.tmp 18) 30 rfl w.heap.size 5 i0 (.int .u8 0) 1 1 Tryz.underlying30 hi hz0 hz1 hz2 rfl (by decide) v L.length (bv L) rfl (HO2.out.alloc _) _ (some ⟨wr.heap.size,0,none⟩) 1 1 [.int .u8 (r:Int)] rfl (reads_newL wr _ _) (by simp [Value.oneCell']) (by have:=HLN.out;simp only [maxLen];omega) (by have:=HLN.out;omega) (by have:=HX.out.size;simp;omega) ?_;intro v9 w9 hown9 hg9 _;have HX9:Hid (Ext w w9):=Lib.hid (ext_grown (HX.out.alloc _) (HO2.out.alloc _) hg9);have HO9:=Lib.hid hown9;clear hown9 hg9)
   have hj:=HJ.out
   have hij:=HI.out
   go_roundg (gk-1)
   case measure=>omega
   case rel =>
    refine ⟨j+1,_,by omega,rfl,int_congr (by omega),?_,HX9.out⟩
    have e:beN n 8 (j+1)=L++[r]:=by rw [beN_succ,HLL.out,HRB.out]
    rw [e,List.length_append,bv_append]
    exact HO9.out
  ·obtain rfl:j=8:=by omega
   have HO:=Lib.hid ho
   have HX:=Lib.hid hx
   clear ho hx hj h
   go_wp2
   refine bodyPost_ret (v:=v) (by simp [results,Tryz.results44,go_sem]) rfl ⟨v,rfl,?_,HX.out⟩
   rw [← be_big]
   have e:=HO.out
   rw [beN_length] at e
   exact e
