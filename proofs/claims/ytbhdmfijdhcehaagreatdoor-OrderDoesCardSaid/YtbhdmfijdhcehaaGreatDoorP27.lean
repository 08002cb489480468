/- Parts of the proofs, put together: OrR4. -/
import Derived.Test.YtbhdmfijdhcehaaGreatDoorP25
set_option maxRecDepth 100000
set_option maxHeartbeats 64000000
namespace Go.Proofs.YtbhdmfijdhcehaaGreatDoor
open Go.RowKit Go.Shelf Go.Maps
set_option linter.unusedSimpArgs false
set_option linter.unusedVariables false
theorem live_r4 {Q:Exit→Act→World→Prop} {c0 c2 c3 c4 c5 c6 c7 c8 c9 c10 c11 c12 c13 c14 c15 c16 c17 c18 c19 c20 c21 c22 c23 c24 c25 c26 c27 c28 c29 c30 c31 c32 c33 c34 c35 c36 c37 c38 c39 c40 c41 c42 c43 c44 c45 c46 c47 c48 c49 c50 c51 c52 c53 c54 c55 c56 c57 c58 c59 c60 c61 c62 c63 c64 c65 c66 c67 c68 c69 c70 c71 c72 c73 c74 c75 c76 c77 c78 c79 c80 c81 c82 c83 c84 c85 c86 c87 c88 c89 c90 c91 c92 c93 c94 c95 c96 c97 c98 c99 c100 c101 c102 c103 c104 c105 c106 c107 c108 c109 c110 c111 c112 c113 c114 c115 c116 c117 c118 c119 c120 c121 c122 c123 c124 c125 c126 c127 c128 c129 c130 c131 c132 c133 c134 c135 c136 c137 c138 c139 c140 c141 c142 c143 c144 c145 c146 c147 c148 c149 c150 c151 c152 c153 c154 c155 c156 c157 c158 c159 c160 c161 c162 c163 c164 c165 c166 c167 c168 c169 c170 c171 c172 c173 c174 c175 c176 c177 c178 c179 c180 c181 c182 c183 c184 c185 c186 c187 c188 c189 c190 c191 c192 c193 c194 c195 c196 c197 c198 c199 c200 c201:Value} {w W3:World} {b k9:Nat} {d1:DoorX} {f1:FroR} {f2:FroR} {s2:QueR} (H:Hid (LvD w W3 b d1 f1)) (cK:∀ W,Calls Tryz.prog 39 #[.int .u8 9] W fun e w'=>e=.returned (.int .u64 (k9:Int))∧Ext W w') (cA:∀ W,Ext W3 W→∀ bs,Reads W W.heap.size 1 (some ⟨bs,0,none⟩) 1 (tv [⟨#[97,46,98]⟩])→Calls Tryz.prog 40 #[.agg #[.int .i64 d1.next,.slice d1.oA d1.opn.length d1.oc,.slice d1.cA d1.accs.length d1.cc,.slice d1.uA d1.auts.length d1.uc,.slice d1.rA d1.ords.length d1.rc,.int .i64 d1.ser],.agg #[.int .i64 2,.int .i64 1,.int .i64 0,.int .u64 (k9:Int),.slice (some ⟨bs,0,none⟩) 1 1,.int .i64 5,.int .i64 0,.int .u64 0,.int .u64 0],.int .u8 1,.int .i64 4] W (ansP d1 (some ⟨bs,0,none⟩) 1 f2 s2 1 0 W)) 
  (hQ:∀ (d:DoorX) (b2:Nat) (W':World) (v49 v50 v51 v52 v53 v54 v55 v56 v57 v58:Value),LvD w W' b d f2→Q .normal ⟨#[c0,.pointer (some ⟨b,0,none⟩),c2,c3,c4,c5,c6,c7,.pointer (some ⟨b2,0,none⟩),.int .i64 1,.int .i64 0,c11,c12,c13,c14,c15,c16,c17,c18,c19,c20,c21,c22,c23,c24,c25,c26,c27,c28,c29,c30,c31,c32,c33,c34,c35,c36,c37,c38,c39,c40,c41,c42,c43,c44,c45,c46,c47,c48,v49,v50,v51,v52,v53,v54,v55,v56,v57,v58,c59,c60,c61,c62,c63,c64,c65,c66,c67,c68,c69,c70,c71,c72,c73,c74,c75,c76,c77,c78,c79,c80,c81,c82,c83,c84,c85,c86,c87,c88,c89,c90,c91,c92,c93,c94,c95,c96,c97,c98,c99,c100,c101,c102,c103,c104,c105,c106,c107,c108,c109,c110,c111,c112,c113,c114,c115,c116,c117,c118,c119,c120,c121,c122,c123,c124,c125,c126,c127,c128,c129,c130,c131,c132,c133,c134,c135,c136,c137,c138,c139,c140,c141,c142,c143,c144,c145,c146,c147,c148,c149,c150,c151,c152,c153,c154,c155,c156,c157,c158,c159,c160,c161,c162,c163,c164,c165,c166,c167,c168,c169,c170,c171,c172,c173,c174,c175,c176,c177,c178,c179,c180,c181,c182,c183,c184,c185,c186,c187,c188,c189,c190,c191,c192,c193,c194,c195,c196,c197,c198,c199,c200,c201],[]⟩ W') :
  Code.wp Tryz.prog liveR4 Q ⟨#[c0,.pointer (some ⟨b,0,none⟩),c2,c3,c4,c5,c6,c7,c8,c9,c10,c11,c12,c13,c14,c15,c16,c17,c18,c19,c20,c21,c22,c23,c24,c25,c26,c27,c28,c29,c30,c31,c32,c33,c34,c35,c36,c37,c38,c39,c40,c41,c42,c43,c44,c45,c46,c47,c48,c49,c50,c51,c52,c53,c54,c55,c56,c57,c58,c59,c60,c61,c62,c63,c64,c65,c66,c67,c68,c69,c70,c71,c72,c73,c74,c75,c76,c77,c78,c79,c80,c81,c82,c83,c84,c85,c86,c87,c88,c89,c90,c91,c92,c93,c94,c95,c96,c97,c98,c99,c100,c101,c102,c103,c104,c105,c106,c107,c108,c109,c110,c111,c112,c113,c114,c115,c116,c117,c118,c119,c120,c121,c122,c123,c124,c125,c126,c127,c128,c129,c130,c131,c132,c133,c134,c135,c136,c137,c138,c139,c140,c141,c142,c143,c144,c145,c146,c147,c148,c149,c150,c151,c152,c153,c154,c155,c156,c157,c158,c159,c160,c161,c162,c163,c164,c165,c166,c167,c168,c169,c170,c171,c172,c173,c174,c175,c176,c177,c178,c179,c180,c181,c182,c183,c184,c185,c186,c187,c188,c189,c190,c191,c192,c193,c194,c195,c196,c197,c198,c199,c200,c201],[]⟩ W3:=by
 conv=>arg 2;whnf
 have HC:Hid (∀ W,Ext W3 W→(W.cell? ⟨b,0,none⟩=some (.int .i64 d1.next)∧W.cell? ⟨b,1,none⟩=some (.slice d1.oA d1.opn.length d1.oc)∧W.cell? ⟨b,2,none⟩=some (.slice d1.cA d1.accs.length d1.cc)∧W.cell? ⟨b,3,none⟩=some (.slice d1.uA d1.auts.length d1.uc)∧W.cell? ⟨b,4,none⟩=some (.slice d1.rA d1.ords.length d1.rc)∧W.cell? ⟨b,5,none⟩=some (.int .i64 d1.ser))):=Lib.hid fun W x=>arr6f (ext_blk x H.out.box)
 refine F_start (n:=15) (ls:=#[false,false,false,false,false,false,false,false,false,false,false,false,false,false,false]) (fun w'=>w'.cell? ⟨b,0,none⟩=some (.int .i64 d1.next)∧w'.cell? ⟨b,1,none⟩=some (.slice d1.oA d1.opn.length d1.oc)∧w'.cell? ⟨b,2,none⟩=some (.slice d1.cA d1.accs.length d1.cc)∧w'.cell? ⟨b,3,none⟩=some (.slice d1.uA d1.auts.length d1.uc)∧w'.cell? ⟨b,4,none⟩=some (.slice d1.rA d1.ords.length d1.rc)∧w'.cell? ⟨b,5,none⟩=some (.int .i64 d1.ser)) 11 (by kernel_rfl) (by kernel_rfl) (by kernel_rfl) (HC.out _ (Ext.refl W3).drew) (fun hHeld=>?_)
 refine F_take (i:=0) (some 50) (ls':=#[true,false,false,false,false,false,false,false,false,false,false,false,false,false,false]) rfl rfl (by kernel_rfl) (by kernel_rfl) (by kernel_rfl) (by kernel_rfl) (by kernel_rfl) (by rfl) (v:=?_) ?_ hHeld ?_
 rotate_left 1
 ·intro w hSw;(try dsimp only at hSw);go_simp;try with_reducible rfl
 try simp only [Act.put,zpA,zpB,zpC]
 refine F_some (is:=[1,2,10]) (by kernel_rfl) (by simp) (fun i hi=>?_)
 simp only [List.mem_cons,List.not_mem_nil,or_false] at hi
 rcases hi with rfl|rfl|rfl
 ·refine F_wy (S:=frontS b d1) (L:=11) rfl (by kernel_rfl) (fun K hK=>?_)
  go_simp
  replace hHeld:=HC.out ((W3.alloc (.cells #[.string ⟨#[97,46,98]⟩] 9)).drew) (by with_reducible (repeat (first|assumption|exact Ext.refl _|refine Ext.drew ?_|refine Ext.alloc ?_ _)))
  refine hK _ _ (fun _ _=>hHeld) ?_
  clear hK K
  try simp only [Act.put,zpA,zpB,zpC]
  refine F_some (is:=[2,10]) (by kernel_rfl) (by simp) (fun i hi=>?_)
  simp only [List.mem_cons,List.not_mem_nil,or_false] at hi
  rcases hi with rfl|rfl
  ·refine F_wy (S:=frontS b d1) (L:=11) rfl (by kernel_rfl) (fun K hK=>?_)
   go_simp
   go_at_call 39
   refine (cK _).mono ?_
   rintro e w2 ⟨rfl,x2⟩
   have X2:Ext W3 w2:=Ext.trans (by with_reducible (repeat (first|assumption|exact Ext.refl _|refine Ext.drew ?_|refine Ext.alloc ?_ _))) x2
   have hs2:W3.heap.size+1≤w2.heap.size:=by have hs:((W3.alloc (.cells #[.string ⟨#[97,46,98]⟩] 9))).heap.size=W3.heap.size+1:=(by simp);have h:=x2.size;have h':((W3.alloc (.cells #[.string ⟨#[97,46,98]⟩] 9))).heap.size≤w2.heap.size:=h;omega
   replace hHeld:=HC.out _ X2
   refine hK _ _ (fun _ _=>hHeld) ?_
   clear hK K
   try simp only [Act.put,zpA,zpB,zpC]
   refine F_pr (i:=3) (some 53) (v:=?_) rfl rfl (by kernel_rfl) (fun w=>?_) ?_;rotate_left 1
   ·go_simp;try with_reducible rfl
   try simp only [Act.put,zpA,zpB,zpC]
   refine F_some (is:=[4,10]) (by kernel_rfl) (by simp) (fun i hi=>?_)
   simp only [List.mem_cons,List.not_mem_nil,or_false] at hi
   rcases hi with rfl|rfl
   ·refine F_wy (S:=frontS b d1) (L:=11) rfl (by kernel_rfl) (fun K hK=>?_)
    go_simp
    go_at_call 40
    have hbs:Blk (w2) (W3.heap.size) 9 #[.string ⟨#[97,46,98]⟩]:=(by with_reducible (repeat (first|exact Blk.new _ _ _|exact blk_new1 _ _ _ _|refine Blk.drew ?_|refine Blk.alloc ?_ _|refine ext_blk x3 ?_|refine ext_blk x2 ?_)))
    refine (cA (w2) (by with_reducible (repeat (first|assumption|exact Ext.refl _|refine Ext.drew ?_|refine Ext.alloc ?_ _))) (W3.heap.size) (reads_one hbs)).mono ?_
    rintro e w3 ⟨dd,rfl,hfd,hwd,hld,hqd,x3⟩
    have X3:Ext W3 w3:=Ext.trans (by with_reducible (repeat (first|assumption|exact Ext.refl _|refine Ext.drew ?_|refine Ext.alloc ?_ _))) x3
    have hxw:Ext W3 w2:=(by with_reducible (repeat (first|assumption|exact Ext.refl _|refine Ext.drew ?_|refine Ext.alloc ?_ _)))
    replace hHeld:=HC.out _ X3
    refine hK _ _ (fun _ _=>hHeld) ?_
    clear hK K
    try simp only [Act.put,zpA,zpB,zpC]
    refine F_pr (i:=5) (some 49) (v:=?_) rfl rfl (by kernel_rfl) (fun w=>?_) ?_;rotate_left 1
    ·go_simp;try with_reducible rfl
    try simp only [Act.put,zpA,zpB,zpC]
    refine F_pr (i:=6) (some 55) (v:=?_) rfl rfl (by kernel_rfl) (fun w=>?_) ?_;rotate_left 1
    ·go_simp;try with_reducible rfl
    try simp only [Act.put,zpA,zpB,zpC]
    refine F_pr (i:=7) (some 56) (v:=?_) rfl rfl (by kernel_rfl) (fun w=>?_) ?_;rotate_left 1
    ·go_simp;try with_reducible rfl
    try simp only [Act.put,zpA,zpB,zpC]
    refine F_pr (i:=8) (some 57) (v:=?_) rfl rfl (by kernel_rfl) (fun w=>?_) ?_;rotate_left 1
    ·go_simp;try with_reducible rfl
    try simp only [Act.put,zpA,zpB,zpC]
    refine F_pr (i:=9) (some 58) (v:=?_) rfl rfl (by kernel_rfl) (fun w=>?_) ?_;rotate_left 1
    ·go_simp;try with_reducible rfl
    try simp only [Act.put,zpA,zpB,zpC]
    refine F_some (is:=[10]) (by kernel_rfl) (by simp) (fun i hi=>?_)
    obtain rfl:i=10:=by simpa using hi
    refine F_wy (S:=frontS b d1) (L:=11) rfl (by kernel_rfl) (fun K hK=>?_)
    go_simp
    replace hHeld:=HC.out ((w3.alloc (.cells #[.int .i64 0,.int .i64 0,.int .i64 0,.int .u64 0,.slice none 0 0,.int .i64 0,.int .i64 0,.int .u64 0,.int .u64 0] 27))) (by with_reducible (repeat (first|assumption|exact Ext.refl _|refine Ext.drew ?_|refine Ext.alloc ?_ _)))
    refine hK _ _ (fun _ _=>hHeld) ?_
    clear hK K
    try simp only [Act.put,zpA,zpB,zpC]
    refine F_some (is:=[11]) (by kernel_rfl) (by simp) (fun i hi=>?_)
    obtain rfl:i=11:=by simpa using hi
    refine F_wy (S:=frontS b d1) (L:=11) rfl (by kernel_rfl) (fun K hK=>?_)
    have k6:Blk (w3.alloc (.cells #[.int .i64 0,.int .i64 0,.int .i64 0,.int .u64 0,.slice none 0 0,.int .i64 0,.int .i64 0,.int .u64 0,.int .u64 0] 27)) b 43 #[.int .i64 d1.next,.slice d1.oA d1.opn.length d1.oc,.slice d1.cA d1.accs.length d1.cc,.slice d1.uA d1.auts.length d1.uc,.slice d1.rA d1.ords.length d1.rc,.int .i64 d1.ser]:=ext_blk (by with_reducible (repeat (first|assumption|exact Ext.refl _|refine Ext.drew ?_|refine Ext.alloc ?_ _))) H.out.box
    obtain ⟨v0,v1,v2,v3,v4,v5,f0,f1_,f2_,f3_,f4_,f5_⟩:=st6 k6
    go_simp
    refine hK _ _ (fun h _=>absurd h (by decide)) ?_
    clear hK K
    try simp only [Act.put,zpA,zpB,zpC]
    refine F_some (is:=[12]) (by kernel_rfl) (by simp) (fun i hi=>?_)
    obtain rfl:i=12:=by simpa using hi
    refine F_wy (S:=frontS b d1) (L:=11) rfl (by kernel_rfl) (fun K hK=>?_)
    have k2:Blk (w3.alloc (.cells #[.int .i64 0,.int .i64 0,.int .i64 0,.int .u64 0,.slice none 0 0,.int .i64 0,.int .i64 0,.int .u64 0,.int .u64 0] 27)) (w3.heap.size) 27 #[.int .i64 0,.int .i64 0,.int .i64 0,.int .u64 0,.slice none 0 0,.int .i64 0,.int .i64 0,.int .u64 0,.int .u64 0]:=(by with_reducible (repeat (first|exact Blk.new _ _ _|exact blk_new1 _ _ _ _|refine Blk.drew ?_|refine Blk.alloc ?_ _|refine ext_blk x3 ?_|refine ext_blk x2 ?_)))
    have hne:b<w3.heap.size:=(by have h1:=H.out.box.lt;have h2:=X3.size;omega)
    have k7:=far6 k2 (b:=b) (Nat.ne_of_gt hne) (.int .i64 dd.next) (.slice dd.oA dd.opn.length dd.oc) (.slice dd.cA dd.accs.length dd.cc) (.slice dd.uA dd.auts.length dd.uc) (.slice dd.rA dd.ords.length dd.rc) (.int .i64 dd.ser)
    have k8:=st9 k7
    have g0:=k8.1.1;have g1:=k8.1.2.1;have g2:=k8.1.2.2.1;have g3:=k8.1.2.2.2.1;have g4:=k8.1.2.2.2.2.1;have g5:=k8.1.2.2.2.2.2.1;have g6:=k8.1.2.2.2.2.2.2.1;have g7:=k8.1.2.2.2.2.2.2.2.1;have g8:=k8.1.2.2.2.2.2.2.2.2;have e0:=k8.2.1;have e1:=k8.2.2.1;have e2:=k8.2.2.2.1;have e3:=k8.2.2.2.2.1;have e4:=k8.2.2.2.2.2.1;have e5:=k8.2.2.2.2.2.2.1;have e6:=k8.2.2.2.2.2.2.2.1;have e7:=k8.2.2.2.2.2.2.2.2.1;have e8:=k8.2.2.2.2.2.2.2.2.2
    clear k8
    go_simp
    refine hK _ _ (fun h _=>absurd h (by decide)) ?_
    clear hK K
    try simp only [Act.put,zpA,zpB,zpC]
    refine F_some (is:=[13]) (by kernel_rfl) (by simp) (fun i hi=>?_)
    obtain rfl:i=13:=by simpa using hi
    refine F_wy (S:=frontS b d1) (L:=11) rfl (by kernel_rfl) (fun K hK=>?_)
    go_simp
    refine hK _ _ (fun h _=>absurd h (by decide)) ?_
    clear hK K
    try simp only [Act.put,zpA,zpB,zpC]
    refine F_some (is:=[14]) (by kernel_rfl) (by simp) (fun i hi=>?_)
    obtain rfl:i=14:=by simpa using hi
    refine F_wy (S:=frontS b d1) (L:=11) rfl (by kernel_rfl) (fun K hK=>?_)
    go_simp
    refine hK _ _ (fun h _=>absurd h (by decide)) ?_
    clear hK K
    try simp only [Act.put,zpA,zpB,zpC]
    refine F_done (by kernel_rfl) ?_
    have hLB:=LvD.put3 (H.out.later hxw) x3 hwd hld hfd 27 #[.int .i64 s2.kind,.int .i64 s2.acc,.int .i64 s2.nonce,.int .u64 (s2.key:Int),.slice (some ⟨W3.heap.size,0,none⟩) s2.names.length 1,.int .i64 s2.life,.int .i64 s2.id,.int .u64 (s2.e:Int),.int .u64 (s2.s:Int)]
    have hL:=hLB.1
    have hB:=hLB.2
    exact hQ dd (w3.heap.size) _ _ _ _ _ _ _ _ _ _ _ hL
   ·refine F_wy (S:=frontS b d1) (L:=11) rfl (by kernel_rfl) (fun K hK=>?_)
    go_simp
    replace hHeld:=HC.out ((w2.alloc (.cells #[.int .i64 0,.int .i64 0,.int .i64 0,.int .u64 0,.slice none 0 0,.int .i64 0,.int .i64 0,.int .u64 0,.int .u64 0] 27))) (by with_reducible (repeat (first|assumption|exact Ext.refl _|refine Ext.drew ?_|refine Ext.alloc ?_ _)))
    refine hK _ _ (fun _ _=>hHeld) ?_
    clear hK K
    try simp only [Act.put,zpA,zpB,zpC]
    refine F_some (is:=[4]) (by kernel_rfl) (by simp) (fun i hi=>?_)
    obtain rfl:i=4:=by simpa using hi
    refine F_wy (S:=frontS b d1) (L:=11) rfl (by kernel_rfl) (fun K hK=>?_)
    go_simp
    go_at_call 40
    have hbs:Blk ((w2.alloc (.cells #[.int .i64 0,.int .i64 0,.int .i64 0,.int .u64 0,.slice none 0 0,.int .i64 0,.int .i64 0,.int .u64 0,.int .u64 0] 27))) (W3.heap.size) 9 #[.string ⟨#[97,46,98]⟩]:=(by with_reducible (repeat (first|exact Blk.new _ _ _|exact blk_new1 _ _ _ _|refine Blk.drew ?_|refine Blk.alloc ?_ _|refine ext_blk x3 ?_|refine ext_blk x2 ?_)))
    refine (cA ((w2.alloc (.cells #[.int .i64 0,.int .i64 0,.int .i64 0,.int .u64 0,.slice none 0 0,.int .i64 0,.int .i64 0,.int .u64 0,.int .u64 0] 27))) (by with_reducible (repeat (first|assumption|exact Ext.refl _|refine Ext.drew ?_|refine Ext.alloc ?_ _))) (W3.heap.size) (reads_one hbs)).mono ?_
    rintro e w3 ⟨dd,rfl,hfd,hwd,hld,hqd,x3⟩
    have X3:Ext W3 w3:=Ext.trans (by with_reducible (repeat (first|assumption|exact Ext.refl _|refine Ext.drew ?_|refine Ext.alloc ?_ _))) x3
    have hxw:Ext W3 (w2.alloc (.cells #[.int .i64 0,.int .i64 0,.int .i64 0,.int .u64 0,.slice none 0 0,.int .i64 0,.int .i64 0,.int .u64 0,.int .u64 0] 27)):=(by with_reducible (repeat (first|assumption|exact Ext.refl _|refine Ext.drew ?_|refine Ext.alloc ?_ _)))
    replace hHeld:=HC.out _ X3
    refine hK _ _ (fun _ _=>hHeld) ?_
    clear hK K
    try simp only [Act.put,zpA,zpB,zpC]
    refine F_pr (i:=5) (some 49) (v:=?_) rfl rfl (by kernel_rfl) (fun w=>?_) ?_;rotate_left 1
    ·go_simp;try with_reducible rfl
    try simp only [Act.put,zpA,zpB,zpC]
    refine F_pr (i:=6) (some 55) (v:=?_) rfl rfl (by kernel_rfl) (fun w=>?_) ?_;rotate_left 1
    ·go_simp;try with_reducible rfl
    try simp only [Act.put,zpA,zpB,zpC]
    refine F_pr (i:=7) (some 56) (v:=?_) rfl rfl (by kernel_rfl) (fun w=>?_) ?_;rotate_left 1
    ·go_simp;try with_reducible rfl
    try simp only [Act.put,zpA,zpB,zpC]
    refine F_pr (i:=8) (some 57) (v:=?_) rfl rfl (by kernel_rfl) (fun w=>?_) ?_;rotate_left 1
    ·go_simp;try with_reducible rfl
    try simp only [Act.put,zpA,zpB,zpC]
    refine F_pr (i:=9) (some 58) (v:=?_) rfl rfl (by kernel_rfl) (fun w=>?_) ?_;rotate_left 1
    ·go_simp;try with_reducible rfl
    try simp only [Act.put,zpA,zpB,zpC]
    refine F_some (is:=[11]) (by kernel_rfl) (by simp) (fun i hi=>?_)
    obtain rfl:i=11:=by simpa using hi
    refine F_wy (S:=frontS b d1) (L:=11) rfl (by kernel_rfl) (fun K hK=>?_)
    have k6:Blk w3 b 43 #[.int .i64 d1.next,.slice d1.oA d1.opn.length d1.oc,.slice d1.cA d1.accs.length d1.cc,.slice d1.uA d1.auts.length d1.uc,.slice d1.rA d1.ords.length d1.rc,.int .i64 d1.ser]:=ext_blk (by with_reducible (repeat (first|assumption|exact Ext.refl _|refine Ext.drew ?_|refine Ext.alloc ?_ _))) H.out.box
    obtain ⟨v0,v1,v2,v3,v4,v5,f0,f1_,f2_,f3_,f4_,f5_⟩:=st6 k6
    go_simp
    refine hK _ _ (fun h _=>absurd h (by decide)) ?_
    clear hK K
    try simp only [Act.put,zpA,zpB,zpC]
    refine F_some (is:=[12]) (by kernel_rfl) (by simp) (fun i hi=>?_)
    obtain rfl:i=12:=by simpa using hi
    refine F_wy (S:=frontS b d1) (L:=11) rfl (by kernel_rfl) (fun K hK=>?_)
    have k2:Blk w3 (w2.heap.size) 27 #[.int .i64 0,.int .i64 0,.int .i64 0,.int .u64 0,.slice none 0 0,.int .i64 0,.int .i64 0,.int .u64 0,.int .u64 0]:=(by with_reducible (repeat (first|exact Blk.new _ _ _|exact blk_new1 _ _ _ _|refine Blk.drew ?_|refine Blk.alloc ?_ _|refine ext_blk x3 ?_|refine ext_blk x2 ?_)))
    have hne:b<w2.heap.size:=(by have h1:=H.out.box.lt;have h2:=X2.size;omega)
    have k7:=far6 k2 (b:=b) (Nat.ne_of_gt hne) (.int .i64 dd.next) (.slice dd.oA dd.opn.length dd.oc) (.slice dd.cA dd.accs.length dd.cc) (.slice dd.uA dd.auts.length dd.uc) (.slice dd.rA dd.ords.length dd.rc) (.int .i64 dd.ser)
    have k8:=st9 k7
    have g0:=k8.1.1;have g1:=k8.1.2.1;have g2:=k8.1.2.2.1;have g3:=k8.1.2.2.2.1;have g4:=k8.1.2.2.2.2.1;have g5:=k8.1.2.2.2.2.2.1;have g6:=k8.1.2.2.2.2.2.2.1;have g7:=k8.1.2.2.2.2.2.2.2.1;have g8:=k8.1.2.2.2.2.2.2.2.2;have e0:=k8.2.1;have e1:=k8.2.2.1;have e2:=k8.2.2.2.1;have e3:=k8.2.2.2.2.1;have e4:=k8.2.2.2.2.2.1;have e5:=k8.2.2.2.2.2.2.1;have e6:=k8.2.2.2.2.2.2.2.1;have e7:=k8.2.2.2.2.2.2.2.2.1;have e8:=k8.2.2.2.2.2.2.2.2.2
    clear k8
    go_simp
    refine hK _ _ (fun h _=>absurd h (by decide)) ?_
    clear hK K
    try simp only [Act.put,zpA,zpB,zpC]
    refine F_some (is:=[13]) (by kernel_rfl) (by simp) (fun i hi=>?_)
    obtain rfl:i=13:=by simpa using hi
    refine F_wy (S:=frontS b d1) (L:=11) rfl (by kernel_rfl) (fun K hK=>?_)
    go_simp
    refine hK _ _ (fun h _=>absurd h (by decide)) ?_
    clear hK K
    try simp only [Act.put,zpA,zpB,zpC]
    refine F_some (is:=[14]) (by kernel_rfl) (by simp) (fun i hi=>?_)
    obtain rfl:i=14:=by simpa using hi
    refine F_wy (S:=frontS b d1) (L:=11) rfl (by kernel_rfl) (fun K hK=>?_)
    go_simp
    refine hK _ _ (fun h _=>absurd h (by decide)) ?_
    clear hK K
    try simp only [Act.put,zpA,zpB,zpC]
    refine F_done (by kernel_rfl) ?_
    have hLB:=LvD.put2 (q:=s2) (A:=(some ⟨W3.heap.size,0,none⟩)) (c:=1) (H.out.later hxw) (W':=w3) x3 hwd hld hfd k2 hne ((hld _ H.out.door.lies).mono (fun k hk=>by have hs:((w2.alloc (.cells #[.int .i64 0,.int .i64 0,.int .i64 0,.int .u64 0,.slice none 0 0,.int .i64 0,.int .i64 0,.int .u64 0,.int .u64 0] 27))).heap.size=w2.heap.size+1:=(by simp);have hk':k<W3.heap.size∨((w2.alloc (.cells #[.int .i64 0,.int .i64 0,.int .i64 0,.int .u64 0,.slice none 0 0,.int .i64 0,.int .i64 0,.int .u64 0,.int .u64 0] 27))).heap.size≤k:=hk;rw [hs] at hk';have h2:=X2.size;have h3:=X2.size;(try have h5:=hs2);omega))
    have hL:=hLB.1
    have hB:=hLB.2
    exact hQ dd (w2.heap.size) _ _ _ _ _ _ _ _ _ _ _ hL
  ·refine F_wy (S:=frontS b d1) (L:=11) rfl (by kernel_rfl) (fun K hK=>?_)
   go_simp
   replace hHeld:=HC.out (((W3.alloc (.cells #[.string ⟨#[97,46,98]⟩] 9)).alloc (.cells #[.int .i64 0,.int .i64 0,.int .i64 0,.int .u64 0,.slice none 0 0,.int .i64 0,.int .i64 0,.int .u64 0,.int .u64 0] 27)).drew) (by with_reducible (repeat (first|assumption|exact Ext.refl _|refine Ext.drew ?_|refine Ext.alloc ?_ _)))
   refine hK _ _ (fun _ _=>hHeld) ?_
   clear hK K
   try simp only [Act.put,zpA,zpB,zpC]
   refine F_some (is:=[2]) (by kernel_rfl) (by simp) (fun i hi=>?_)
   obtain rfl:i=2:=by simpa using hi
   refine F_wy (S:=frontS b d1) (L:=11) rfl (by kernel_rfl) (fun K hK=>?_)
   go_simp
   go_at_call 39
   refine (cK _).mono ?_
   rintro e w2 ⟨rfl,x2⟩
   have X2:Ext W3 w2:=Ext.trans (by with_reducible (repeat (first|assumption|exact Ext.refl _|refine Ext.drew ?_|refine Ext.alloc ?_ _))) x2
   have hs2:W3.heap.size+2≤w2.heap.size:=by have hs:(((W3.alloc (.cells #[.string ⟨#[97,46,98]⟩] 9)).alloc (.cells #[.int .i64 0,.int .i64 0,.int .i64 0,.int .u64 0,.slice none 0 0,.int .i64 0,.int .i64 0,.int .u64 0,.int .u64 0] 27))).heap.size=W3.heap.size+2:=(by simp);have h:=x2.size;have h':(((W3.alloc (.cells #[.string ⟨#[97,46,98]⟩] 9)).alloc (.cells #[.int .i64 0,.int .i64 0,.int .i64 0,.int .u64 0,.slice none 0 0,.int .i64 0,.int .i64 0,.int .u64 0,.int .u64 0] 27))).heap.size≤w2.heap.size:=h;omega
   replace hHeld:=HC.out _ X2
   refine hK _ _ (fun _ _=>hHeld) ?_
   clear hK K
   try simp only [Act.put,zpA,zpB,zpC]
   refine F_pr (i:=3) (some 53) (v:=?_) rfl rfl (by kernel_rfl) (fun w=>?_) ?_;rotate_left 1
   ·go_simp;try with_reducible rfl
   try simp only [Act.put,zpA,zpB,zpC]
   refine F_some (is:=[4]) (by kernel_rfl) (by simp) (fun i hi=>?_)
   obtain rfl:i=4:=by simpa using hi
   refine F_wy (S:=frontS b d1) (L:=11) rfl (by kernel_rfl) (fun K hK=>?_)
   go_simp
   go_at_call 40
   have hbs:Blk (w2) (W3.heap.size) 9 #[.string ⟨#[97,46,98]⟩]:=(by with_reducible (repeat (first|exact Blk.new _ _ _|exact blk_new1 _ _ _ _|refine Blk.drew ?_|refine Blk.alloc ?_ _|refine ext_blk x3 ?_|refine ext_blk x2 ?_)))
   refine (cA (w2) (by with_reducible (repeat (first|assumption|exact Ext.refl _|refine Ext.drew ?_|refine Ext.alloc ?_ _))) (W3.heap.size) (reads_one hbs)).mono ?_
   rintro e w3 ⟨dd,rfl,hfd,hwd,hld,hqd,x3⟩
   have X3:Ext W3 w3:=Ext.trans (by with_reducible (repeat (first|assumption|exact Ext.refl _|refine Ext.drew ?_|refine Ext.alloc ?_ _))) x3
   have hxw:Ext W3 w2:=(by with_reducible (repeat (first|assumption|exact Ext.refl _|refine Ext.drew ?_|refine Ext.alloc ?_ _)))
   replace hHeld:=HC.out _ X3
   refine hK _ _ (fun _ _=>hHeld) ?_
   clear hK K
   try simp only [Act.put,zpA,zpB,zpC]
   refine F_pr (i:=5) (some 49) (v:=?_) rfl rfl (by kernel_rfl) (fun w=>?_) ?_;rotate_left 1
   ·go_simp;try with_reducible rfl
   try simp only [Act.put,zpA,zpB,zpC]
   refine F_pr (i:=6) (some 55) (v:=?_) rfl rfl (by kernel_rfl) (fun w=>?_) ?_;rotate_left 1
   ·go_simp;try with_reducible rfl
   try simp only [Act.put,zpA,zpB,zpC]
   refine F_pr (i:=7) (some 56) (v:=?_) rfl rfl (by kernel_rfl) (fun w=>?_) ?_;rotate_left 1
   ·go_simp;try with_reducible rfl
   try simp only [Act.put,zpA,zpB,zpC]
   refine F_pr (i:=8) (some 57) (v:=?_) rfl rfl (by kernel_rfl) (fun w=>?_) ?_;rotate_left 1
   ·go_simp;try with_reducible rfl
   try simp only [Act.put,zpA,zpB,zpC]
   refine F_pr (i:=9) (some 58) (v:=?_) rfl rfl (by kernel_rfl) (fun w=>?_) ?_;rotate_left 1
   ·go_simp;try with_reducible rfl
   try simp only [Act.put,zpA,zpB,zpC]
   refine F_some (is:=[11]) (by kernel_rfl) (by simp) (fun i hi=>?_)
   obtain rfl:i=11:=by simpa using hi
   refine F_wy (S:=frontS b d1) (L:=11) rfl (by kernel_rfl) (fun K hK=>?_)
   have k6:Blk w3 b 43 #[.int .i64 d1.next,.slice d1.oA d1.opn.length d1.oc,.slice d1.cA d1.accs.length d1.cc,.slice d1.uA d1.auts.length d1.uc,.slice d1.rA d1.ords.length d1.rc,.int .i64 d1.ser]:=ext_blk (by with_reducible (repeat (first|assumption|exact Ext.refl _|refine Ext.drew ?_|refine Ext.alloc ?_ _))) H.out.box
   obtain ⟨v0,v1,v2,v3,v4,v5,f0,f1_,f2_,f3_,f4_,f5_⟩:=st6 k6
   go_simp
   refine hK _ _ (fun h _=>absurd h (by decide)) ?_
   clear hK K
   try simp only [Act.put,zpA,zpB,zpC]
   refine F_some (is:=[12]) (by kernel_rfl) (by simp) (fun i hi=>?_)
   obtain rfl:i=12:=by simpa using hi
   refine F_wy (S:=frontS b d1) (L:=11) rfl (by kernel_rfl) (fun K hK=>?_)
   have k2:Blk w3 (W3.heap.size+1) 27 #[.int .i64 0,.int .i64 0,.int .i64 0,.int .u64 0,.slice none 0 0,.int .i64 0,.int .i64 0,.int .u64 0,.int .u64 0]:=(by with_reducible (repeat (first|exact Blk.new _ _ _|exact blk_new1 _ _ _ _|refine Blk.drew ?_|refine Blk.alloc ?_ _|refine ext_blk x3 ?_|refine ext_blk x2 ?_)))
   have hne:b<W3.heap.size+1:=(by have h1:=H.out.box.lt;omega)
   have k7:=far6 k2 (b:=b) (Nat.ne_of_gt hne) (.int .i64 dd.next) (.slice dd.oA dd.opn.length dd.oc) (.slice dd.cA dd.accs.length dd.cc) (.slice dd.uA dd.auts.length dd.uc) (.slice dd.rA dd.ords.length dd.rc) (.int .i64 dd.ser)
   have k8:=st9 k7
   have g0:=k8.1.1;have g1:=k8.1.2.1;have g2:=k8.1.2.2.1;have g3:=k8.1.2.2.2.1;have g4:=k8.1.2.2.2.2.1;have g5:=k8.1.2.2.2.2.2.1;have g6:=k8.1.2.2.2.2.2.2.1;have g7:=k8.1.2.2.2.2.2.2.2.1;have g8:=k8.1.2.2.2.2.2.2.2.2;have e0:=k8.2.1;have e1:=k8.2.2.1;have e2:=k8.2.2.2.1;have e3:=k8.2.2.2.2.1;have e4:=k8.2.2.2.2.2.1;have e5:=k8.2.2.2.2.2.2.1;have e6:=k8.2.2.2.2.2.2.2.1;have e7:=k8.2.2.2.2.2.2.2.2.1;have e8:=k8.2.2.2.2.2.2.2.2.2
   clear k8
   go_simp
   refine hK _ _ (fun h _=>absurd h (by decide)) ?_
   clear hK K
   try simp only [Act.put,zpA,zpB,zpC]
   refine F_some (is:=[13]) (by kernel_rfl) (by simp) (fun i hi=>?_)
   obtain rfl:i=13:=by simpa using hi
   refine F_wy (S:=frontS b d1) (L:=11) rfl (by kernel_rfl) (fun K hK=>?_)
   go_simp
   refine hK _ _ (fun h _=>absurd h (by decide)) ?_
   clear hK K
   try simp only [Act.put,zpA,zpB,zpC]
   refine F_some (is:=[14]) (by kernel_rfl) (by simp) (fun i hi=>?_)
   obtain rfl:i=14:=by simpa using hi
   refine F_wy (S:=frontS b d1) (L:=11) rfl (by kernel_rfl) (fun K hK=>?_)
   go_simp
   refine hK _ _ (fun h _=>absurd h (by decide)) ?_
   clear hK K
   try simp only [Act.put,zpA,zpB,zpC]
   refine F_done (by kernel_rfl) ?_
   have hLB:=LvD.put2 (q:=s2) (A:=(some ⟨W3.heap.size,0,none⟩)) (c:=1) (H.out.later hxw) (W':=w3) x3 hwd hld hfd k2 hne ((hld _ H.out.door.lies).mono (fun k hk=>by have hs:(w2).heap.size=w2.heap.size+0:=(by simp);have hk':k<W3.heap.size∨(w2).heap.size≤k:=hk;rw [hs] at hk';have h3:=X2.size;(try have h5:=hs2);omega))
   have hL:=hLB.1
   have hB:=hLB.2
   exact hQ dd (W3.heap.size+1) _ _ _ _ _ _ _ _ _ _ _ hL
 ·refine F_wy (S:=frontS b d1) (L:=11) rfl (by kernel_rfl) (fun K hK=>?_)
  go_simp
  go_at_call 39
  refine (cK _).mono ?_
  rintro e w2 ⟨rfl,x2⟩
  have X2:Ext W3 w2:=Ext.trans (by with_reducible (repeat (first|assumption|exact Ext.refl _|refine Ext.drew ?_|refine Ext.alloc ?_ _))) x2
  have hs2:W3.heap.size+0≤w2.heap.size:=by have hs:(W3).heap.size=W3.heap.size+0:=(by simp);have h:=x2.size;have h':(W3).heap.size≤w2.heap.size:=h;omega
  replace hHeld:=HC.out _ X2
  refine hK _ _ (fun _ _=>hHeld) ?_
  clear hK K
  try simp only [Act.put,zpA,zpB,zpC]
  refine F_some (is:=[1,10]) (by kernel_rfl) (by simp) (fun i hi=>?_)
  simp only [List.mem_cons,List.not_mem_nil,or_false] at hi
  rcases hi with rfl|rfl
  ·refine F_wy (S:=frontS b d1) (L:=11) rfl (by kernel_rfl) (fun K hK=>?_)
   go_simp
   replace hHeld:=HC.out ((w2.alloc (.cells #[.string ⟨#[97,46,98]⟩] 9))) (by with_reducible (repeat (first|assumption|exact Ext.refl _|refine Ext.drew ?_|refine Ext.alloc ?_ _)))
   refine hK _ _ (fun _ _=>hHeld) ?_
   clear hK K
   try simp only [Act.put,zpA,zpB,zpC]
   refine F_pr (i:=3) (some 53) (v:=?_) rfl rfl (by kernel_rfl) (fun w=>?_) ?_;rotate_left 1
   ·go_simp;try with_reducible rfl
   try simp only [Act.put,zpA,zpB,zpC]
   refine F_some (is:=[4,10]) (by kernel_rfl) (by simp) (fun i hi=>?_)
   simp only [List.mem_cons,List.not_mem_nil,or_false] at hi
   rcases hi with rfl|rfl
   ·refine F_wy (S:=frontS b d1) (L:=11) rfl (by kernel_rfl) (fun K hK=>?_)
    go_simp
    go_at_call 40
    have hbs:Blk ((w2.alloc (.cells #[.string ⟨#[97,46,98]⟩] 9))) (w2.heap.size) 9 #[.string ⟨#[97,46,98]⟩]:=(by with_reducible (repeat (first|exact Blk.new _ _ _|exact blk_new1 _ _ _ _|refine Blk.drew ?_|refine Blk.alloc ?_ _|refine ext_blk x3 ?_|refine ext_blk x2 ?_)))
    refine (cA ((w2.alloc (.cells #[.string ⟨#[97,46,98]⟩] 9))) (by with_reducible (repeat (first|assumption|exact Ext.refl _|refine Ext.drew ?_|refine Ext.alloc ?_ _))) (w2.heap.size) (reads_one hbs)).mono ?_
    rintro e w3 ⟨dd,rfl,hfd,hwd,hld,hqd,x3⟩
    have X3:Ext W3 w3:=Ext.trans (by with_reducible (repeat (first|assumption|exact Ext.refl _|refine Ext.drew ?_|refine Ext.alloc ?_ _))) x3
    have hxw:Ext W3 (w2.alloc (.cells #[.string ⟨#[97,46,98]⟩] 9)):=(by with_reducible (repeat (first|assumption|exact Ext.refl _|refine Ext.drew ?_|refine Ext.alloc ?_ _)))
    replace hHeld:=HC.out _ X3
    refine hK _ _ (fun _ _=>hHeld) ?_
    clear hK K
    try simp only [Act.put,zpA,zpB,zpC]
    refine F_pr (i:=5) (some 49) (v:=?_) rfl rfl (by kernel_rfl) (fun w=>?_) ?_;rotate_left 1
    ·go_simp;try with_reducible rfl
    try simp only [Act.put,zpA,zpB,zpC]
    refine F_pr (i:=6) (some 55) (v:=?_) rfl rfl (by kernel_rfl) (fun w=>?_) ?_;rotate_left 1
    ·go_simp;try with_reducible rfl
    try simp only [Act.put,zpA,zpB,zpC]
    refine F_pr (i:=7) (some 56) (v:=?_) rfl rfl (by kernel_rfl) (fun w=>?_) ?_;rotate_left 1
    ·go_simp;try with_reducible rfl
    try simp only [Act.put,zpA,zpB,zpC]
    refine F_pr (i:=8) (some 57) (v:=?_) rfl rfl (by kernel_rfl) (fun w=>?_) ?_;rotate_left 1
    ·go_simp;try with_reducible rfl
    try simp only [Act.put,zpA,zpB,zpC]
    refine F_pr (i:=9) (some 58) (v:=?_) rfl rfl (by kernel_rfl) (fun w=>?_) ?_;rotate_left 1
    ·go_simp;try with_reducible rfl
    try simp only [Act.put,zpA,zpB,zpC]
    refine F_some (is:=[10]) (by kernel_rfl) (by simp) (fun i hi=>?_)
    obtain rfl:i=10:=by simpa using hi
    refine F_wy (S:=frontS b d1) (L:=11) rfl (by kernel_rfl) (fun K hK=>?_)
    go_simp
    replace hHeld:=HC.out ((w3.alloc (.cells #[.int .i64 0,.int .i64 0,.int .i64 0,.int .u64 0,.slice none 0 0,.int .i64 0,.int .i64 0,.int .u64 0,.int .u64 0] 27))) (by with_reducible (repeat (first|assumption|exact Ext.refl _|refine Ext.drew ?_|refine Ext.alloc ?_ _)))
    refine hK _ _ (fun _ _=>hHeld) ?_
    clear hK K
    try simp only [Act.put,zpA,zpB,zpC]
    refine F_some (is:=[11]) (by kernel_rfl) (by simp) (fun i hi=>?_)
    obtain rfl:i=11:=by simpa using hi
    refine F_wy (S:=frontS b d1) (L:=11) rfl (by kernel_rfl) (fun K hK=>?_)
    have k6:Blk (w3.alloc (.cells #[.int .i64 0,.int .i64 0,.int .i64 0,.int .u64 0,.slice none 0 0,.int .i64 0,.int .i64 0,.int .u64 0,.int .u64 0] 27)) b 43 #[.int .i64 d1.next,.slice d1.oA d1.opn.length d1.oc,.slice d1.cA d1.accs.length d1.cc,.slice d1.uA d1.auts.length d1.uc,.slice d1.rA d1.ords.length d1.rc,.int .i64 d1.ser]:=ext_blk (by with_reducible (repeat (first|assumption|exact Ext.refl _|refine Ext.drew ?_|refine Ext.alloc ?_ _))) H.out.box
    obtain ⟨v0,v1,v2,v3,v4,v5,f0,f1_,f2_,f3_,f4_,f5_⟩:=st6 k6
    go_simp
    refine hK _ _ (fun h _=>absurd h (by decide)) ?_
    clear hK K
    try simp only [Act.put,zpA,zpB,zpC]
    refine F_some (is:=[12]) (by kernel_rfl) (by simp) (fun i hi=>?_)
    obtain rfl:i=12:=by simpa using hi
    refine F_wy (S:=frontS b d1) (L:=11) rfl (by kernel_rfl) (fun K hK=>?_)
    have k2:Blk (w3.alloc (.cells #[.int .i64 0,.int .i64 0,.int .i64 0,.int .u64 0,.slice none 0 0,.int .i64 0,.int .i64 0,.int .u64 0,.int .u64 0] 27)) (w3.heap.size) 27 #[.int .i64 0,.int .i64 0,.int .i64 0,.int .u64 0,.slice none 0 0,.int .i64 0,.int .i64 0,.int .u64 0,.int .u64 0]:=(by with_reducible (repeat (first|exact Blk.new _ _ _|exact blk_new1 _ _ _ _|refine Blk.drew ?_|refine Blk.alloc ?_ _|refine ext_blk x3 ?_|refine ext_blk x2 ?_)))
    have hne:b<w3.heap.size:=(by have h1:=H.out.box.lt;have h2:=X3.size;omega)
    have k7:=far6 k2 (b:=b) (Nat.ne_of_gt hne) (.int .i64 dd.next) (.slice dd.oA dd.opn.length dd.oc) (.slice dd.cA dd.accs.length dd.cc) (.slice dd.uA dd.auts.length dd.uc) (.slice dd.rA dd.ords.length dd.rc) (.int .i64 dd.ser)
    have k8:=st9 k7
    have g0:=k8.1.1;have g1:=k8.1.2.1;have g2:=k8.1.2.2.1;have g3:=k8.1.2.2.2.1;have g4:=k8.1.2.2.2.2.1;have g5:=k8.1.2.2.2.2.2.1;have g6:=k8.1.2.2.2.2.2.2.1;have g7:=k8.1.2.2.2.2.2.2.2.1;have g8:=k8.1.2.2.2.2.2.2.2.2;have e0:=k8.2.1;have e1:=k8.2.2.1;have e2:=k8.2.2.2.1;have e3:=k8.2.2.2.2.1;have e4:=k8.2.2.2.2.2.1;have e5:=k8.2.2.2.2.2.2.1;have e6:=k8.2.2.2.2.2.2.2.1;have e7:=k8.2.2.2.2.2.2.2.2.1;have e8:=k8.2.2.2.2.2.2.2.2.2
    clear k8
    go_simp
    refine hK _ _ (fun h _=>absurd h (by decide)) ?_
    clear hK K
    try simp only [Act.put,zpA,zpB,zpC]
    refine F_some (is:=[13]) (by kernel_rfl) (by simp) (fun i hi=>?_)
    obtain rfl:i=13:=by simpa using hi
    refine F_wy (S:=frontS b d1) (L:=11) rfl (by kernel_rfl) (fun K hK=>?_)
    go_simp
    refine hK _ _ (fun h _=>absurd h (by decide)) ?_
    clear hK K
    try simp only [Act.put,zpA,zpB,zpC]
    refine F_some (is:=[14]) (by kernel_rfl) (by simp) (fun i hi=>?_)
    obtain rfl:i=14:=by simpa using hi
    refine F_wy (S:=frontS b d1) (L:=11) rfl (by kernel_rfl) (fun K hK=>?_)
    go_simp
    refine hK _ _ (fun h _=>absurd h (by decide)) ?_
    clear hK K
    try simp only [Act.put,zpA,zpB,zpC]
    refine F_done (by kernel_rfl) ?_
    have hLB:=LvD.put3 (H.out.later hxw) x3 hwd hld hfd 27 #[.int .i64 s2.kind,.int .i64 s2.acc,.int .i64 s2.nonce,.int .u64 (s2.key:Int),.slice (some ⟨w2.heap.size,0,none⟩) s2.names.length 1,.int .i64 s2.life,.int .i64 s2.id,.int .u64 (s2.e:Int),.int .u64 (s2.s:Int)]
    have hL:=hLB.1
    have hB:=hLB.2
    exact hQ dd (w3.heap.size) _ _ _ _ _ _ _ _ _ _ _ hL
   ·refine F_wy (S:=frontS b d1) (L:=11) rfl (by kernel_rfl) (fun K hK=>?_)
    go_simp
    replace hHeld:=HC.out (((w2.alloc (.cells #[.string ⟨#[97,46,98]⟩] 9)).alloc (.cells #[.int .i64 0,.int .i64 0,.int .i64 0,.int .u64 0,.slice none 0 0,.int .i64 0,.int .i64 0,.int .u64 0,.int .u64 0] 27))) (by with_reducible (repeat (first|assumption|exact Ext.refl _|refine Ext.drew ?_|refine Ext.alloc ?_ _)))
    refine hK _ _ (fun _ _=>hHeld) ?_
    clear hK K
    try simp only [Act.put,zpA,zpB,zpC]
    refine F_some (is:=[4]) (by kernel_rfl) (by simp) (fun i hi=>?_)
    obtain rfl:i=4:=by simpa using hi
    refine F_wy (S:=frontS b d1) (L:=11) rfl (by kernel_rfl) (fun K hK=>?_)
    go_simp
    go_at_call 40
    have hbs:Blk (((w2.alloc (.cells #[.string ⟨#[97,46,98]⟩] 9)).alloc (.cells #[.int .i64 0,.int .i64 0,.int .i64 0,.int .u64 0,.slice none 0 0,.int .i64 0,.int .i64 0,.int .u64 0,.int .u64 0] 27))) (w2.heap.size) 9 #[.string ⟨#[97,46,98]⟩]:=(by with_reducible (repeat (first|exact Blk.new _ _ _|exact blk_new1 _ _ _ _|refine Blk.drew ?_|refine Blk.alloc ?_ _|refine ext_blk x3 ?_|refine ext_blk x2 ?_)))
    refine (cA (((w2.alloc (.cells #[.string ⟨#[97,46,98]⟩] 9)).alloc (.cells #[.int .i64 0,.int .i64 0,.int .i64 0,.int .u64 0,.slice none 0 0,.int .i64 0,.int .i64 0,.int .u64 0,.int .u64 0] 27))) (by with_reducible (repeat (first|assumption|exact Ext.refl _|refine Ext.drew ?_|refine Ext.alloc ?_ _))) (w2.heap.size) (reads_one hbs)).mono ?_
    rintro e w3 ⟨dd,rfl,hfd,hwd,hld,hqd,x3⟩
    have X3:Ext W3 w3:=Ext.trans (by with_reducible (repeat (first|assumption|exact Ext.refl _|refine Ext.drew ?_|refine Ext.alloc ?_ _))) x3
    have hxw:Ext W3 ((w2.alloc (.cells #[.string ⟨#[97,46,98]⟩] 9)).alloc (.cells #[.int .i64 0,.int .i64 0,.int .i64 0,.int .u64 0,.slice none 0 0,.int .i64 0,.int .i64 0,.int .u64 0,.int .u64 0] 27)):=(by with_reducible (repeat (first|assumption|exact Ext.refl _|refine Ext.drew ?_|refine Ext.alloc ?_ _)))
    replace hHeld:=HC.out _ X3
    refine hK _ _ (fun _ _=>hHeld) ?_
    clear hK K
    try simp only [Act.put,zpA,zpB,zpC]
    refine F_pr (i:=5) (some 49) (v:=?_) rfl rfl (by kernel_rfl) (fun w=>?_) ?_;rotate_left 1
    ·go_simp;try with_reducible rfl
    try simp only [Act.put,zpA,zpB,zpC]
    refine F_pr (i:=6) (some 55) (v:=?_) rfl rfl (by kernel_rfl) (fun w=>?_) ?_;rotate_left 1
    ·go_simp;try with_reducible rfl
    try simp only [Act.put,zpA,zpB,zpC]
    refine F_pr (i:=7) (some 56) (v:=?_) rfl rfl (by kernel_rfl) (fun w=>?_) ?_;rotate_left 1
    ·go_simp;try with_reducible rfl
    try simp only [Act.put,zpA,zpB,zpC]
    refine F_pr (i:=8) (some 57) (v:=?_) rfl rfl (by kernel_rfl) (fun w=>?_) ?_;rotate_left 1
    ·go_simp;try with_reducible rfl
    try simp only [Act.put,zpA,zpB,zpC]
    refine F_pr (i:=9) (some 58) (v:=?_) rfl rfl (by kernel_rfl) (fun w=>?_) ?_;rotate_left 1
    ·go_simp;try with_reducible rfl
    try simp only [Act.put,zpA,zpB,zpC]
    refine F_some (is:=[11]) (by kernel_rfl) (by simp) (fun i hi=>?_)
    obtain rfl:i=11:=by simpa using hi
    refine F_wy (S:=frontS b d1) (L:=11) rfl (by kernel_rfl) (fun K hK=>?_)
    have k6:Blk w3 b 43 #[.int .i64 d1.next,.slice d1.oA d1.opn.length d1.oc,.slice d1.cA d1.accs.length d1.cc,.slice d1.uA d1.auts.length d1.uc,.slice d1.rA d1.ords.length d1.rc,.int .i64 d1.ser]:=ext_blk (by with_reducible (repeat (first|assumption|exact Ext.refl _|refine Ext.drew ?_|refine Ext.alloc ?_ _))) H.out.box
    obtain ⟨v0,v1,v2,v3,v4,v5,f0,f1_,f2_,f3_,f4_,f5_⟩:=st6 k6
    go_simp
    refine hK _ _ (fun h _=>absurd h (by decide)) ?_
    clear hK K
    try simp only [Act.put,zpA,zpB,zpC]
    refine F_some (is:=[12]) (by kernel_rfl) (by simp) (fun i hi=>?_)
    obtain rfl:i=12:=by simpa using hi
    refine F_wy (S:=frontS b d1) (L:=11) rfl (by kernel_rfl) (fun K hK=>?_)
    have k2:Blk w3 (w2.heap.size+1) 27 #[.int .i64 0,.int .i64 0,.int .i64 0,.int .u64 0,.slice none 0 0,.int .i64 0,.int .i64 0,.int .u64 0,.int .u64 0]:=(by with_reducible (repeat (first|exact Blk.new _ _ _|exact blk_new1 _ _ _ _|refine Blk.drew ?_|refine Blk.alloc ?_ _|refine ext_blk x3 ?_|refine ext_blk x2 ?_)))
    have hne:b<w2.heap.size+1:=(by have h1:=H.out.box.lt;have h2:=X2.size;omega)
    have k7:=far6 k2 (b:=b) (Nat.ne_of_gt hne) (.int .i64 dd.next) (.slice dd.oA dd.opn.length dd.oc) (.slice dd.cA dd.accs.length dd.cc) (.slice dd.uA dd.auts.length dd.uc) (.slice dd.rA dd.ords.length dd.rc) (.int .i64 dd.ser)
    have k8:=st9 k7
    have g0:=k8.1.1;have g1:=k8.1.2.1;have g2:=k8.1.2.2.1;have g3:=k8.1.2.2.2.1;have g4:=k8.1.2.2.2.2.1;have g5:=k8.1.2.2.2.2.2.1;have g6:=k8.1.2.2.2.2.2.2.1;have g7:=k8.1.2.2.2.2.2.2.2.1;have g8:=k8.1.2.2.2.2.2.2.2.2;have e0:=k8.2.1;have e1:=k8.2.2.1;have e2:=k8.2.2.2.1;have e3:=k8.2.2.2.2.1;have e4:=k8.2.2.2.2.2.1;have e5:=k8.2.2.2.2.2.2.1;have e6:=k8.2.2.2.2.2.2.2.1;have e7:=k8.2.2.2.2.2.2.2.2.1;have e8:=k8.2.2.2.2.2.2.2.2.2
    clear k8
    go_simp
    refine hK _ _ (fun h _=>absurd h (by decide)) ?_
    clear hK K
    try simp only [Act.put,zpA,zpB,zpC]
    refine F_some (is:=[13]) (by kernel_rfl) (by simp) (fun i hi=>?_)
    obtain rfl:i=13:=by simpa using hi
    refine F_wy (S:=frontS b d1) (L:=11) rfl (by kernel_rfl) (fun K hK=>?_)
    go_simp
    refine hK _ _ (fun h _=>absurd h (by decide)) ?_
    clear hK K
    try simp only [Act.put,zpA,zpB,zpC]
    refine F_some (is:=[14]) (by kernel_rfl) (by simp) (fun i hi=>?_)
    obtain rfl:i=14:=by simpa using hi
    refine F_wy (S:=frontS b d1) (L:=11) rfl (by kernel_rfl) (fun K hK=>?_)
    go_simp
    refine hK _ _ (fun h _=>absurd h (by decide)) ?_
    clear hK K
    try simp only [Act.put,zpA,zpB,zpC]
    refine F_done (by kernel_rfl) ?_
    have hLB:=LvD.put2 (q:=s2) (A:=(some ⟨w2.heap.size,0,none⟩)) (c:=1) (H.out.later hxw) (W':=w3) x3 hwd hld hfd k2 hne ((hld _ H.out.door.lies).mono (fun k hk=>by have hs:(((w2.alloc (.cells #[.string ⟨#[97,46,98]⟩] 9)).alloc (.cells #[.int .i64 0,.int .i64 0,.int .i64 0,.int .u64 0,.slice none 0 0,.int .i64 0,.int .i64 0,.int .u64 0,.int .u64 0] 27))).heap.size=w2.heap.size+2:=(by simp);have hk':k<W3.heap.size∨(((w2.alloc (.cells #[.string ⟨#[97,46,98]⟩] 9)).alloc (.cells #[.int .i64 0,.int .i64 0,.int .i64 0,.int .u64 0,.slice none 0 0,.int .i64 0,.int .i64 0,.int .u64 0,.int .u64 0] 27))).heap.size≤k:=hk;rw [hs] at hk';have h2:=X2.size;have h3:=X2.size;(try have h5:=hs2);omega))
    have hL:=hLB.1
    have hB:=hLB.2
    exact hQ dd (w2.heap.size+1) _ _ _ _ _ _ _ _ _ _ _ hL
  ·refine F_wy (S:=frontS b d1) (L:=11) rfl (by kernel_rfl) (fun K hK=>?_)
   go_simp
   replace hHeld:=HC.out ((w2.alloc (.cells #[.int .i64 0,.int .i64 0,.int .i64 0,.int .u64 0,.slice none 0 0,.int .i64 0,.int .i64 0,.int .u64 0,.int .u64 0] 27))) (by with_reducible (repeat (first|assumption|exact Ext.refl _|refine Ext.drew ?_|refine Ext.alloc ?_ _)))
   refine hK _ _ (fun _ _=>hHeld) ?_
   clear hK K
   try simp only [Act.put,zpA,zpB,zpC]
   refine F_some (is:=[1]) (by kernel_rfl) (by simp) (fun i hi=>?_)
   obtain rfl:i=1:=by simpa using hi
   refine F_wy (S:=frontS b d1) (L:=11) rfl (by kernel_rfl) (fun K hK=>?_)
   go_simp
   replace hHeld:=HC.out (((w2.alloc (.cells #[.int .i64 0,.int .i64 0,.int .i64 0,.int .u64 0,.slice none 0 0,.int .i64 0,.int .i64 0,.int .u64 0,.int .u64 0] 27)).alloc (.cells #[.string ⟨#[97,46,98]⟩] 9))) (by with_reducible (repeat (first|assumption|exact Ext.refl _|refine Ext.drew ?_|refine Ext.alloc ?_ _)))
   refine hK _ _ (fun _ _=>hHeld) ?_
   clear hK K
   try simp only [Act.put,zpA,zpB,zpC]
   refine F_pr (i:=3) (some 53) (v:=?_) rfl rfl (by kernel_rfl) (fun w=>?_) ?_;rotate_left 1
   ·go_simp;try with_reducible rfl
   try simp only [Act.put,zpA,zpB,zpC]
   refine F_some (is:=[4]) (by kernel_rfl) (by simp) (fun i hi=>?_)
   obtain rfl:i=4:=by simpa using hi
   refine F_wy (S:=frontS b d1) (L:=11) rfl (by kernel_rfl) (fun K hK=>?_)
   go_simp
   go_at_call 40
   have hbs:Blk (((w2.alloc (.cells #[.int .i64 0,.int .i64 0,.int .i64 0,.int .u64 0,.slice none 0 0,.int .i64 0,.int .i64 0,.int .u64 0,.int .u64 0] 27)).alloc (.cells #[.string ⟨#[97,46,98]⟩] 9))) (w2.heap.size+1) 9 #[.string ⟨#[97,46,98]⟩]:=(by with_reducible (repeat (first|exact Blk.new _ _ _|exact blk_new1 _ _ _ _|refine Blk.drew ?_|refine Blk.alloc ?_ _|refine ext_blk x3 ?_|refine ext_blk x2 ?_)))
   refine (cA (((w2.alloc (.cells #[.int .i64 0,.int .i64 0,.int .i64 0,.int .u64 0,.slice none 0 0,.int .i64 0,.int .i64 0,.int .u64 0,.int .u64 0] 27)).alloc (.cells #[.string ⟨#[97,46,98]⟩] 9))) (by with_reducible (repeat (first|assumption|exact Ext.refl _|refine Ext.drew ?_|refine Ext.alloc ?_ _))) (w2.heap.size+1) (reads_one hbs)).mono ?_
   rintro e w3 ⟨dd,rfl,hfd,hwd,hld,hqd,x3⟩
   have X3:Ext W3 w3:=Ext.trans (by with_reducible (repeat (first|assumption|exact Ext.refl _|refine Ext.drew ?_|refine Ext.alloc ?_ _))) x3
   have hxw:Ext W3 ((w2.alloc (.cells #[.int .i64 0,.int .i64 0,.int .i64 0,.int .u64 0,.slice none 0 0,.int .i64 0,.int .i64 0,.int .u64 0,.int .u64 0] 27)).alloc (.cells #[.string ⟨#[97,46,98]⟩] 9)):=(by with_reducible (repeat (first|assumption|exact Ext.refl _|refine Ext.drew ?_|refine Ext.alloc ?_ _)))
   replace hHeld:=HC.out _ X3
   refine hK _ _ (fun _ _=>hHeld) ?_
   clear hK K
   try simp only [Act.put,zpA,zpB,zpC]
   refine F_pr (i:=5) (some 49) (v:=?_) rfl rfl (by kernel_rfl) (fun w=>?_) ?_;rotate_left 1
   ·go_simp;try with_reducible rfl
   try simp only [Act.put,zpA,zpB,zpC]
   refine F_pr (i:=6) (some 55) (v:=?_) rfl rfl (by kernel_rfl) (fun w=>?_) ?_;rotate_left 1
   ·go_simp;try with_reducible rfl
   try simp only [Act.put,zpA,zpB,zpC]
   refine F_pr (i:=7) (some 56) (v:=?_) rfl rfl (by kernel_rfl) (fun w=>?_) ?_;rotate_left 1
   ·go_simp;try with_reducible rfl
   try simp only [Act.put,zpA,zpB,zpC]
   refine F_pr (i:=8) (some 57) (v:=?_) rfl rfl (by kernel_rfl) (fun w=>?_) ?_;rotate_left 1
   ·go_simp;try with_reducible rfl
   try simp only [Act.put,zpA,zpB,zpC]
   refine F_pr (i:=9) (some 58) (v:=?_) rfl rfl (by kernel_rfl) (fun w=>?_) ?_;rotate_left 1
   ·go_simp;try with_reducible rfl
   try simp only [Act.put,zpA,zpB,zpC]
   refine F_some (is:=[11]) (by kernel_rfl) (by simp) (fun i hi=>?_)
   obtain rfl:i=11:=by simpa using hi
   refine F_wy (S:=frontS b d1) (L:=11) rfl (by kernel_rfl) (fun K hK=>?_)
   have k6:Blk w3 b 43 #[.int .i64 d1.next,.slice d1.oA d1.opn.length d1.oc,.slice d1.cA d1.accs.length d1.cc,.slice d1.uA d1.auts.length d1.uc,.slice d1.rA d1.ords.length d1.rc,.int .i64 d1.ser]:=ext_blk (by with_reducible (repeat (first|assumption|exact Ext.refl _|refine Ext.drew ?_|refine Ext.alloc ?_ _))) H.out.box
   obtain ⟨v0,v1,v2,v3,v4,v5,f0,f1_,f2_,f3_,f4_,f5_⟩:=st6 k6
   go_simp
   refine hK _ _ (fun h _=>absurd h (by decide)) ?_
   clear hK K
   try simp only [Act.put,zpA,zpB,zpC]
   refine F_some (is:=[12]) (by kernel_rfl) (by simp) (fun i hi=>?_)
   obtain rfl:i=12:=by simpa using hi
   refine F_wy (S:=frontS b d1) (L:=11) rfl (by kernel_rfl) (fun K hK=>?_)
   have k2:Blk w3 (w2.heap.size) 27 #[.int .i64 0,.int .i64 0,.int .i64 0,.int .u64 0,.slice none 0 0,.int .i64 0,.int .i64 0,.int .u64 0,.int .u64 0]:=(by with_reducible (repeat (first|exact Blk.new _ _ _|exact blk_new1 _ _ _ _|refine Blk.drew ?_|refine Blk.alloc ?_ _|refine ext_blk x3 ?_|refine ext_blk x2 ?_)))
   have hne:b<w2.heap.size:=(by have h1:=H.out.box.lt;have h2:=X2.size;omega)
   have k7:=far6 k2 (b:=b) (Nat.ne_of_gt hne) (.int .i64 dd.next) (.slice dd.oA dd.opn.length dd.oc) (.slice dd.cA dd.accs.length dd.cc) (.slice dd.uA dd.auts.length dd.uc) (.slice dd.rA dd.ords.length dd.rc) (.int .i64 dd.ser)
   have k8:=st9 k7
   have g0:=k8.1.1;have g1:=k8.1.2.1;have g2:=k8.1.2.2.1;have g3:=k8.1.2.2.2.1;have g4:=k8.1.2.2.2.2.1;have g5:=k8.1.2.2.2.2.2.1;have g6:=k8.1.2.2.2.2.2.2.1;have g7:=k8.1.2.2.2.2.2.2.2.1;have g8:=k8.1.2.2.2.2.2.2.2.2;have e0:=k8.2.1;have e1:=k8.2.2.1;have e2:=k8.2.2.2.1;have e3:=k8.2.2.2.2.1;have e4:=k8.2.2.2.2.2.1;have e5:=k8.2.2.2.2.2.2.1;have e6:=k8.2.2.2.2.2.2.2.1;have e7:=k8.2.2.2.2.2.2.2.2.1;have e8:=k8.2.2.2.2.2.2.2.2.2
   clear k8
   go_simp
   refine hK _ _ (fun h _=>absurd h (by decide)) ?_
   clear hK K
   try simp only [Act.put,zpA,zpB,zpC]
   refine F_some (is:=[13]) (by kernel_rfl) (by simp) (fun i hi=>?_)
   obtain rfl:i=13:=by simpa using hi
   refine F_wy (S:=frontS b d1) (L:=11) rfl (by kernel_rfl) (fun K hK=>?_)
   go_simp
   refine hK _ _ (fun h _=>absurd h (by decide)) ?_
   clear hK K
   try simp only [Act.put,zpA,zpB,zpC]
   refine F_some (is:=[14]) (by kernel_rfl) (by simp) (fun i hi=>?_)
   obtain rfl:i=14:=by simpa using hi
   refine F_wy (S:=frontS b d1) (L:=11) rfl (by kernel_rfl) (fun K hK=>?_)
   go_simp
   refine hK _ _ (fun h _=>absurd h (by decide)) ?_
   clear hK K
   try simp only [Act.put,zpA,zpB,zpC]
   refine F_done (by kernel_rfl) ?_
   have hLB:=LvD.put2 (q:=s2) (A:=(some ⟨w2.heap.size+1,0,none⟩)) (c:=1) (H.out.later hxw) (W':=w3) x3 hwd hld hfd k2 hne ((hld _ H.out.door.lies).mono (fun k hk=>by have hs:(((w2.alloc (.cells #[.int .i64 0,.int .i64 0,.int .i64 0,.int .u64 0,.slice none 0 0,.int .i64 0,.int .i64 0,.int .u64 0,.int .u64 0] 27)).alloc (.cells #[.string ⟨#[97,46,98]⟩] 9))).heap.size=w2.heap.size+2:=(by simp);have hk':k<W3.heap.size∨(((w2.alloc (.cells #[.int .i64 0,.int .i64 0,.int .i64 0,.int .u64 0,.slice none 0 0,.int .i64 0,.int .i64 0,.int .u64 0,.int .u64 0] 27)).alloc (.cells #[.string ⟨#[97,46,98]⟩] 9))).heap.size≤k:=hk;rw [hs] at hk';have h2:=X2.size;have h3:=X2.size;(try have h5:=hs2);omega))
   have hL:=hLB.1
   have hB:=hLB.2
   exact hQ dd (w2.heap.size) _ _ _ _ _ _ _ _ _ _ _ hL
 ·refine F_wy (S:=frontS b d1) (L:=11) rfl (by kernel_rfl) (fun K hK=>?_)
  go_simp
  replace hHeld:=HC.out ((W3.alloc (.cells #[.int .i64 0,.int .i64 0,.int .i64 0,.int .u64 0,.slice none 0 0,.int .i64 0,.int .i64 0,.int .u64 0,.int .u64 0] 27)).drew) (by with_reducible (repeat (first|assumption|exact Ext.refl _|refine Ext.drew ?_|refine Ext.alloc ?_ _)))
  refine hK _ _ (fun _ _=>hHeld) ?_
  clear hK K
  try simp only [Act.put,zpA,zpB,zpC]
  refine F_some (is:=[1,2]) (by kernel_rfl) (by simp) (fun i hi=>?_)
  simp only [List.mem_cons,List.not_mem_nil,or_false] at hi
  rcases hi with rfl|rfl
  ·refine F_wy (S:=frontS b d1) (L:=11) rfl (by kernel_rfl) (fun K hK=>?_)
   go_simp
   replace hHeld:=HC.out (((W3.alloc (.cells #[.int .i64 0,.int .i64 0,.int .i64 0,.int .u64 0,.slice none 0 0,.int .i64 0,.int .i64 0,.int .u64 0,.int .u64 0] 27)).alloc (.cells #[.string ⟨#[97,46,98]⟩] 9)).drew) (by with_reducible (repeat (first|assumption|exact Ext.refl _|refine Ext.drew ?_|refine Ext.alloc ?_ _)))
   refine hK _ _ (fun _ _=>hHeld) ?_
   clear hK K
   try simp only [Act.put,zpA,zpB,zpC]
   refine F_some (is:=[2]) (by kernel_rfl) (by simp) (fun i hi=>?_)
   obtain rfl:i=2:=by simpa using hi
   refine F_wy (S:=frontS b d1) (L:=11) rfl (by kernel_rfl) (fun K hK=>?_)
   go_simp
   go_at_call 39
   refine (cK _).mono ?_
   rintro e w2 ⟨rfl,x2⟩
   have X2:Ext W3 w2:=Ext.trans (by with_reducible (repeat (first|assumption|exact Ext.refl _|refine Ext.drew ?_|refine Ext.alloc ?_ _))) x2
   have hs2:W3.heap.size+2≤w2.heap.size:=by have hs:(((W3.alloc (.cells #[.int .i64 0,.int .i64 0,.int .i64 0,.int .u64 0,.slice none 0 0,.int .i64 0,.int .i64 0,.int .u64 0,.int .u64 0] 27)).alloc (.cells #[.string ⟨#[97,46,98]⟩] 9))).heap.size=W3.heap.size+2:=(by simp);have h:=x2.size;have h':(((W3.alloc (.cells #[.int .i64 0,.int .i64 0,.int .i64 0,.int .u64 0,.slice none 0 0,.int .i64 0,.int .i64 0,.int .u64 0,.int .u64 0] 27)).alloc (.cells #[.string ⟨#[97,46,98]⟩] 9))).heap.size≤w2.heap.size:=h;omega
   replace hHeld:=HC.out _ X2
   refine hK _ _ (fun _ _=>hHeld) ?_
   clear hK K
   try simp only [Act.put,zpA,zpB,zpC]
   refine F_pr (i:=3) (some 53) (v:=?_) rfl rfl (by kernel_rfl) (fun w=>?_) ?_;rotate_left 1
   ·go_simp;try with_reducible rfl
   try simp only [Act.put,zpA,zpB,zpC]
   refine F_some (is:=[4]) (by kernel_rfl) (by simp) (fun i hi=>?_)
   obtain rfl:i=4:=by simpa using hi
   refine F_wy (S:=frontS b d1) (L:=11) rfl (by kernel_rfl) (fun K hK=>?_)
   go_simp
   go_at_call 40
   have hbs:Blk (w2) (W3.heap.size+1) 9 #[.string ⟨#[97,46,98]⟩]:=(by with_reducible (repeat (first|exact Blk.new _ _ _|exact blk_new1 _ _ _ _|refine Blk.drew ?_|refine Blk.alloc ?_ _|refine ext_blk x3 ?_|refine ext_blk x2 ?_)))
   refine (cA (w2) (by with_reducible (repeat (first|assumption|exact Ext.refl _|refine Ext.drew ?_|refine Ext.alloc ?_ _))) (W3.heap.size+1) (reads_one hbs)).mono ?_
   rintro e w3 ⟨dd,rfl,hfd,hwd,hld,hqd,x3⟩
   have X3:Ext W3 w3:=Ext.trans (by with_reducible (repeat (first|assumption|exact Ext.refl _|refine Ext.drew ?_|refine Ext.alloc ?_ _))) x3
   have hxw:Ext W3 w2:=(by with_reducible (repeat (first|assumption|exact Ext.refl _|refine Ext.drew ?_|refine Ext.alloc ?_ _)))
   replace hHeld:=HC.out _ X3
   refine hK _ _ (fun _ _=>hHeld) ?_
   clear hK K
   try simp only [Act.put,zpA,zpB,zpC]
   refine F_pr (i:=5) (some 49) (v:=?_) rfl rfl (by kernel_rfl) (fun w=>?_) ?_;rotate_left 1
   ·go_simp;try with_reducible rfl
   try simp only [Act.put,zpA,zpB,zpC]
   refine F_pr (i:=6) (some 55) (v:=?_) rfl rfl (by kernel_rfl) (fun w=>?_) ?_;rotate_left 1
   ·go_simp;try with_reducible rfl
   try simp only [Act.put,zpA,zpB,zpC]
   refine F_pr (i:=7) (some 56) (v:=?_) rfl rfl (by kernel_rfl) (fun w=>?_) ?_;rotate_left 1
   ·go_simp;try with_reducible rfl
   try simp only [Act.put,zpA,zpB,zpC]
   refine F_pr (i:=8) (some 57) (v:=?_) rfl rfl (by kernel_rfl) (fun w=>?_) ?_;rotate_left 1
   ·go_simp;try with_reducible rfl
   try simp only [Act.put,zpA,zpB,zpC]
   refine F_pr (i:=9) (some 58) (v:=?_) rfl rfl (by kernel_rfl) (fun w=>?_) ?_;rotate_left 1
   ·go_simp;try with_reducible rfl
   try simp only [Act.put,zpA,zpB,zpC]
   refine F_some (is:=[11]) (by kernel_rfl) (by simp) (fun i hi=>?_)
   obtain rfl:i=11:=by simpa using hi
   refine F_wy (S:=frontS b d1) (L:=11) rfl (by kernel_rfl) (fun K hK=>?_)
   have k6:Blk w3 b 43 #[.int .i64 d1.next,.slice d1.oA d1.opn.length d1.oc,.slice d1.cA d1.accs.length d1.cc,.slice d1.uA d1.auts.length d1.uc,.slice d1.rA d1.ords.length d1.rc,.int .i64 d1.ser]:=ext_blk (by with_reducible (repeat (first|assumption|exact Ext.refl _|refine Ext.drew ?_|refine Ext.alloc ?_ _))) H.out.box
   obtain ⟨v0,v1,v2,v3,v4,v5,f0,f1_,f2_,f3_,f4_,f5_⟩:=st6 k6
   go_simp
   refine hK _ _ (fun h _=>absurd h (by decide)) ?_
   clear hK K
   try simp only [Act.put,zpA,zpB,zpC]
   refine F_some (is:=[12]) (by kernel_rfl) (by simp) (fun i hi=>?_)
   obtain rfl:i=12:=by simpa using hi
   refine F_wy (S:=frontS b d1) (L:=11) rfl (by kernel_rfl) (fun K hK=>?_)
   have k2:Blk w3 (W3.heap.size) 27 #[.int .i64 0,.int .i64 0,.int .i64 0,.int .u64 0,.slice none 0 0,.int .i64 0,.int .i64 0,.int .u64 0,.int .u64 0]:=(by with_reducible (repeat (first|exact Blk.new _ _ _|exact blk_new1 _ _ _ _|refine Blk.drew ?_|refine Blk.alloc ?_ _|refine ext_blk x3 ?_|refine ext_blk x2 ?_)))
   have hne:b<W3.heap.size:=(by have h1:=H.out.box.lt;omega)
   have k7:=far6 k2 (b:=b) (Nat.ne_of_gt hne) (.int .i64 dd.next) (.slice dd.oA dd.opn.length dd.oc) (.slice dd.cA dd.accs.length dd.cc) (.slice dd.uA dd.auts.length dd.uc) (.slice dd.rA dd.ords.length dd.rc) (.int .i64 dd.ser)
   have k8:=st9 k7
   have g0:=k8.1.1;have g1:=k8.1.2.1;have g2:=k8.1.2.2.1;have g3:=k8.1.2.2.2.1;have g4:=k8.1.2.2.2.2.1;have g5:=k8.1.2.2.2.2.2.1;have g6:=k8.1.2.2.2.2.2.2.1;have g7:=k8.1.2.2.2.2.2.2.2.1;have g8:=k8.1.2.2.2.2.2.2.2.2;have e0:=k8.2.1;have e1:=k8.2.2.1;have e2:=k8.2.2.2.1;have e3:=k8.2.2.2.2.1;have e4:=k8.2.2.2.2.2.1;have e5:=k8.2.2.2.2.2.2.1;have e6:=k8.2.2.2.2.2.2.2.1;have e7:=k8.2.2.2.2.2.2.2.2.1;have e8:=k8.2.2.2.2.2.2.2.2.2
   clear k8
   go_simp
   refine hK _ _ (fun h _=>absurd h (by decide)) ?_
   clear hK K
   try simp only [Act.put,zpA,zpB,zpC]
   refine F_some (is:=[13]) (by kernel_rfl) (by simp) (fun i hi=>?_)
   obtain rfl:i=13:=by simpa using hi
   refine F_wy (S:=frontS b d1) (L:=11) rfl (by kernel_rfl) (fun K hK=>?_)
   go_simp
   refine hK _ _ (fun h _=>absurd h (by decide)) ?_
   clear hK K
   try simp only [Act.put,zpA,zpB,zpC]
   refine F_some (is:=[14]) (by kernel_rfl) (by simp) (fun i hi=>?_)
   obtain rfl:i=14:=by simpa using hi
   refine F_wy (S:=frontS b d1) (L:=11) rfl (by kernel_rfl) (fun K hK=>?_)
   go_simp
   refine hK _ _ (fun h _=>absurd h (by decide)) ?_
   clear hK K
   try simp only [Act.put,zpA,zpB,zpC]
   refine F_done (by kernel_rfl) ?_
   have hLB:=LvD.put2 (q:=s2) (A:=(some ⟨W3.heap.size+1,0,none⟩)) (c:=1) (H.out.later hxw) (W':=w3) x3 hwd hld hfd k2 hne ((hld _ H.out.door.lies).mono (fun k hk=>by have hs:(w2).heap.size=w2.heap.size+0:=(by simp);have hk':k<W3.heap.size∨(w2).heap.size≤k:=hk;rw [hs] at hk';have h3:=X2.size;(try have h5:=hs2);omega))
   have hL:=hLB.1
   have hB:=hLB.2
   exact hQ dd (W3.heap.size) _ _ _ _ _ _ _ _ _ _ _ hL
  ·refine F_wy (S:=frontS b d1) (L:=11) rfl (by kernel_rfl) (fun K hK=>?_)
   go_simp
   go_at_call 39
   refine (cK _).mono ?_
   rintro e w2 ⟨rfl,x2⟩
   have X2:Ext W3 w2:=Ext.trans (by with_reducible (repeat (first|assumption|exact Ext.refl _|refine Ext.drew ?_|refine Ext.alloc ?_ _))) x2
   have hs2:W3.heap.size+1≤w2.heap.size:=by have hs:((W3.alloc (.cells #[.int .i64 0,.int .i64 0,.int .i64 0,.int .u64 0,.slice none 0 0,.int .i64 0,.int .i64 0,.int .u64 0,.int .u64 0] 27))).heap.size=W3.heap.size+1:=(by simp);have h:=x2.size;have h':((W3.alloc (.cells #[.int .i64 0,.int .i64 0,.int .i64 0,.int .u64 0,.slice none 0 0,.int .i64 0,.int .i64 0,.int .u64 0,.int .u64 0] 27))).heap.size≤w2.heap.size:=h;omega
   replace hHeld:=HC.out _ X2
   refine hK _ _ (fun _ _=>hHeld) ?_
   clear hK K
   try simp only [Act.put,zpA,zpB,zpC]
   refine F_some (is:=[1]) (by kernel_rfl) (by simp) (fun i hi=>?_)
   obtain rfl:i=1:=by simpa using hi
   refine F_wy (S:=frontS b d1) (L:=11) rfl (by kernel_rfl) (fun K hK=>?_)
   go_simp
   replace hHeld:=HC.out ((w2.alloc (.cells #[.string ⟨#[97,46,98]⟩] 9))) (by with_reducible (repeat (first|assumption|exact Ext.refl _|refine Ext.drew ?_|refine Ext.alloc ?_ _)))
   refine hK _ _ (fun _ _=>hHeld) ?_
   clear hK K
   try simp only [Act.put,zpA,zpB,zpC]
   refine F_pr (i:=3) (some 53) (v:=?_) rfl rfl (by kernel_rfl) (fun w=>?_) ?_;rotate_left 1
   ·go_simp;try with_reducible rfl
   try simp only [Act.put,zpA,zpB,zpC]
   refine F_some (is:=[4]) (by kernel_rfl) (by simp) (fun i hi=>?_)
   obtain rfl:i=4:=by simpa using hi
   refine F_wy (S:=frontS b d1) (L:=11) rfl (by kernel_rfl) (fun K hK=>?_)
   go_simp
   go_at_call 40
   have hbs:Blk ((w2.alloc (.cells #[.string ⟨#[97,46,98]⟩] 9))) (w2.heap.size) 9 #[.string ⟨#[97,46,98]⟩]:=(by with_reducible (repeat (first|exact Blk.new _ _ _|exact blk_new1 _ _ _ _|refine Blk.drew ?_|refine Blk.alloc ?_ _|refine ext_blk x3 ?_|refine ext_blk x2 ?_)))
   refine (cA ((w2.alloc (.cells #[.string ⟨#[97,46,98]⟩] 9))) (by with_reducible (repeat (first|assumption|exact Ext.refl _|refine Ext.drew ?_|refine Ext.alloc ?_ _))) (w2.heap.size) (reads_one hbs)).mono ?_
   rintro e w3 ⟨dd,rfl,hfd,hwd,hld,hqd,x3⟩
   have X3:Ext W3 w3:=Ext.trans (by with_reducible (repeat (first|assumption|exact Ext.refl _|refine Ext.drew ?_|refine Ext.alloc ?_ _))) x3
   have hxw:Ext W3 (w2.alloc (.cells #[.string ⟨#[97,46,98]⟩] 9)):=(by with_reducible (repeat (first|assumption|exact Ext.refl _|refine Ext.drew ?_|refine Ext.alloc ?_ _)))
   replace hHeld:=HC.out _ X3
   refine hK _ _ (fun _ _=>hHeld) ?_
   clear hK K
   try simp only [Act.put,zpA,zpB,zpC]
   refine F_pr (i:=5) (some 49) (v:=?_) rfl rfl (by kernel_rfl) (fun w=>?_) ?_;rotate_left 1
   ·go_simp;try with_reducible rfl
   try simp only [Act.put,zpA,zpB,zpC]
   refine F_pr (i:=6) (some 55) (v:=?_) rfl rfl (by kernel_rfl) (fun w=>?_) ?_;rotate_left 1
   ·go_simp;try with_reducible rfl
   try simp only [Act.put,zpA,zpB,zpC]
   refine F_pr (i:=7) (some 56) (v:=?_) rfl rfl (by kernel_rfl) (fun w=>?_) ?_;rotate_left 1
   ·go_simp;try with_reducible rfl
   try simp only [Act.put,zpA,zpB,zpC]
   refine F_pr (i:=8) (some 57) (v:=?_) rfl rfl (by kernel_rfl) (fun w=>?_) ?_;rotate_left 1
   ·go_simp;try with_reducible rfl
   try simp only [Act.put,zpA,zpB,zpC]
   refine F_pr (i:=9) (some 58) (v:=?_) rfl rfl (by kernel_rfl) (fun w=>?_) ?_;rotate_left 1
   ·go_simp;try with_reducible rfl
   try simp only [Act.put,zpA,zpB,zpC]
   refine F_some (is:=[11]) (by kernel_rfl) (by simp) (fun i hi=>?_)
   obtain rfl:i=11:=by simpa using hi
   refine F_wy (S:=frontS b d1) (L:=11) rfl (by kernel_rfl) (fun K hK=>?_)
   have k6:Blk w3 b 43 #[.int .i64 d1.next,.slice d1.oA d1.opn.length d1.oc,.slice d1.cA d1.accs.length d1.cc,.slice d1.uA d1.auts.length d1.uc,.slice d1.rA d1.ords.length d1.rc,.int .i64 d1.ser]:=ext_blk (by with_reducible (repeat (first|assumption|exact Ext.refl _|refine Ext.drew ?_|refine Ext.alloc ?_ _))) H.out.box
   obtain ⟨v0,v1,v2,v3,v4,v5,f0,f1_,f2_,f3_,f4_,f5_⟩:=st6 k6
   go_simp
   refine hK _ _ (fun h _=>absurd h (by decide)) ?_
   clear hK K
   try simp only [Act.put,zpA,zpB,zpC]
   refine F_some (is:=[12]) (by kernel_rfl) (by simp) (fun i hi=>?_)
   obtain rfl:i=12:=by simpa using hi
   refine F_wy (S:=frontS b d1) (L:=11) rfl (by kernel_rfl) (fun K hK=>?_)
   have k2:Blk w3 (W3.heap.size) 27 #[.int .i64 0,.int .i64 0,.int .i64 0,.int .u64 0,.slice none 0 0,.int .i64 0,.int .i64 0,.int .u64 0,.int .u64 0]:=(by with_reducible (repeat (first|exact Blk.new _ _ _|exact blk_new1 _ _ _ _|refine Blk.drew ?_|refine Blk.alloc ?_ _|refine ext_blk x3 ?_|refine ext_blk x2 ?_)))
   have hne:b<W3.heap.size:=(by have h1:=H.out.box.lt;omega)
   have k7:=far6 k2 (b:=b) (Nat.ne_of_gt hne) (.int .i64 dd.next) (.slice dd.oA dd.opn.length dd.oc) (.slice dd.cA dd.accs.length dd.cc) (.slice dd.uA dd.auts.length dd.uc) (.slice dd.rA dd.ords.length dd.rc) (.int .i64 dd.ser)
   have k8:=st9 k7
   have g0:=k8.1.1;have g1:=k8.1.2.1;have g2:=k8.1.2.2.1;have g3:=k8.1.2.2.2.1;have g4:=k8.1.2.2.2.2.1;have g5:=k8.1.2.2.2.2.2.1;have g6:=k8.1.2.2.2.2.2.2.1;have g7:=k8.1.2.2.2.2.2.2.2.1;have g8:=k8.1.2.2.2.2.2.2.2.2;have e0:=k8.2.1;have e1:=k8.2.2.1;have e2:=k8.2.2.2.1;have e3:=k8.2.2.2.2.1;have e4:=k8.2.2.2.2.2.1;have e5:=k8.2.2.2.2.2.2.1;have e6:=k8.2.2.2.2.2.2.2.1;have e7:=k8.2.2.2.2.2.2.2.2.1;have e8:=k8.2.2.2.2.2.2.2.2.2
   clear k8
   go_simp
   refine hK _ _ (fun h _=>absurd h (by decide)) ?_
   clear hK K
   try simp only [Act.put,zpA,zpB,zpC]
   refine F_some (is:=[13]) (by kernel_rfl) (by simp) (fun i hi=>?_)
   obtain rfl:i=13:=by simpa using hi
   refine F_wy (S:=frontS b d1) (L:=11) rfl (by kernel_rfl) (fun K hK=>?_)
   go_simp
   refine hK _ _ (fun h _=>absurd h (by decide)) ?_
   clear hK K
   try simp only [Act.put,zpA,zpB,zpC]
   refine F_some (is:=[14]) (by kernel_rfl) (by simp) (fun i hi=>?_)
   obtain rfl:i=14:=by simpa using hi
   refine F_wy (S:=frontS b d1) (L:=11) rfl (by kernel_rfl) (fun K hK=>?_)
   go_simp
   refine hK _ _ (fun h _=>absurd h (by decide)) ?_
   clear hK K
   try simp only [Act.put,zpA,zpB,zpC]
   refine F_done (by kernel_rfl) ?_
   have hLB:=LvD.put2 (q:=s2) (A:=(some ⟨w2.heap.size,0,none⟩)) (c:=1) (H.out.later hxw) (W':=w3) x3 hwd hld hfd k2 hne ((hld _ H.out.door.lies).mono (fun k hk=>by have hs:((w2.alloc (.cells #[.string ⟨#[97,46,98]⟩] 9))).heap.size=w2.heap.size+1:=(by simp);have hk':k<W3.heap.size∨((w2.alloc (.cells #[.string ⟨#[97,46,98]⟩] 9))).heap.size≤k:=hk;rw [hs] at hk';have h3:=X2.size;(try have h5:=hs2);omega))
   have hL:=hLB.1
   have hB:=hLB.2
   exact hQ dd (W3.heap.size) _ _ _ _ _ _ _ _ _ _ _ hL
