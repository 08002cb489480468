/- Parts of the proofs, put together: Or12, Or13, Or14, Or15, Or16, Or18, OrT4, OrT5, Or17, Or19. -/
import Derived.Test.YtbhdmfijdhcehaaGreatDoorP13
import Derived.Test.YtbhdmfijdhcehaaGreatDoorP18
set_option maxRecDepth 100000
set_option maxHeartbeats 64000000
namespace Go.Proofs.YtbhdmfijdhcehaaGreatDoor
open Go.RowKit Go.Shelf Go.Maps
set_option linter.unusedSimpArgs false
set_option linter.unusedVariables false
theorem nonV_set (l:List NonR) (i:Nat) (x:NonR):((nonV l).set (i*2) (.int .i64 x.n)).set (i*2+1) (.int .i64 x.u)=nonV (l.set i x):=by
 induction l generalizing i with
 | nil=>simp [nonV]
 | cons a l ih =>
  cases i with
  | zero=>simp [nonV,nonC]
  | succ i =>
   have e:nonV (a :: l)=.int .i64 a.n :: .int .i64 a.u :: nonV l:=rfl
   rw [e,show (i+1)*2=i*2+1+1 by omega]
   simp only [List.set_cons_succ]
   rw [ih i]
   rfl
theorem nonV_take (l:List NonR) (i:Nat):(nonV l).take (i*2)=nonV (l.take i):=by
 induction l generalizing i with
 | nil=>simp [nonV]
 | cons a l ih =>
  cases i with
  | zero=>simp [nonV]
  | succ i =>
   have e:nonV (a :: l)=.int .i64 a.n :: .int .i64 a.u :: nonV l:=rfl
   rw [e,show (i+1)*2=i*2+1+1 by omega]
   simp only [List.take_succ_cons]
   rw [ih i]
   rfl
theorem own_at {w:World} {base g n cap:Nat} {e:TypeId} {l:List NonR} (h:w.ownsRow base e 2 (.slice (some ⟨g,0,none⟩) n cap) n (nonV l)) {j:Nat} {x:NonR} (hj:l[j]?=some x) :
  w.cell? ⟨g,j*2,none⟩=some (.int .i64 x.n)∧w.cell? ⟨g,j*2+1,none⟩=some (.int .i64 x.u):=by
 have hl:=(List.getElem?_eq_some_iff.1 hj).1
 have h1:=h.1
 rw [nonV_length] at h1
 refine ⟨?_,?_⟩
 ·rw [h.cellAt (j*2) (by omega)];exact fm_at nonC (k:=2) (fun _=>rfl) hj (i:=0) (by decide)
 ·rw [h.cellAt (j*2+1) (by omega)];exact fm_at nonC (k:=2) (fun _=>rfl) hj (i:=1) (by decide)
def delRow (now:Int) (l:List NonR) (j:Nat) (ys:List NonR):List NonR:=trimF (l.take j) now++ys++l.drop j
theorem delRow_at {now:Int} {l ys:List NonR} {i j:Nat} {x:NonR} (hi:i=(trimF (l.take j) now).length) (hy:ys.length+i=j) (hx:l[j]?=some x):(delRow now l j ys)[j]?=some x:=by
 unfold delRow
 rw [List.getElem?_append_right (by rw [List.length_append];omega),List.length_append,show j-((trimF (l.take j) now).length+ys.length)=0 by omega,List.getElem?_drop,Nat.add_zero,hx]
theorem trimF_snoc (now:Int) (l:List NonR) (x:NonR):trimF (l++[x]) now=trimF l now++(if now≤x.u then [x] else []):=by
 unfold trimF
 rw [List.filter_append]
 congr 1
 by_cases h:now≤x.u <;> simp [h]
theorem take_snoc {α:Type} {l:List α} {j:Nat} {x:α} (h:l[j]?=some x):l.take (j+1)=l.take j++[x]:=by rw [List.take_add_one,h];rfl
theorem drop_at {α:Type} {l:List α} {j:Nat} {x:α} (h:l[j]?=some x):l.drop j=x :: l.drop (j+1):=by
 obtain ⟨hj,rfl⟩:=List.getElem?_eq_some_iff.1 h
 exact List.drop_eq_getElem_cons hj
theorem delRow_keep {now:Int} {l ys:List NonR} {i j:Nat} {x y:NonR} (hi:i=(trimF (l.take j) now).length) (hx:l[j]?=some x) (hk:now≤x.u):(delRow now l j (y :: ys)).set i x=delRow now l (j+1) (ys++[x]):=by
 unfold delRow
 rw [take_snoc hx,trimF_snoc,if_pos hk,drop_at hx,hi]
 simp
theorem delRow_drop {now:Int} {l ys:List NonR} {j:Nat} {x:NonR} (hx:l[j]?=some x) (hk:¬ now≤x.u):delRow now l j ys=delRow now l (j+1) (ys++[x]):=by
 unfold delRow
 rw [take_snoc hx,trimF_snoc,if_neg hk,drop_at hx]
 simp
theorem dfunc_any (now:Int) (gb:Nat) (l:List NonR) (hn:l.length≤1099511627776) (v:Value) (base:Nat) (w:World) (hbase:base≤w.heap.size) (hown:w.ownsRow base 102 2 v l.length (nonV l))
  (hc:w.cell? ⟨gb,0,none⟩=some (.int .i64 now)) (hgb:v.ownBlock≠some gb) :
  Calls Tryz.prog 141 #[v,.func (.func 125) #[] #[.pointer (some ⟨gb,0,none⟩)]] w fun e w' =>
   ∃ v',e=.returned v'∧w'.ownsRow base 102 2 v' (trimF l now).length (nonV (trimF l now))∧Below base w w':=by
 have c0:=fun (A:Option Addr) (c:Nat) (hr:Reads w w.heap.size 2 A l.length (nonV l))=>indexN_any _ old1_enters #[.pointer (some ⟨gb,0,none⟩)] (fun x=>decide (x.u<now)) l hn A c w hr (fun W s _ x=>old1_any s now gb W (x.cell hc))
 have hz:∀ w,(zeroValue 102).run Tryz.prog w=.ok (.agg #[.int .i64 0,.int .i64 0]) w:=fun w=>by kernel_rfl
 rcases hown.2 with ⟨rfl,h0⟩|⟨g,cap,cur,rfl,hbg,hh,hnc,_⟩
 ·have hl:l=[]:=List.eq_nil_of_length_eq_zero h0
  subst hl
  have c1:=c0 none 0 Reads.none_
  rw [show ixG (fun x:NonR=>decide (x.u<now)) []=-1 from rfl] at c1
  clear c0
  go_enter Tryz.func141,Tryz.ntmps141
  go_wp2_with (go_at_call 160;refine (c1).mono ?_;clear c1;rintro e w1 ⟨rfl,x1⟩)
  go_ret
  exact ⟨_,rfl,World.ownsRow_nil _ _ _ _,Below.mono x1.out hbase⟩
 have hgg:g≠gb:=fun e=>hgb (by rw [e];rfl)
 have c1:=c0 _ cap (Reads.of_own hown)
 cases hf:l.findIdx? (fun x=>decide (x.u<now)) with
 | none =>
  have hall:=List.findIdx?_eq_none_iff.1 hf
  rw [show ixG (fun x:NonR=>decide (x.u<now)) l=-1 by unfold ixG;rw [hf]] at c1
  have e1:trimF l now=l:=List.filter_eq_self.2 fun x hx=>by have:=hall x hx;simp at this ⊢;omega
  rw [e1]
  have HO:=Lib.hid hown
  clear c0 hall hf e1 hown
  go_enter Tryz.func141,Tryz.ntmps141
  go_wp2_with (go_at_call 160;refine (c1).mono ?_;clear c1;rintro e w1 ⟨rfl,x1⟩)
  go_ret
  exact ⟨_,rfl,own_ext HO.out x1,Below.mono x1.out hbase⟩
 | some i0 =>
  obtain ⟨hi0,hd0,hk0⟩:=List.findIdx?_eq_some_iff_getElem.1 hf
  rw [show ixG (fun x:NonR=>decide (x.u<now)) l=(i0:Int) by unfold ixG;rw [hf]] at c1
  have e1:trimF (l.take i0) now=l.take i0:=List.filter_eq_self.2 fun x hx=>by
   obtain ⟨j,hj,rfl⟩:=List.mem_take_iff_getElem.1 hx
   have:=hk0 j (by omega);simp at this ⊢;omega
  have e2:delRow now l (i0+1) [l[i0]]=l:=by
   have e3:l[i0]?=some l[i0]:=List.getElem?_eq_getElem hi0
   unfold delRow
   rw [take_snoc e3,trimF_snoc,if_neg (by simp at hd0;omega),e1,List.append_nil,List.append_assoc,List.singleton_append,← drop_at e3,List.take_append_drop]
  have e4:i0=(trimF (l.take (i0+1)) now).length:=by
   rw [take_snoc (List.getElem?_eq_getElem hi0),trimF_snoc,if_neg (by simp at hd0;omega),e1,List.append_nil,List.length_take];omega
  have HO:=Lib.hid hown
  have HE2:=Lib.hid e2
  have HE4:=Lib.hid e4
  have HN:=Lib.hid hn
  have HI0:=Lib.hid hi0
  have hib:(i0:Int)≤1099511627776:=by omega
  have hnz:(i0:Int)≠-1:=by omega
  clear c0 hf e1 hown e2 e4 hd0 hk0 hh hn hnc
  go_enter Tryz.func141,Tryz.ntmps141
  go_wp2_with (go_at_call 160;refine (c1).mono ?_;clear c1;rintro e w1 ⟨rfl,x1⟩)
  have hi0:=HI0.out
  go_loopg [5,6] l.length (fun m s5 s6 wr=>∃ (i j:Nat) (ys:List NonR),l.length≤j+m∧j≤l.length∧s5=.int .i64 i∧s6=.int .i64 j∧i=(trimF (l.take j) now).length∧ys.length+i=j∧0<ys.length ∧
   wr.ownsRow base 102 2 (.slice (some ⟨g,0,none⟩) l.length cap) l.length (nonV (delRow now l j ys))∧wr.cell? ⟨gb,0,none⟩=some (.int .i64 now)∧Below base w wr)
  case atStart=>exact ⟨i0,i0+1,[l[i0]],by omega,by omega,rfl,int_congr (by omega),HE4.out,by simp;omega,by simp,by rw [HE2.out];exact own_ext HO.out x1,x1.cell hc,Below.mono x1.out hbase⟩
  case round =>
   obtain ⟨i,j,ys,hj,hjn,rfl,rfl,hi,hy,hy0,ho,hcc,hB⟩:=hrel
   have hjb:(j:Int)≤1099511627776:=by have:=HN.out;omega
   have hijb:(i:Int)≤j:=by omega
   by_cases h:j<l.length
   ·obtain ⟨x,hs⟩:∃ s,l[j]?=some s:=⟨_,List.getElem?_eq_getElem h⟩
    obtain ⟨q0,q1⟩:=own_at ho (delRow_at hi hy hs)
    obtain ⟨y,t,rfl⟩:∃ y t,ys=y :: t:=by cases ys with|nil=>simp at hy0|cons y t=>exact ⟨y,t,rfl⟩
    have hyi:(delRow now l j (y :: t))[i]?=some y:=by
     unfold delRow
     rw [List.append_assoc,List.getElem?_append_right (by omega),show i-(trimF (l.take j) now).length=0 by omega]
     rfl
    have c2:=fun W (h:World.cell? W ⟨gb,0,none⟩=some (.int .i64 now))=>old1_any x now gb W h
    have hcA:=((Ext.refl wr).alloc (.cells #[.int .i64 x.n,.int .i64 x.u] 102)).cell hcc
    obtain ⟨b0,b1⟩:=two (Blk.new wr 102 #[.int .i64 x.n,.int .i64 x.u])
    have hjl:(j:Int)<(l.length:Int):=by omega
    have hil:(i:Int)<(l.length:Int):=by simp at hy;omega
    have HO2:=Lib.hid ho
    have HB:=Lib.hid hB
    have HJ:Hid (l.length≤j+gk∧j≤l.length):=Lib.hid ⟨hj,hjn⟩
    have HI:=Lib.hid hi
    have HY:=Lib.hid hy
    have HS:=Lib.hid hs
    have HYI:=Lib.hid hyi
    clear ho hB hj hi hy hs hyi hjn
    by_cases hk:x.u<now
    ·rw [decide_eq_true hk] at c2
     have HR:=Lib.hid (delRow_drop (now:=now) (ys:=y :: t) HS.out (by omega))
     have HT:Hid (trimF (l.take (j+1)) now=trimF (l.take j) now):=Lib.hid (by rw [take_snoc HS.out,trimF_snoc,if_neg (by omega),List.append_nil])
     go_wp2_with (go_at_call 125;refine (c2 _ hcA).mono ?_;clear c2;rintro e w2 ⟨rfl,x2⟩)
     have hj:=HJ.out
     have hy:=HY.out
     go_roundg (gk-1)
     case measure=>omega
     case rel=>exact ⟨i,j+1,y :: t++[x],by omega,by omega,rfl,int_congr (by omega),by rw [HT.out];exact HI.out,by simp at hy ⊢;omega,by simp,by rw [← HR.out];exact own_ext (HO2.out.alloc _) x2,x2.cell hcA,HB.out.trans (Below.mono (((Ext.refl wr).alloc _).trans x2).out (Nat.le_trans hbase HB.out.size))⟩
    ·rw [decide_eq_false hk] at c2
     have HR:=Lib.hid (delRow_keep HI.out HS.out (ys:=t) (y:=y) (by omega))
     have HT:Hid ((trimF (l.take (j+1)) now).length=(trimF (l.take j) now).length+1):=Lib.hid (by rw [take_snoc HS.out,trimF_snoc,if_pos (by omega)];simp)
     go_wp2_with (go_at_call 125;refine (c2 _ hcA).mono ?_;clear c2;rintro e w2 ⟨rfl,x2⟩;have d0:=x2.cell b0;have d1:=x2.cell b1;have o2:=own_ext (HO2.out.alloc _) x2;obtain ⟨p0,p1⟩:=own_at o2 HYI.out;have f0:=o2.frozenAt (i*2);have f1:=o2.frozenAt (i*2+1);have O2:=Lib.hid o2;clear o2)
     have hj:=HJ.out
     have hy:=HY.out
     obtain ⟨s1,g1⟩:=O2.out.stored (i*2) (.int .i64 x.n)
     obtain ⟨s2,g2⟩:=s1.stored (i*2+1) (.int .i64 x.u)
     rw [nonV_set,HR.out] at s2
     have xx:=((Ext.refl wr).alloc (.cells #[.int .i64 x.n,.int .i64 x.u] 102)).trans x2
     have hB2:=HB.out.trans (Below.mono xx.out (Nat.le_trans hbase HB.out.size))
     go_roundg (gk-1)
     case measure=>omega
     case rel=>exact ⟨i+1,j+1,t++[x],by omega,by omega,int_congr (by omega),int_congr (by omega),by rw [HT.out,← HI.out],by simp at hy ⊢;omega,by simp,s2,(World.cell?_of_block (g2.block gb (by have:=g1.size;have:=(cell_lt (x2.cell hcA));simp at this;omega) (fun e=>hgg (by cases e;rfl)))).trans ((World.cell?_of_block (g1.block gb (by have:=(cell_lt (x2.cell hcA));simp at this;omega) (fun e=>hgg (by cases e;rfl)))).trans (x2.cell hcA)),(hB2.grown g1 (Nat.le_trans hbase hB2.size) (fun k e=>by cases e;exact hbg)).grown g2 (Nat.le_trans hbase (Nat.le_trans hB2.size g1.size)) (fun k e=>by cases e;exact hbg)⟩
   ·obtain rfl:j=l.length:=by omega
    rw [List.take_length] at hi
    have hil:i≤l.length:=by omega
    have hR:delRow now l l.length ys=trimF l now++ys:=by unfold delRow;rw [List.take_length,List.drop_length,List.append_nil]
    rw [hR] at ho
    have O:=Lib.hid ho
    have HB:=Lib.hid hB
    have HI:=Lib.hid hi
    have HY:=Lib.hid hy
    have hcap:=own_cap ho
    have hilI:(i:Int)≤(l.length:Int):=by omega
    have hcapI:(l.length:Int)≤(cap:Int):=by omega
    have hicap:(i:Int)≤(cap:Int):=by omega
    have hci:¬ cap=i:=by omega
    clear ho hB hi hy hR hj hjn
    obtain ⟨w2,hrun,o2,hg2⟩:=run_clear_own (P:=Tryz.prog) wr base 36 0 102 (.agg #[.int .i64 0,.int .i64 0]) 2 Tryz.underlying36 hz (by decide) (by decide) g l.length cap i _ O.out hil (some ⟨g,i*2,none⟩) (fun _=>rfl) (cap-i)
    have O2:=Lib.hid o2
    have HG:=Lib.hid hg2
    clear o2 hg2
    go_wp2
    go_ret
    have o2:=O2.out
    have hg2:=HG.out
    have e2:(nonV (trimF l now++ys)).take (i*2)=nonV (trimF l now):=by rw [nonV_take,HI.out,List.take_left'];rfl
    rw [e2,HI.out] at o2
    refine ⟨.slice (some ⟨g,0,none⟩) (trimF l now).length cap,by rw [← HI.out];first|rfl|simp,o2,HB.out.grown hg2 (Nat.le_trans hbase HB.out.size) (fun k e=>by cases e;exact hbg)⟩
theorem startP (w:World) (x y:Array Value) (T U:TypeId):∃ W,(w.alloc (.cells x T)).alloc (.cells y U)=W∧Blk W w.heap.size T x∧Blk W (w.heap.size+1) U y∧Ext w W∧W.heap.size=w.heap.size+2:=by
 refine ⟨_,rfl,(Blk.new w T x).alloc _,?_,((Ext.refl w).alloc _).alloc _,by simp⟩
 have:=Blk.new (w.alloc (.cells x T)) U y
 rwa [World.size_alloc] at this
theorem grown_set (W:World) (g i:Nat) (u:Value):W.grownBy (W.setCell ⟨g,i,none⟩ u) (some g) :=
 ⟨rfl,rfl,rfl,(KeepsWalks.setCell W _ u).size,fun k _ hk=>Below.heap_setCell _ _ _ k (fun e=>hk (by rw [e]))⟩
theorem own_far {w:World} {base:Nat} {e:TypeId} {size n:Nat} {v:Value} {xs:List Value} (h:w.ownsRow base e size v n xs) {g:Nat} (hg:g<base) (i:Nat) (u:Value):(w.setCell ⟨g,i,none⟩ u).ownsRow base e size v n xs:=by
 refine h.kept (grown_set w g i u) ?_
 cases hb:v.ownBlock with
 | none=>exact .inl rfl
 | some k=>exact .inr (fun e=>by cases e;have:=(h.lt _ hb).1;omega)
theorem own_out {w:World} {base:Nat} {e:TypeId} {size n:Nat} {v:Value} {xs:List Value} (h:w.ownsRow base e size v n xs):∀ k,v.ownBlock=some k→base≤k:=fun k hk=>(h.lt k hk).1
theorem Trim_any (next:Int) (l:List NonR) (A:Option Addr) (c:Nat) (now:Int) (w:World) (hw:NonsW w w.heap.size next l A c) :
  Calls Tryz.prog 115 #[fenV next l A c,.int .i64 now] w fun e w'=>∃ A' c',e=.returned (.agg #[.int .i64 next,.slice A' (trimF l now).length c'])∧w'.ownsRow w.heap.size 102 2 (.slice A' (trimF l now).length c') (trimF l now).length (nonV (trimF l now))∧Ext w w':=by
 unfold fenV
 obtain ⟨W0,e0,b0,b1,x0,s0⟩:=startP w #[.int .i64 next,.slice A l.length c] #[.int .i64 0,.slice none 0 0] 38 38
 have cC:∀ W,Ext W0 W→Calls Tryz.prog 92 #[.slice A l.length c] W fun e w'=>∃ v,e=.returned v∧w'.ownsRow W0.heap.size 102 2 v l.length (nonV l)∧(∀ k,v.ownBlock=some k→W.heap.size≤k)∧Ext W w':=fun W x =>
  (cloneN_any A l.length c (nonV l) (nonV_one l) hw.len W (hw.ext (x0.trans x)).lst).mono fun e w' ⟨v,h1,h2,h3⟩=>⟨v,h1,own_base h2 x.size,own_out h2,h3⟩
 have cO:∀ W,Calls Tryz.prog 90 #[.int .i64 now] W fun e w'=>∃ gb,e=.returned (.func (.func 125) #[] #[.pointer (some ⟨gb,0,none⟩)])∧w'.cell? ⟨gb,0,none⟩=some (.int .i64 now)∧W.heap.size≤gb∧gb<w'.heap.size∧Ext W w':=fun W =>
  (old_any now W).mono fun e w' ⟨h1,h2⟩=>⟨_,h1,by rw [← h2];exact (Blk.new W _ _).cell 0,Nat.le_refl _,by rw [← h2];simp,by rw [← h2];exact (Ext.refl W).alloc _⟩
 have cD:∀ (v:Value) (gb:Nat) W,W.ownsRow W0.heap.size 102 2 v l.length (nonV l)→World.cell? W ⟨gb,0,none⟩=some (.int .i64 now)→v.ownBlock≠some gb→Ext W0 W→Calls Tryz.prog 141 #[v,.func (.func 125) #[] #[.pointer (some ⟨gb,0,none⟩)]] W _:=fun v gb W ho hg hne x =>
  dfunc_any now gb l hw.len v W0.heap.size W x.size ho hg hne
 have HBB:=Lib.hid fun (W:World) (x:Ext W0 W)=>two (ext_blk x b0)
 have HB1:=Lib.hid b1
 clear hw b0 b1
 have h0:=(Ext.refl W0).drew
 go_enter Tryz.func115,Tryz.ntmps115
 go_wp2
 try rw [e0]
 clear e0
 have XX:=h0
 clear h0
 obtain ⟨m0,m1⟩:=HBB.out _ XX
 go_region_held3 (fun w'=>w'.cell? ⟨w.heap.size,0,none⟩=some (.int .i64 next)∧w'.cell? ⟨w.heap.size,1,none⟩=some (.slice A l.length c)) (first|exact ⟨m0,m1⟩|go_keep) (first
  | (go_at_call 92;refine (cC _ XX).mono ?_;clear cC;rintro e w2 ⟨v,rfl,ho,hfr,x2⟩;have XX':=XX.trans x2;clear XX;have XX:=XX';clear XX';clear m0 m1;obtain ⟨m0,m1⟩:=HBB.out _ XX;(try (have hg':=x2.cell hg;have hne:v.ownBlock≠some gb:=(fun e=>by have:=hfr _ e;omega);clear hg;have hg:=hg';clear hg')))
  | (go_at_call 90;refine (cO _).mono ?_;clear cO;rintro e w3 ⟨gb,rfl,hg,hgs,hgl,x3⟩;have XX':=XX.trans x3;clear XX;have XX:=XX';clear XX';clear m0 m1;obtain ⟨m0,m1⟩:=HBB.out _ XX;(try (have ho':=own_ext ho x3;have hne:v.ownBlock≠some gb:=(fun e=>by have:=(ho.lt _ e).2;omega);clear ho;have ho:=ho';clear ho')))
  | (go_at_call 141;refine (cD _ _ _ ho hg hne XX).mono ?_;clear cD;rintro e w4 ⟨v4,rfl,ho4,hb4⟩;obtain ⟨A4,c4,rfl,hc4,hr4⟩:=own_slice2 ho4;have X4:=Ext.of (XX.out.trans hb4);clear m0 m1;obtain ⟨m0,m1⟩:=HBB.out _ X4;have bb:=ext_blk X4 HB1.out;obtain ⟨y0,y1⟩:=two bb;have z0:=bb.frozen 0;have z1:=bb.frozen 1;have BB:=Lib.hid bb;clear bb))
 obtain ⟨W5,e5⟩:∃ W,W=(w4.setCell ⟨w.heap.size+1,0,none⟩ (.int .i64 next)).setCell ⟨w.heap.size+1,1,none⟩ (.slice A4 (trimF l now).length c4):=⟨_,rfl⟩
 have b5:Blk W5 (w.heap.size+1) 38 #[.int .i64 next,.slice A4 (trimF l now).length c4]:=by rw [e5];exact (BB.out.set_ 0 _).set_ 1 _
 have o5:=own_far (own_far ho4 (g:=w.heap.size+1) (by omega) 0 (.int .i64 next)) (g:=w.heap.size+1) (by omega) 1 (.slice A4 (trimF l now).length c4)
 have x5:Ext w W5:=by rw [e5];exact ((x0.trans X4).setCell (by simp) _).setCell (by simp) _
 rw [← e5] at o5 ⊢
 obtain ⟨r0,r1⟩:=two b5
 have O5:=Lib.hid o5
 clear e5 b5 o5
 go_wp2
 refine bodyPost_ret (v:=.agg #[.int .i64 next,.slice A4 (trimF l now).length c4]) (by simp [results,Tryz.results115,go_sem,r0,r1]) rfl ⟨A4,c4,rfl,own_base O5.out (by omega),x5⟩
theorem use1_enters:Enters Tryz.prog 89:=enters_of Tryz.func89 (by kernel_rfl) rfl
theorem use1_any (x:NonR) (n d:Int) (h1:0≤x.n) (h2:x.n≤1099511627776) (h3:0≤n) (h4:n≤1099511627776) (hd:x.n-n=d) (w:World):Calls Tryz.prog 89 #[.agg #[.int .i64 x.n,.int .i64 x.u],.int .i64 n] w fun e w' =>
  e=.returned (.int .i64 d)∧Ext w w':=by
 have HD:=Lib.hid hd
 clear hd
 go_enter Tryz.func89,Tryz.ntmps89
 go_wp2
 go_ret
 exact ⟨by rw [← HD.out];rfl,(Ext.refl w).alloc _⟩
def bsPost (l:List NonR) (n:Int) (w:World) (e:Ending) (w':World):Prop :=
 ∃ (i:Nat) (b:Bool),e=.returned (.tuple #[.int .i64 (i:Int),.bool b])∧(b=true→∃ x,l[i]?=some x∧x.n=n)∧(b=false→∀ x∈l,x.n≠n)∧Ext w w'
theorem bsearch_any (n:Int) (hn:numP n) (l:List NonR) (hl:l.length≤1099511627776) (hs:l.Pairwise (fun a b=>a.n<b.n)) (hw:∀ x∈l,0≤x.n∧x.n≤1099511627776) (A:Option Addr) (c:Nat) (w:World) (hr:Reads w w.heap.size 2 A l.length (nonV l)) :
  Calls Tryz.prog 88 #[.slice A l.length c,.int .i64 n,.func (.func 89) #[] #[]] w (bsPost l n w):=by
 have hE:=use1_enters
 unfold Enters at hE
 have c1:=fun (x:NonR) d h1 h2 hd W=>use1_any x n d h1 h2 hn.1 hn.2 hd W
 have hr0:=Lib.hid hr
 have HN:=Lib.hid hl
 have HS:=Lib.hid hs
 have HW:=Lib.hid hw
 have HNN:=Lib.hid hn
 clear hr hl hs hw hn
 go_enter Tryz.func88,Tryz.ntmps88
 go_wp2
 go_loopg [9,10] l.length (fun m s9 s10 wr=>∃ i j:Nat,i≤j∧j≤l.length∧j≤i+m∧s9=.int .i64 i∧s10=.int .i64 j∧(∀ k x,k<i→l[k]?=some x→x.n<n)∧(∀ k x,j≤k→l[k]?=some x→n≤x.n)∧Ext w wr)
 case atStart=>exact ⟨0,l.length,by omega,by omega,by omega,rfl,rfl,fun k x h=>by omega,fun k x h h'=>by (have:=(List.getElem?_eq_some_iff.1 h').1;omega),Ext.refl w⟩
 case round =>
  obtain ⟨i,j,hij,hjl,hm,rfl,rfl,hlo,hhi,hx⟩:=hrel
  have hjb:(j:Int)≤1099511627776:=by have:=HN.out;omega
  have hij':(i:Int)≤j:=by omega
  by_cases h:i<j
  ·obtain ⟨x,hs⟩:∃ x,l[(i+j) / 2]?=some x:=⟨_,List.getElem?_eq_getElem (by omega)⟩
   obtain ⟨ad,rfl,hlt,q0,q1⟩:=reads_non (hr0.out.below hx.out) hs
   have hxw:=HW.out x (List.mem_of_getElem? hs)
   have hi':(i:Int)<j:=by omega
   have b0:(0:Int)≤((i:Int)+j) / 2:=by omega
   have b1:((i:Int)+j) / 2<(l.length:Int):=by omega
   obtain ⟨d,hd⟩:∃ d,x.n-n=d:=⟨_,rfl⟩
   have c2:=fun W=>c1 x d hxw.1 hxw.2 hd W
   have HX:=Lib.hid hx
   have HM:Hid (j≤i+gk∧j≤l.length∧i<j):=Lib.hid ⟨hm,hjl,h⟩
   have HLO:=Lib.hid hlo
   have HHI:=Lib.hid hhi
   have HD:=Lib.hid hd
   have HSX:=Lib.hid hs
   clear c1 hx hm hjl hij h hlo hhi hd hs hxw
   by_cases hdn:d<0
   ·go_wp2_with (go_at_fn 89;refine (c2 _).mono ?_;clear c2;rintro e w1 ⟨rfl,x1⟩)
    have hm:=HM.out
    go_roundg (gk-1)
    case measure=>omega
    case rel =>
     refine ⟨(i+j) / 2+1,j,by omega,by omega,by omega,int_congr (by omega),rfl,fun k y hk hy=>?_,HHI.out,HX.out.trans x1⟩
     have hd:=HD.out
     rcases Nat.lt_or_ge k ((i+j) / 2) with h|h
     ·have h1:=HSX.out
      obtain ⟨a1,rfl⟩:=List.getElem?_eq_some_iff.1 h1
      obtain ⟨a2,rfl⟩:=List.getElem?_eq_some_iff.1 hy
      have:=List.pairwise_iff_getElem.1 HS.out k ((i+j) / 2) a2 a1 h
      omega
     ·obtain rfl:k=(i+j) / 2:=by omega
      rw [HSX.out] at hy;cases hy;omega
   ·go_wp2_with (go_at_fn 89;refine (c2 _).mono ?_;clear c2;rintro e w1 ⟨rfl,x1⟩)
    have hm:=HM.out
    go_roundg (gk-1)
    case measure=>omega
    case rel =>
     refine ⟨i,(i+j) / 2,by omega,by omega,by omega,rfl,int_congr (by omega),HLO.out,fun k y hk hy=>?_,HX.out.trans x1⟩
     have hd:=HD.out
     rcases Nat.lt_or_ge ((i+j) / 2) k with h|h
     ·have h1:=HSX.out
      obtain ⟨a1,rfl⟩:=List.getElem?_eq_some_iff.1 h1
      obtain ⟨a2,rfl⟩:=List.getElem?_eq_some_iff.1 hy
      have:=List.pairwise_iff_getElem.1 HS.out ((i+j) / 2) k a1 a2 h
      omega
     ·obtain rfl:k=(i+j) / 2:=by omega
      rw [HSX.out] at hy;cases hy;omega
  ·obtain rfl:i=j:=by omega
   by_cases hil:i<l.length
   ·obtain ⟨x,hs⟩:∃ x,l[i]?=some x:=⟨_,List.getElem?_eq_getElem hil⟩
    obtain ⟨ad,rfl,hlt,q0,q1⟩:=reads_non (hr0.out.below hx.out) hs
    have hxw:=HW.out x (List.mem_of_getElem? hs)
    have hil':(i:Int)<(l.length:Int):=by omega
    obtain ⟨d,hd⟩:∃ d,x.n-n=d:=⟨_,rfl⟩
    have c2:=fun W=>c1 x d hxw.1 hxw.2 hd W
    have HX:=Lib.hid hx
    have HLO:=Lib.hid hlo
    have hge:=hhi i x (Nat.le_refl _) hs
    have HGE:=Lib.hid hge
    have HD:=Lib.hid hd
    have HSX:=Lib.hid hs
    clear c1 hx hm hij h hlo hhi hd hs hxw hge
    by_cases hd0:d=0
    ·have kd:(d==0)=true:=by simp [hd0]
     clear hd0
     go_wp2_with (go_at_fn 89;refine (c2 _).mono ?_;clear c2;rintro e w1 ⟨rfl,x1⟩)
     go_ret2
     refine ⟨i,true,rfl,fun _=>⟨x,HSX.out,?_⟩,fun h=>(by cases h),HX.out.trans x1⟩
     have hd:=HD.out
     simp at kd;omega
    ·have kd:(d==0)=false:=by simp [hd0]
     clear hd0
     go_wp2_with (go_at_fn 89;refine (c2 _).mono ?_;clear c2;rintro e w1 ⟨rfl,x1⟩)
     go_ret2
     refine ⟨i,false,rfl,fun h=>(by cases h),fun _ y hy hyn=>?_,HX.out.trans x1⟩
     have hd:=HD.out
     have hge:=HGE.out
     simp at kd
     obtain ⟨k,hk,rfl⟩:=List.getElem_of_mem hy
     rcases Nat.lt_trichotomy k i with h|h|h
     ·have:=HLO.out k _ h (List.getElem?_eq_getElem hk);omega
     ·subst h;have:=HSX.out;rw [List.getElem?_eq_getElem hk] at this;cases this;omega
     ·have h1:=HSX.out
      obtain ⟨a1,rfl⟩:=List.getElem?_eq_some_iff.1 h1
      have:=List.pairwise_iff_getElem.1 HS.out i k a1 hk h
      omega
   ·have hil':¬ (i:Int)<(l.length:Int):=by omega
    have HX:=Lib.hid hx
    have HLO:=Lib.hid hlo
    have HIL:=Lib.hid hil
    have hild:decide (i<l.length)=false:=decide_eq_false hil
    clear hx hm hij h hlo hhi hil hjl
    go_wp2_with fail
    go_ret2
    refine ⟨i,false,rfl,fun h=>(by cases h),fun _ y hy hyn=>?_,HX.out⟩
    obtain ⟨k,hk,rfl⟩:=List.getElem_of_mem hy
    have hil:=HIL.out
    have:=HLO.out k _ (by omega) (List.getElem?_eq_getElem hk)
    omega
theorem nonV_drop (l:List NonR) (i:Nat):(nonV l).drop (i*2)=nonV (l.drop i):=by
 induction l generalizing i with
 | nil=>simp [nonV]
 | cons a l ih =>
  cases i with
  | zero=>simp [nonV]
  | succ i =>
   have e:nonV (a :: l)=.int .i64 a.n :: .int .i64 a.u :: nonV l:=rfl
   rw [e,show (i+1)*2=i*2+1+1 by omega]
   simp only [List.drop_succ_cons]
   rw [ih i]
theorem own_more {w:World} {base:Nat} {e:TypeId} {size g n cap:Nat} {xs:List Value} (h:w.ownsRow base e size (.slice (some ⟨g,0,none⟩) n cap) n xs) {m:Nat} (h1:n≤m) (h2:m≤cap) :
  ∃ ys,w.ownsRow base e size (.slice (some ⟨g,0,none⟩) m cap) m ys∧ys.take (n*size)=xs:=by
 rcases h.2 with ⟨h',_⟩|⟨g',cap',cur,h',hb,hg,hnc,hcm,hcs,htake⟩
 ·simp at h'
 ·simp only [Value.slice.injEq,Option.some.injEq,Addr.mk.injEq,and_true,true_and] at h'
  obtain ⟨rfl,rfl⟩:=h'
  refine ⟨cur.toList.take (m*size),⟨?_,.inr ⟨g,cap,cur,rfl,hb,hg,h2,hcm,hcs,rfl⟩⟩,?_⟩
  ·rw [List.length_take,Array.length_toList,hcs];exact Nat.min_eq_left (Nat.mul_le_mul_right _ h2)
  ·rw [List.take_take,Nat.min_eq_left (Nat.mul_le_mul_right _ h1)];exact htake
theorem erase_eq {α:Type} (l:List α) (i:Nat):l.eraseIdx i=l.take i++l.drop (i+1):=List.eraseIdx_eq_take_drop_succ l i
theorem fits_any (w:World) (base g q cap i:Nat) (l:List NonR) (hl:l.length=q+1) (hi:i≤q) (hown:w.ownsRow base 102 2 (.slice (some ⟨g,0,none⟩) (q+1) cap) (q+1) (nonV l)) (ad:Addr) (had:i<q→ad=⟨g,(i+1)*2,none⟩) (ty c:Nat) :
  ∃ w',(Builtin.append_ #[36,36] ty #[.slice (some ⟨g,0,none⟩) i cap,.slice (some ad) (q-i) c]).run Tryz.prog w=.ok (.slice (some ⟨g,0,none⟩) q cap) w'∧w'.ownsRow base 102 2 (.slice (some ⟨g,0,none⟩) q cap) q (nonV (l.eraseIdx i))∧w.grownBy w' (some g):=by
 obtain ⟨i0,hi0,hz0,hz1,hz2⟩:=info_parts Tryz.infoNon
 have hcap:=own_cap hown
 obtain ⟨w',h1,h2,h3⟩:=run_append_fits (P:=Tryz.prog) w base 36 ty 102 i0 2 Tryz.underlying36 hi0 hz1 g i cap _ (own_cut hown (k:=i) (by omega)) ad (q-i) c (nonV (l.drop (i+1))) (by rw [nonV_length,List.length_drop];omega) (fun j u hu=>by
   have hj:=(List.getElem?_eq_some_iff.1 hu).1
   rw [nonV_length,List.length_drop] at hj
   rw [had (by omega)]
   rw [← nonV_drop,List.getElem?_drop] at hu
   have:(Addr.mk g ((i+1)*2) none).add j=⟨g,(i+1)*2+j,none⟩:=by unfold Addr.add;split <;> simp_all
   rw [this,hown.cellAt _ (by have:=hown.1;omega)]
   exact hu) (nonV_one _) (by omega)
 rw [show i+(q-i)=q by omega] at h1 h2
 refine ⟨w',h1,?_,h3⟩
 rw [nonV_take,← nonV_append,← erase_eq] at h2
 exact h2
theorem step_append_run {P:Program} {ops:Array Oper} {o:Oper} {a:Act} {w:World} {K:Act→World→Prop} {Q:Exit→Act→World→Prop} {E:Prop} (hgd:o.guard=none) (s x:Operand) (t:TypeId)
  (ho:o.op=.call { callee:=.builtin .append,args:=#[s,x],argTypes:=#[t,t] }) (vs vx:Value) (hs:a.eval s=vs) (hx:a.eval x=vx) (v:Value) (w':World) (hrun:(Builtin.append_ #[t,t] o.type #[vs,vx]).run P w=.ok v w')
  (h:K (a.put o.dst v) w'):if Region.wanted o (yielded ops a.tmps)=true then Oper.wp P o a w K Q else E:=by
 have hw:Region.wanted o (yielded ops a.tmps)=true:=by simp [Region.wanted,hgd]
 rw [if_pos hw]
 unfold Oper.wp execOp
 simp only [ho,resolve,invoke,builtin,Sem.run_bind,Sem.run_pure,Result.andThen_ok,List.map_toArray,List.map_cons,List.map_nil,hs,hx,hrun]
 exact h
theorem delete_any (l:List NonR) (i q:Nat) (hl:l.length=q+1) (hi:i≤q) (hn:l.length≤1099511627776) (g cap:Nat) (base:Nat) (w:World) (hbase:base≤w.heap.size) (hown:w.ownsRow base 102 2 (.slice (some ⟨g,0,none⟩) (q+1) cap) (q+1) (nonV l)) :
  Calls Tryz.prog 91 #[.slice (some ⟨g,0,none⟩) (q+1) cap,.int .i64 (i:Int),.int .i64 ((i:Int)+1)] w fun e w' =>
   ∃ A c,e=.returned (.slice A q c)∧w'.ownsRow base 102 2 (.slice A q c) q (nonV (l.eraseIdx i))∧Below base w w':=by
 have hz:∀ w,(zeroValue 102).run Tryz.prog w=.ok (.agg #[.int .i64 0,.int .i64 0]) w:=fun w=>by kernel_rfl
 have hcap:=own_cap hown
 have hg:base≤g:=own_ge hown g rfl
 have k1:(i:Int)≤(q:Int):=by omega
 have k2:(i:Int)+1≤(cap:Int):=by omega
 have k3:(q:Int)+1≤(cap:Int):=by omega
 have k4:(i:Int)≤(cap:Int):=by omega
 have k5:(q:Int)+1≤1099511627776:=by omega
 have k6:((i:Int)==(i:Int)+1)=false:=by rw [beq_eq_false_iff_ne];omega
 have k7:(0:Int)≤(i:Int)+1:=by omega
 have k8:(i:Int)≤(i:Int)+1:=by omega
 have HO:=Lib.hid hown
 have HI:=Lib.hid hi
 have HL:=Lib.hid hl
 clear hown hi hn hcap hl
 go_enter Tryz.func91,Tryz.ntmps91
 by_cases hc:cap=i+1
 ·subst hc
  have hcq:¬ (i+1)=q:=by omega
  obtain ⟨w2,hrun,o2,hg2⟩:=fits_any w.drew base g q (i+1) i l HL.out HI.out HO.out ⟨g,0,none⟩ (fun h=>by omega) 36 0
  obtain ⟨ys,o3,e3⟩:=own_more o2 (m:=q+1) (by omega) (by omega)
  obtain ⟨w4,hrun4,o4,hg4⟩:=run_clear_own (P:=Tryz.prog) w2 base 36 0 102 (.agg #[.int .i64 0,.int .i64 0]) 2 Tryz.underlying36 hz (by decide) (by decide) g (q+1) (i+1) q _ o3 (by omega) (some ⟨g,q*2,none⟩) (fun _=>rfl) ((i+1)-q)
  rw [show q+1-q=1 by omega] at hrun4
  have O4:=Lib.hid o4
  have E3:=Lib.hid e3
  have HB:=Lib.hid (((Below.refl base w).drew.grown hg2 hbase (fun k e=>by cases e;exact hg)).grown hg4 (Nat.le_trans hbase hg2.size) (fun k e=>by cases e;exact hg))
  clear o2 hg2 o3 e3 o4 hg4
  go_wp2
  go_region_held3 (fun _=>True) (trivial) ((refine step_append_run (by rfl) (.tmp 22) (.tmp 25) 36 (by rfl) _ _ (by rfl) (by rfl) _ w2 hrun ?_))
  go_wp2
  go_ret
  refine ⟨_,_,rfl,?_,HB.out⟩
  rw [← E3.out]
  exact O4.out
 ·have hcq:¬ cap=q:=by omega
  obtain ⟨w2,hrun,o2,hg2⟩:=fits_any w.drew base g q cap i l HL.out HI.out HO.out ⟨g,(i+1)*2,none⟩ (fun _=>rfl) 36 (cap-(i+1))
  obtain ⟨ys,o3,e3⟩:=own_more o2 (m:=q+1) (by omega) (by omega)
  obtain ⟨w4,hrun4,o4,hg4⟩:=run_clear_own (P:=Tryz.prog) w2 base 36 0 102 (.agg #[.int .i64 0,.int .i64 0]) 2 Tryz.underlying36 hz (by decide) (by decide) g (q+1) cap q _ o3 (by omega) (some ⟨g,q*2,none⟩) (fun _=>rfl) (cap-q)
  rw [show q+1-q=1 by omega] at hrun4
  have O4:=Lib.hid o4
  have E3:=Lib.hid e3
  have HB:=Lib.hid (((Below.refl base w).drew.grown hg2 hbase (fun k e=>by cases e;exact hg)).grown hg4 (Nat.le_trans hbase hg2.size) (fun k e=>by cases e;exact hg))
  clear o2 hg2 o3 e3 o4 hg4
  go_wp2
  go_region_held3 (fun _=>True) (trivial) ((refine step_append_run (by rfl) (.tmp 22) (.tmp 25) 36 (by rfl) _ _ (by rfl) (by rfl) _ w2 hrun ?_))
  go_wp2
  go_ret
  refine ⟨_,_,rfl,?_,HB.out⟩
  rw [← E3.out]
  exact O4.out
theorem fen_pair {next:Int} {l:List NonR} (h:fenN next l=0):l.Pairwise (fun a b=>a.n<b.n)∧(∀ x∈l,0≤x.n∧x.n≤1099511627776)∧numP next∧(∀ x∈l,numP x.u):=by
 obtain ⟨⟨h1,h2,h3⟩,-⟩:=fenN_zero.1 h
 exact ⟨h1,fun x hx=>⟨(h2 x hx).1,by have:=(h2 x hx).2.1;have:=h3.2;omega⟩,h3,fun x hx=>(h2 x hx).2.2⟩
theorem useL_erase {l:List NonR} (hp:l.Pairwise (fun a b=>a.n<b.n)) {i:Nat} {x:NonR} (hx:l[i]?=some x):useL l x.n=l.eraseIdx i:=by
 rw [erase_eq]
 obtain ⟨hi,rfl⟩:=List.getElem?_eq_some_iff.1 hx
 unfold useL
 have e:l=l.take i++l[i] :: l.drop (i+1):=by rw [← List.drop_eq_getElem_cons hi,List.take_append_drop]
 have h1:∀ y∈l.take i,y.n<l[i].n:=fun y hy=>by
  obtain ⟨k,hk,rfl⟩:=List.mem_take_iff_getElem.1 hy
  exact List.pairwise_iff_getElem.1 hp k i (by omega) hi (by omega)
 have h2:∀ y∈l.drop (i+1),l[i].n<y.n:=fun y hy=>by
  obtain ⟨k,hk,rfl⟩:=List.getElem_of_mem hy
  rw [List.getElem_drop]
  exact List.pairwise_iff_getElem.1 hp i _ hi (by rw [List.length_drop] at hk;omega) (by omega)
 obtain ⟨p,hp'⟩:∃ p,p=l.take i:=⟨_,rfl⟩
 obtain ⟨d,hd'⟩:∃ d,d=l.drop (i+1):=⟨_,rfl⟩
 obtain ⟨z,hz⟩:∃ z,z=l[i]:=⟨_,rfl⟩
 rw [← hp',← hd',← hz] at e
 rw [← hp',← hz] at h1
 rw [← hd',← hz] at h2
 rw [← hp',← hd',← hz,e,List.filter_append,List.filter_cons]
 rw [List.filter_eq_self.2 (fun y hy=>by have:=h1 y hy;simp;omega),List.filter_eq_self.2 (fun y hy=>by have:=h2 y hy;simp;omega)]
 simp
def useF (next:Int) (l:List NonR) (n now:Int):Int × List NonR × Nat:=if useE next l n now=0 then (next,useL l n,0) else (0,[],useE next l n now)
theorem useF_ok {next:Int} {l:List NonR} {n now:Int} (h:useE next l n now=0):useF next l n now=(next,useL l n,0):=by unfold useF;rw [if_pos h]
theorem useF_no {next:Int} {l:List NonR} {n now:Int} {e:Nat} (h:useE next l n now=e) (he:e≠0):useF next l n now=(0,[],e):=by unfold useF;rw [if_neg (by rw [h];exact he),h]
def usePost (base:Nat) (r:Int × List NonR × Nat) (w:World) (e:Ending) (w':World):Prop :=
 ∃ A c,e=.returned (.tuple #[fenV r.1 r.2.1 A c,.int .i64 (r.2.2:Nat)])∧w'.ownsRow base 102 2 (.slice A r.2.1.length c) r.2.1.length (nonV r.2.1)∧Ext w w'
theorem Use_any (next:Int) (l:List NonR) (A:Option Addr) (c:Nat) (n now:Int) (hn:numP n) (w:World) (hw:NonsW w w.heap.size next l A c) :
  Calls Tryz.prog 46 #[fenV next l A c,.int .i64 n,.int .i64 now] w (usePost w.heap.size (useF next l n now) w):=by
 have c1:=fCheck_any next l A c
 have cT:=time_any now
 unfold fenV at c1 ⊢
 obtain ⟨W0,e0,b0,b1,x0,s0⟩:=startP w #[.int .i64 next,.slice A l.length c] #[.int .i64 0,.slice none 0 0] 38 38
 have c2:=c1 W0 (hw.ext x0)
 obtain ⟨E,hE⟩:∃ E,fenN next l=E:=⟨_,rfl⟩
 rw [hE] at c2
 have cO:∀ W,Calls Tryz.prog 90 #[.int .i64 now] W fun e w'=>∃ gb,e=.returned (.func (.func 125) #[] #[.pointer (some ⟨gb,0,none⟩)])∧w'.cell? ⟨gb,0,none⟩=some (.int .i64 now)∧Ext W w':=fun W =>
  (old_any now W).mono fun e w' ⟨h1,h2⟩=>⟨_,h1,by rw [← h2];exact (Blk.new W _ _).cell 0,by rw [← h2];exact (Ext.refl W).alloc _⟩
 have cQ:∀ (x:NonR) (gb:Nat) W,World.cell? W ⟨gb,0,none⟩=some (.int .i64 now)→Calls Tryz.prog 125 #[.agg #[.int .i64 x.n,.int .i64 x.u],.pointer (some ⟨gb,0,none⟩)] W _:=fun x gb W h=>old1_any x now gb W h
 clear c1
 by_cases h0:E=0
 case neg =>
  rw [show useF next l n now=(0,[],E) from useF_no (by unfold useE;rw [if_pos (by rw [hE];exact h0),hE]) h0]
  have k0:((E:Int) != 0)=true:=by simp;omega
  subst e0
  have B1:=Lib.hid b1
  have X0:=Lib.hid x0
  clear hw hE h0 b0 b1 x0 hn cT s0
  go_enter Tryz.func46,Tryz.ntmps46
  go_wp2_with (go_at_call 62;refine c2.mono ?_;clear c2;rintro e w1 ⟨rfl,x1⟩;have b2:=ext_blk x1 B1.out;obtain ⟨q0,q1⟩:=two b2;have f0:=b2.frozen 0;have f1:=b2.frozen 1;have BB:=Lib.hid ((b2.set_ 0 (.int .i64 0)).set_ 1 (.slice none 0 0));clear b2)
  obtain ⟨r0,r1⟩:=two BB.out
  refine bodyPost_ret (v:=.tuple #[.agg #[.int .i64 0,.slice none 0 0],.int .i64 (E:Int)]) (by simp [results,Tryz.results46,go_sem,r0,r1]) rfl ⟨none,0,rfl,World.ownsRow_nil _ _ _ _,((X0.out.trans x1).setCell (by simp) _).setCell (by simp) _⟩
 subst h0
 obtain ⟨hp,hb,hnx,hu⟩:=fen_pair hE
 by_cases h1:numP now
 case neg =>
  rw [show useF next l n now=(0,[],1) from useF_no (by unfold useE;rw [if_neg (by rw [hE];simp),if_pos (by simpa using h1)]) (by decide)]
  rw [decide_eq_false h1] at cT
  subst e0
  have B1:=Lib.hid b1
  have X0:=Lib.hid x0
  clear hw hE b0 b1 x0 hn s0 h1 hp hb hnx hu
  go_enter Tryz.func46,Tryz.ntmps46
  go_wp2_with (first
   | (go_at_call 62;refine c2.mono ?_;clear c2;rintro e w1 ⟨rfl,x1⟩;have b2:=ext_blk x1 B1.out;obtain ⟨q0,q1⟩:=two b2;have f0:=b2.frozen 0;have f1:=b2.frozen 1;have BB:=Lib.hid ((b2.set_ 0 (.int .i64 0)).set_ 1 (.slice none 0 0));clear b2)
   | (go_at_call 87;refine (cT _).mono ?_;clear cT;rintro e w2 ⟨rfl,rfl⟩))
  obtain ⟨r0,r1⟩:=two BB.out
  refine bodyPost_ret (v:=.tuple #[.agg #[.int .i64 0,.slice none 0 0],.int .i64 1]) (by simp [results,Tryz.results46,go_sem,r0,r1]) rfl ⟨none,0,rfl,World.ownsRow_nil _ _ _ _,((X0.out.trans x1).setCell (by simp) _).setCell (by simp) _⟩
 rw [decide_eq_true h1] at cT
 have cB:=fun W h=>bsearch_any n hn l hw.len hp hb A c W h
 have HW:=Lib.hid hw
 have HX:Hid (∀ W,Ext W0 W→Reads W W.heap.size 2 A l.length (nonV l)∧Blk W w.heap.size 38 #[.int .i64 next,.slice A l.length c]∧Blk W (w.heap.size+1) 38 #[.int .i64 0,.slice none 0 0]∧Ext w W):=Lib.hid fun W x=>⟨(hw.ext (x0.trans x)).lst,ext_blk x b0,ext_blk x b1,x0.trans x⟩
 by_cases h2:∃ x∈l,x.n=n∧now≤x.u
 case neg =>
  rw [show useF next l n now=(0,[],210) from useF_no (by unfold useE;rw [if_neg (by rw [hE];simp),if_neg (by simpa using h1),if_neg h2]) (by decide)]
  have H2:=Lib.hid h2
  subst e0
  clear hw hE b0 b1 x0 hn s0 h1 hp hb hnx hu h2
  go_enter Tryz.func46,Tryz.ntmps46
  go_wp2_with (first
   | (go_at_call 62;refine c2.mono ?_;clear c2;rintro e w1 ⟨rfl,x1⟩;obtain ⟨hr,b2,b3,x2⟩:=HX.out _ x1;obtain ⟨m0,m1⟩:=two b2;clear b2 b3 x2;have HR:=Lib.hid hr;clear hr)
   | (go_at_call 87;refine (cT _).mono ?_;clear cT;rintro e w2 ⟨rfl,rfl⟩)
   | (go_at_call 88;refine (cB _ HR.out).mono ?_;clear cB;rintro e w3 ⟨i,b,rfl,hy,hno,x3⟩;have HY:=Lib.hid hy;clear hy hno;have x4:=x1.trans x3;have n0:=x3.cell m0;have n1:=x3.cell m1;clear m0 m1))
  obtain ⟨hr,b2,b3,x2⟩:=HX.out _ x4
  have f0:=b3.frozen 0
  have f1:=b3.frozen 1
  have y0:=b3.cell 0
  have y1:=b3.cell 1
  have B3:=Lib.hid b3
  have X2:=Lib.hid x2
  clear b2 b3 x2
  cases b with
  | false =>
   clear hr HY
   go_quiet (fail)
   have BB:=Lib.hid (((B3.out.drewN nq).set_ 0 (.int .i64 0)).set_ 1 (.slice none 0 0))
   go_wp2
   obtain ⟨r0,r1⟩:=two BB.out
   refine bodyPost_ret (v:=.tuple #[.agg #[.int .i64 0,.slice none 0 0],.int .i64 210]) (by simp [results,Tryz.results46,go_sem,r0,r1]) rfl ⟨none,0,rfl,World.ownsRow_nil _ _ _ _,((X2.out.drewN _).setCell (by simp) _).setCell (by simp) _⟩
  | true =>
   obtain ⟨x,hx,hxn⟩:=HY.out rfl
   obtain ⟨ad,rfl,hlt,q0,q1⟩:=reads_non hr hx
   have hil:(i:Int)<(l.length:Int):=by have:=(List.getElem?_eq_some_iff.1 hx).1;omega
   have hold:x.u<now:=Decidable.byContradiction fun h=>H2.out ⟨x,List.mem_of_getElem? hx,hxn,by omega⟩
   have cq:=cQ x
   rw [decide_eq_true hold] at cq
   have HH:=Lib.hid fun (W:World) (x:Ext w3 W)=>And.intro (x.cell n0) (And.intro (x.cell n1) (And.intro (x.cell q0) (And.intro (x.cell q1) (ext_blk x B3.out))))
   have XX:=(Ext.refl w3).drew
   clear hr HY hx hxn hlt hold cQ
   go_region_held3 (fun w'=>w'.cell? ⟨w.heap.size,0,none⟩=some (.int .i64 next)∧w'.cell? ⟨w.heap.size,1,none⟩=some (.slice (some ad) l.length c)∧w'.cell? (ad.add (i*2))=some (.int .i64 x.n)∧w'.cell? ⟨(ad.add (i*2)).block,(ad.add (i*2)).off+1,none⟩=some (.int .i64 x.u)) (first|exact ⟨n0,n1,q0,q1⟩|go_keep) (first
    | (go_at_call 90;refine (cO _).mono ?_;clear cO;rintro e w4 ⟨gb,rfl,hg,x5⟩;have y5:=XX.trans x5;obtain ⟨a0,a1,a2,a3,-⟩:=HH.out _ y5)
    | (go_at_call 125;refine (cq gb _ hg).mono ?_;clear cq;rintro e w5 ⟨rfl,x6⟩;have y6:=y5.trans x6;obtain ⟨e0,e1,e2,e3,b6⟩:=HH.out _ y6;obtain ⟨d0,d1⟩:=two b6;have f0:=b6.frozen 0;have f1:=b6.frozen 1;have BB:=Lib.hid ((b6.set_ 0 (.int .i64 0)).set_ 1 (.slice none 0 0));clear b6))
   go_wp2
   obtain ⟨r0,r1⟩:=two BB.out
   refine bodyPost_ret (v:=.tuple #[.agg #[.int .i64 0,.slice none 0 0],.int .i64 210]) (by simp [results,Tryz.results46,go_sem,r0,r1]) rfl ⟨none,0,rfl,World.ownsRow_nil _ _ _ _,((X2.out.trans y6).setCell (by simp) _).setCell (by simp) _⟩
 have hR:useF next l n now=(next,useL l n,0):=useF_ok (by unfold useE;rw [if_neg (by rw [hE];simp),if_neg (by simpa using h1),if_pos h2])
 rw [hR]
 have cC:=fun W h=>cloneN_any A l.length c (nonV l) (nonV_one l) hw.len W h
 have HP:=Lib.hid hp
 have H2:=Lib.hid h2
 have HL:=Lib.hid hw.len
 subst e0
 clear hw hE b0 b1 x0 hn s0 h1 hp hb hnx hu h2 hR
 go_enter Tryz.func46,Tryz.ntmps46
 go_wp2_with (first
  | (go_at_call 62;refine c2.mono ?_;clear c2;rintro e w1 ⟨rfl,x1⟩;obtain ⟨hr,b2,b3,x2⟩:=HX.out _ x1;obtain ⟨m0,m1⟩:=two b2;clear b2 b3 x2;have HR:=Lib.hid hr;clear hr)
  | (go_at_call 87;refine (cT _).mono ?_;clear cT;rintro e w2 ⟨rfl,rfl⟩)
  | (go_at_call 88;refine (cB _ HR.out).mono ?_;clear cB;rintro e w3 ⟨i,b,rfl,hy,hno,x3⟩;have HY:=Lib.hid hy;have HNO:=Lib.hid hno;clear hy hno;have x4:=x1.trans x3;have n0:=x3.cell m0;have n1:=x3.cell m1;clear m0 m1))
 cases b with
 | false =>
  obtain ⟨x,hx,hxn,-⟩:=H2.out
  exact absurd hxn (HNO.out rfl x hx)
 | true =>
  obtain ⟨x,hx,hxn⟩:=HY.out rfl
  obtain ⟨hr,b2,b3,x2⟩:=HX.out _ x4
  obtain ⟨q,hq⟩:∃ q,l.length=q+1:=⟨l.length-1,by have:=(List.getElem?_eq_some_iff.1 hx).1;omega⟩
  have hiq:i≤q:=by have:=(List.getElem?_eq_some_iff.1 hx).1;omega
  have hib:(i:Int)≤1099511627776:=by have:=HL.out;omega
  have hold:¬ x.u<now:=by
   obtain ⟨y,hy,hyn,hyu⟩:=H2.out
   obtain ⟨a1,rfl⟩:=List.getElem?_eq_some_iff.1 hx
   obtain ⟨k,hk,rfl⟩:=List.getElem_of_mem hy
   rcases Nat.lt_trichotomy k i with h|rfl|h
   ·have:=List.pairwise_iff_getElem.1 HP.out k i hk a1 h;omega
   ·omega
   ·have:=List.pairwise_iff_getElem.1 HP.out i k a1 hk h;omega
  have he:=useL_erase HP.out hx
  rw [hxn] at he
  have hlen:(useL l n).length=q:=by rw [he,List.length_eraseIdx_of_lt (by omega)];omega
  have HE:=Lib.hid he
  have HLEN:=Lib.hid hlen
  obtain ⟨ad,rfl,hlt,q0,q1⟩:=reads_non hr hx
  have hil:(i:Int)<(l.length:Int):=by omega
  have cq:=cQ x
  rw [decide_eq_false hold] at cq
  have HH:=Lib.hid fun (W:World) (x:Ext w3 W)=>And.intro (x.cell n0) (And.intro (x.cell n1) (And.intro (x.cell q0) (x.cell q1)))
  have XX:=(Ext.refl w3).drew
  have cD:=fun (g cap:Nat) (base:Nat) (W:World) h1 h2=>delete_any l i q hq hiq HL.out g cap base W h1 h2
  have HQ:=Lib.hid hq
  have HIQ:=Lib.hid hiq
  clear hr HY hx hxn hlt hold cQ b2 b3 x2 he hlen hq hiq
  go_region_held3 (fun w'=>w'.cell? ⟨w.heap.size,0,none⟩=some (.int .i64 next)∧w'.cell? ⟨w.heap.size,1,none⟩=some (.slice (some ad) l.length c)∧w'.cell? (ad.add (i*2))=some (.int .i64 x.n)∧w'.cell? ⟨(ad.add (i*2)).block,(ad.add (i*2)).off+1,none⟩=some (.int .i64 x.u)) (first|exact ⟨n0,n1,q0,q1⟩|go_keep) (first
   | (go_at_call 90;refine (cO _).mono ?_;clear cO;rintro e w4 ⟨gb,rfl,hg,x5⟩;have y5:=XX.trans x5;obtain ⟨a0,a1,a2,a3⟩:=HH.out _ y5)
   | (go_at_call 125;refine (cq gb _ hg).mono ?_;clear cq;rintro e w5 ⟨rfl,x6⟩;have y6:=x4.trans (y5.trans x6);obtain ⟨hr,b6,b7,z6⟩:=HX.out _ y6;obtain ⟨d0,d1⟩:=two b6;have HR6:=Lib.hid hr;obtain ⟨-,-,a4,a5⟩:=HH.out _ (y5.trans x6);clear b6 b7 hr z6))
  go_wp2_with (first
   | (go_at_call 92;refine (cC _ HR6.out).mono ?_;clear cC;rintro e w7 ⟨v,rfl,ho,x7⟩;obtain ⟨g,cap,rfl,hgb,hgl⟩:=ho.form (by have:=HQ.out;omega);have ho2:=ho;rw [HQ.out] at ho2;have HO:=Lib.hid ho2;clear ho ho2;have HS7:=Lib.hid x7.size;rw [HQ.out])
   | (go_at_call 91;refine (cD _ _ _ _ HS7.out HO.out).mono ?_;clear cD;rintro e w8 ⟨A8,c8,rfl,ho8,hb8⟩;have y8:=y6.trans (Ext.of (x7.out.trans hb8));obtain ⟨-,b8,b9,z8⟩:=HX.out _ y8;obtain ⟨d0,d1⟩:=two b8;have f0:=b8.frozen 0;have f1:=b8.frozen 1;have f2:=b9.frozen 0;have f3:=b9.frozen 1;have e0:=b9.cell 0;have e1:=b9.cell 1;have BB:=Lib.hid b8;have BB3:=Lib.hid b9;clear b8 b9;have Z8:=Lib.hid z8;clear z8;have OW:=Lib.hid ho8;clear ho8))
  have BF:=((BB3.out.far (p:=⟨w.heap.size,1,none⟩) (by simp) (.slice A8 q c8)).set_ 0 (.int .i64 next)).set_ 1 (.slice A8 q c8)
  obtain ⟨r0,r1⟩:=two BF
  have hs2:w.heap.size+2≤w5.heap.size:=by have:=y6.size;simp at this;omega
  have o9:=own_far (own_far (own_far OW.out (g:=w.heap.size) (by omega) 1 (.slice A8 q c8)) (g:=w.heap.size+1) (by omega) 0 (.int .i64 next)) (g:=w.heap.size+1) (by omega) 1 (.slice A8 q c8)
  rw [← HE.out] at o9
  refine bodyPost_ret (v:=.tuple #[.agg #[.int .i64 next,.slice A8 q c8],.int .i64 0]) (by simp [results,Tryz.results46,go_sem,r0,r1]) rfl ⟨A8,c8,?_,?_,((Z8.out.setCell (p:=⟨w.heap.size,1,none⟩) (Nat.le_refl _) _).setCell (p:=⟨w.heap.size+1,0,none⟩) (by simp) _).setCell (p:=⟨w.heap.size+1,1,none⟩) (by simp) _⟩
  ·unfold fenV;simp only;rw [HLEN.out];rfl
  ·simp only
   rw [HLEN.out]
   exact own_base o9 (by omega)
theorem onum_any (n:Int) (w:World):Calls Tryz.prog 42 #[.int .i64 n] w fun e w'=>e=.returned (.bool (decide (numP n)))∧w=w':=by
 go_enter Tryz.func42,Tryz.ntmps42
 by_cases h1:0≤n <;> by_cases h2:n≤1099511627776
 all_goals
  go_wp2
  go_ret
  exact ⟨ret_bool (by rw [eq_comm];first|exact decide_eq_true (by unfold numP;omega)|exact decide_eq_false (by unfold numP;omega)),rfl⟩
theorem rnum_any (n:Int) (w:World):Calls Tryz.prog 43 #[.int .i64 n] w fun e w'=>e=.returned (.bool (decide (numP n)))∧w=w':=by
 go_enter Tryz.func43,Tryz.ntmps43
 by_cases h1:0≤n <;> by_cases h2:n≤1099511627776
 all_goals
  go_wp2
  go_ret
  exact ⟨ret_bool (by rw [eq_comm];first|exact decide_eq_true (by unfold numP;omega)|exact decide_eq_false (by unfold numP;omega)),rfl⟩
theorem str_beq_false {x s:ByteArray} (h:x≠s):(x.toList==s.toList)=false:=by
 rw [beq_eq_false_iff_ne];intro e;apply h
 rw [ByteArray.toList_eq,ByteArray.toList_eq] at e
 exact ByteArray.ext (Array.toList_inj.1 e)
theorem str_beq_true {x s:ByteArray} (h:x=s):(x.toList==s.toList)=true:=by rw [h];simp
def memB (x:ByteArray) (l:List ByteArray):Bool:=l.any fun s=>decide (x=s)
theorem memB_iff {x:ByteArray} {l:List ByteArray}:memB x l=true ↔ x∈l:=by unfold memB;simp
theorem memB_yes {x:ByteArray} {l:List ByteArray} (h:x∈l):memB x l=true:=memB_iff.2 h
theorem memB_no {x:ByteArray} {l:List ByteArray} (h:x ∉ l):memB x l=false:=by
 cases e:memB x l with
 | false=>rfl
 | true=>exact absurd (memB_iff.1 e) h
theorem ixT_mem {l:List ByteArray} {x:ByteArray}:decide (0≤ixG (fun s=>decide (x=s)) l)=memB x l:=by
 unfold ixG
 cases h:l.findIdx? fun s=>decide (x=s) with
 | none =>
  have:=List.findIdx?_eq_none_iff.1 h
  rw [decide_eq_false (by simp),memB_no]
  intro hm;have:=this x hm;simp at this
 | some i =>
  obtain ⟨h1,h2,_⟩:=List.findIdx?_eq_some_iff_getElem.1 h
  rw [decide_eq_true (by simp),memB_yes]
  simp at h2;rw [h2];exact List.getElem_mem h1
theorem indexT_any (l:List ByteArray) (hn:l.length≤1099511627776) (x:ByteArray) (A:Option Addr) (c:Nat) (w:World) (hr:Reads w w.heap.size 1 A l.length (tv l)) :
  Calls Tryz.prog 146 #[.slice A l.length c,.string x] w fun e w'=>e=.returned (.int .i64 (ixG (fun s=>decide (x=s)) l))∧w=w':=by
 have HR:=Lib.hid hr
 have HN:=Lib.hid hn
 clear hr hn
 go_enter Tryz.func146,Tryz.ntmps146
 go_wp2
 go_loopg [8] l.length (fun m s8 wr=>∃ j:Nat,j+m=l.length∧s8=.int .i64 j∧(∀ s∈l.take j,x≠s)∧wr=w)
 case atStart=>exact ⟨0,by omega,rfl,by simp,rfl⟩
 case round =>
  obtain ⟨j,hj,rfl,hok,rfl⟩:=hrel
  by_cases h:j<l.length
  ·obtain ⟨s,hs⟩:∃ s,l[j]?=some s:=⟨_,List.getElem?_eq_getElem h⟩
   obtain ⟨ad,rfl,q0⟩:=reads_text HR.out hs
   have hjb:(j:Int)≤1099511627776:=by have:=HN.out;omega
   have e1:l.take (j+1)=l.take j++[s]:=by rw [List.take_add_one,hs];rfl
   by_cases hx:x=s
   ·have kk:Hid (ixG (fun s=>decide (x=s)) l=(j:Int)):=Lib.hid (by
     have:(l.findIdx? fun s=>decide (x=s))=some j:=by
      rw [List.findIdx?_eq_some_iff_getElem]
      have hsg:=(List.getElem?_eq_some_iff.1 hs).2
      refine ⟨h,by rw [hsg];simp [hx],fun i hi=>?_⟩
      have:=hok (l[i]'(by omega)) (List.mem_take_iff_getElem.2 ⟨i,by omega,rfl⟩)
      simp [this]
     unfold ixG;rw [this])
    have k1:=str_beq_true hx
    clear hj hs hok e1 hx
    go_wp2
    go_ret
    exact ⟨by rw [kk.out];rfl,rfl⟩
   ·have hok':Hid (∀ s∈l.take (j+1),x≠s):=Lib.hid fun r hr=>by
     rw [e1] at hr
     rcases List.mem_append.1 hr with hr|hr
     ·exact hok r hr
     ·rw [List.mem_singleton] at hr;subst hr;exact hx
    have k1:=str_beq_false hx
    have HJ:=Lib.hid hj
    clear hj hs hok e1 hx
    go_wp2
    have hj:=HJ.out
    go_roundg (gk-1)
    case measure=>omega
    case rel=>exact ⟨j+1,by omega,int_congr (by omega),hok'.out,rfl⟩
  ·obtain rfl:j=l.length:=by omega
   rw [List.take_length] at hok
   have kk:Hid (ixG (fun s=>decide (x=s)) l=-1):=Lib.hid (by
    have:(l.findIdx? fun s=>decide (x=s))=none:=List.findIdx?_eq_none_iff.2 (fun s hs=>by simp [hok s hs])
    unfold ixG;rw [this])
   clear hj h hok
   go_wp2
   go_ret
   exact ⟨by rw [kk.out];rfl,rfl⟩
theorem containsT_any (l:List ByteArray) (hn:l.length≤1099511627776) (x:ByteArray) (A:Option Addr) (c:Nat) (w:World) (hr:Reads w w.heap.size 1 A l.length (tv l)) :
  Calls Tryz.prog 124 #[.slice A l.length c,.string x] w fun e w'=>e=.returned (.bool (memB x l))∧w=w':=by
 have c1:=indexT_any l hn x A c w hr
 have e1:=ixT_mem (l:=l) (x:=x)
 obtain ⟨i,hi⟩:∃ i,i=ixG (fun s=>decide (x=s)) l:=⟨_,rfl⟩
 rw [← hi] at c1 e1
 have E1:=Lib.hid e1
 clear hr hn hi e1
 go_enter Tryz.func124,Tryz.ntmps124
 go_wp2_with (go_at_call 146;refine c1.mono ?_;clear c1;rintro e w1 ⟨rfl,rfl⟩)
 go_ret
 exact ⟨ret_bool E1.out,rfl⟩
def namTo (l:List ByteArray):Prop:=(∀ s∈l,namP s)∧l.Nodup
theorem namTo_succ {l:List ByteArray} {j:Nat} {s:ByteArray} (h:l[j]?=some s):namTo (l.take (j+1)) ↔ namTo (l.take j)∧namP s∧s ∉ l.take j:=by
 rw [take_snoc h]
 unfold namTo
 rw [List.nodup_append]
 constructor
 ·rintro ⟨h1,h2,h3,h4⟩
  exact ⟨⟨fun x hx=>h1 x (by simp [hx]),h2⟩,h1 s (by simp),fun hm=>h4 s hm s (by simp) rfl⟩
 ·rintro ⟨⟨h1,h2⟩,h3,h4⟩
  refine ⟨fun x hx=>?_,h2,by simp,fun a ha b hb=>?_⟩
  ·rcases List.mem_append.1 hx with hx|hx
   ·exact h1 x hx
   ·rw [List.mem_singleton] at hx;subst hx;exact h3
  ·rw [List.mem_singleton] at hb;subst hb;intro e;subst e;exact h4 ha
theorem namTo_not {l:List ByteArray} {k:Nat} (h:¬ namTo (l.take k)):¬ namesP l:=fun h'=>h ⟨fun s hs=>h'.1 s (List.mem_of_mem_take hs),h'.2.1.sublist (List.take_sublist _ _)⟩
theorem namesP_to {l:List ByteArray}:namesP l ↔ namTo l∧0<l.length∧l.length≤8:=by unfold namesP namTo;exact ⟨fun ⟨a,b,c,d⟩=>⟨⟨a,b⟩,c,d⟩,fun ⟨⟨a,b⟩,c,d⟩=>⟨a,b,c,d⟩⟩
theorem tv_take (l:List ByteArray) (j:Nat):(tv l).take j=tv (l.take j):=by simp [tv,List.map_take]
theorem Reads.head {w:World} {B n c:Nat} {A:Option Addr} {xs:List Value} (h:Reads w B 1 A n xs) {j:Nat} (hj:j≤n):Reads w B 1 A j (xs.take j):=by
 refine ⟨by rw [List.length_take,h.1];omega,fun h0=>?_⟩
 obtain ⟨ad,e,hb,hc⟩:=h.2 (by omega)
 refine ⟨ad,e,hb,fun i u hu=>hc i u ?_⟩
 rw [List.getElem?_take] at hu
 split at hu
 ·exact hu
 ·cases hu
theorem orderable_any (l:List ByteArray) (hn:l.length≤1099511627776) (hs:∀ s∈l,s.size≤140737488355328) (A:Option Addr) (c:Nat) (hc:l.length≤c) (w:World) (hr:Reads w w.heap.size 1 A l.length (tv l)) :
  Calls Tryz.prog 85 #[.slice A l.length c] w fun e w'=>e=.returned (.bool (decide (namesP l)))∧Ext w w':=by
 have HR:=Lib.hid fun (W:World) (x:Ext w W)=>(hr.below x.out).more x.size
 have HN:=Lib.hid hn
 have HS:=Lib.hid hs
 have HC:=Lib.hid hc
 clear hr hn hs hc
 go_enter Tryz.func85,Tryz.ntmps85
 go_wp2
 go_loopg [7] l.length (fun m s7 wr=>∃ j:Nat,j+m=l.length∧s7=.int .i64 j∧namTo (l.take j)∧Ext w wr)
 case atStart=>exact ⟨0,by omega,rfl,⟨by simp,by simp⟩,Ext.refl w⟩
 case round =>
  obtain ⟨j,hj,rfl,hok,hx⟩:=hrel
  have hjb:(j:Int)≤1099511627776:=by have:=HN.out;omega
  by_cases h:j<l.length
  ·obtain ⟨s,hs⟩:∃ s,l[j]?=some s:=⟨_,List.getElem?_eq_getElem h⟩
   obtain ⟨ad,rfl,q0⟩:=reads_text (HR.out _ hx) hs
   have c1:=nCheck_any s (HS.out s (List.mem_of_getElem? hs))
   have HT:=Lib.hid (namTo_succ hs)
   have HO:=Lib.hid hok
   have HX:=Lib.hid hx
   have HJ:=Lib.hid hj
   by_cases h1:namP s
   ·rw [show namE s=0 from if_pos h1] at c1
    have hjc:(j:Int)≤(c:Int):=by have:=HC.out;omega
    have ej:(l.take j).length=j:=by rw [List.length_take];omega
    have c2:∀ W,Ext w W→Calls Tryz.prog 124 #[.slice (some ad) j c,.string s] W fun e w'=>e=.returned (.bool (memB s (l.take j)))∧W=w':=fun W x=>by
     have:=containsT_any (l.take j) (by omega) s (some ad) c W (by rw [← tv_take,ej];exact (HR.out _ x).head (c:=c) (by omega))
     rw [ej] at this;exact this
    by_cases h2:s∈l.take j
    ·rw [memB_yes h2] at c2
     have kk:Hid (¬ namesP l):=Lib.hid (namTo_not (k:=j+1) fun hh=>(HT.out.1 hh).2.2 h2)
     clear hx hj hs hok h2 h1 ej
     go_wp2_with (first
      | (go_at_call 113;refine (c1 _).mono ?_;clear c1;rintro e w1 ⟨rfl,x1⟩)
      | (go_at_call 124;refine (c2 _ (HX.out.trans x1)).mono ?_;clear c2;rintro e w2 ⟨rfl,rfl⟩))
     go_ret
     exact ⟨ret_bool (decide_eq_false kk.out).symm,HX.out.trans x1⟩
    ·rw [memB_no h2] at c2
     have hok':Hid (namTo (l.take (j+1))):=Lib.hid (HT.out.2 ⟨HO.out,h1,h2⟩)
     clear hx hj hs hok h2 h1 ej
     go_wp2_with (first
      | (go_at_call 113;refine (c1 _).mono ?_;clear c1;rintro e w1 ⟨rfl,x1⟩)
      | (go_at_call 124;refine (c2 _ (HX.out.trans x1)).mono ?_;clear c2;rintro e w2 ⟨rfl,rfl⟩))
     have hj:=HJ.out
     go_roundg (gk-1)
     case measure=>omega
     case rel=>exact ⟨j+1,by omega,int_congr (by omega),hok'.out,HX.out.trans x1⟩
   ·rw [show namE s=110 from if_neg h1] at c1
    have kk:Hid (¬ namesP l):=Lib.hid (namTo_not (k:=j+1) fun hh=>h1 (HT.out.1 hh).2.1)
    clear hx hj hs hok h1
    go_wp2_with (go_at_call 113;refine (c1 _).mono ?_;clear c1;rintro e w1 ⟨rfl,x1⟩)
    go_ret
    exact ⟨ret_bool (decide_eq_false kk.out).symm,HX.out.trans x1⟩
  ·obtain rfl:j=l.length:=by omega
   rw [List.take_length] at hok
   have HX:=Lib.hid hx
   clear hx hj
   by_cases h1:0<l.length
   ·have d1:decide (0<l.length)=true:=decide_eq_true h1
    by_cases h2:l.length≤8
    ·have kk:Hid (namesP l):=Lib.hid (namesP_to.2 ⟨hok,h1,h2⟩)
     have d2:(l.length:Int)≤8:=by omega
     clear h h1 h2 hok
     go_wp2
     go_ret
     first|exact ⟨ret_bool (decide_eq_true kk.out).symm,HX.out⟩|exact ⟨ret_bool (by simp [kk.out]),HX.out⟩
    ·have kk:Hid (¬ namesP l):=Lib.hid (fun h=>h2 h.2.2.2)
     have d2:¬ (l.length:Int)≤8:=by omega
     clear h h1 h2 hok
     go_wp2
     go_ret
     first|exact ⟨ret_bool (decide_eq_false kk.out).symm,HX.out⟩|exact ⟨ret_bool (by simp [kk.out]),HX.out⟩
   ·have d1:decide (0<l.length)=false:=decide_eq_false h1
    have kk:Hid (¬ namesP l):=Lib.hid (fun h=>h1 h.2.2.1)
    clear h h1 hok
    go_wp2
    go_ret
    first|exact ⟨ret_bool (decide_eq_false kk.out).symm,HX.out⟩|exact ⟨ret_bool (by simp [kk.out]),HX.out⟩
theorem itoa_any (i:Int) (h0:0≤i) (h1:i<100) (w:World):Calls Tryz.prog 132 #[.int .i64 i] w fun e w'=>e=.returned (.string ⟨(Lib.itoa i).toArray⟩)∧w=w':=by
 obtain ⟨n,rfl⟩:∃ n:Nat,i=n:=⟨i.toNat,by omega⟩
 refine (Tryz.strconv_Itoa_small n (by omega) w).mono ?_
 rintro e w' ⟨rfl,rfl⟩
 exact ⟨by rw [Lib.itoa_nonneg],rfl⟩
theorem itoa_few (i:Int) (h0:0≤i) (h1:i<100):(Lib.itoa i).length≤2:=by
 obtain ⟨n,rfl⟩:∃ n:Nat,i=n:=⟨i.toNat,by omega⟩
 have:∀ k<100,(Lib.itoa (k:Nat)).length≤2:=by decide +kernel
 exact this n (by omega)
theorem token_any (id acc:Int) (h1:0≤id) (h2:id<100) (h3:0≤acc) (h4:acc<100) (w:World):Calls Tryz.prog 104 #[.int .i64 id,.int .i64 acc] w fun e w'=>e=.returned (.string (tokS id acc))∧w=w':=by
 have c1:=fun i a b W=>itoa_any i a b W
 have k1:=itoa_few id h1 h2
 have k2:=itoa_few acc h3 h4
 go_enter Tryz.func104,Tryz.ntmps104
 go_wp2_with (go_at_call 132;refine (c1 _ (by assumption) (by assumption) _).mono ?_;rintro e w1 ⟨rfl,rfl⟩)
 go_ret
 refine ⟨?_,rfl⟩
 unfold tokS
 have e:(⟨(Lib.itoa id).toArray⟩++⟨#[45]⟩++⟨(Lib.itoa acc).toArray⟩:ByteArray)=⟨(Lib.itoa id++[45]++Lib.itoa acc).toArray⟩:=by
  apply ByteArray.ext
  rw [ByteArray.data_append,ByteArray.data_append]
  simp
 rw [← e]
 rfl
theorem rname_any (s:ByteArray) (hs:s.size≤140737488355328) (w:World):Calls Tryz.prog 81 #[.string s] w fun e w'=>e=.returned (.bool (decide (namP s)))∧Ext w w':=by
 have c1:=rnCheck_any s hs
 clear hs
 go_enter Tryz.func81,Tryz.ntmps81
 by_cases h:namP s
 ·rw [show namE s=0 from if_pos h] at c1
  have HH:=Lib.hid h
  clear h
  go_wp2_with (go_at_call 120;refine (c1 _).mono ?_;clear c1;rintro e w1 ⟨rfl,x1⟩)
  go_ret
  exact ⟨ret_bool (decide_eq_true HH.out).symm,x1⟩
 ·rw [show namE s=110 from if_neg h] at c1
  have HH:=Lib.hid h
  clear h
  go_wp2_with (go_at_call 120;refine (c1 _).mono ?_;clear c1;rintro e w1 ⟨rfl,x1⟩)
  go_ret
  exact ⟨ret_bool (decide_eq_false HH.out).symm,x1⟩
theorem not_mem_take_succ {l:List ByteArray} {k:Nat} {s y:ByteArray} (hy:l[k]?=some y) (h:s ∉ l.take k) (hne:y≠s):s ∉ l.take (k+1):=by
 rw [List.take_add_one,hy]
 simp only [Option.toList_some,List.mem_append,List.mem_singleton,not_or]
 exact ⟨h,fun e=>hne e.symm⟩
theorem rNames_any (l:List ByteArray) (hn:l.length≤1099511627776) (hs:∀ s∈l,s.size≤140737488355328) (A:Option Addr) (c:Nat) (w:World) (hr:Reads w w.heap.size 1 A l.length (tv l)) :
  Calls Tryz.prog 38 #[.slice A l.length c] w fun e w'=>e=.returned (.bool (decide (namesP l)))∧Ext w w':=by
 have HR:=Lib.hid fun (W:World) (x:Ext w W)=>(hr.below x.out).more x.size
 have HN:=Lib.hid hn
 have HS:=Lib.hid hs
 clear hr hn hs
 go_enter Tryz.func38,Tryz.ntmps38
 by_cases h1:(l.length:Int)<1
 ·have d1:decide ((l.length:Int)<1)=true:=decide_eq_true h1
  have kk:Hid (¬ namesP l):=Lib.hid (fun h=>by have:=h.2.2.1;omega)
  go_wp2
  go_ret
  exact ⟨ret_bool (decide_eq_false kk.out).symm,Ext.refl w⟩
 by_cases h2:(8:Int)<(l.length:Int)
 ·have kk:Hid (¬ namesP l):=Lib.hid (fun h=>by have:=h.2.2.2;omega)
  go_wp2
  go_ret
  exact ⟨ret_bool (decide_eq_false kk.out).symm,Ext.refl w⟩
 have HL:Hid (0<l.length∧l.length≤8):=Lib.hid ⟨by omega,by omega⟩
 go_wp2
 clear h1 h2
 go_loopg [3] l.length (fun m s3 wr=>∃ j:Nat,j+m=l.length∧s3=.int .i64 j∧namTo (l.take j)∧Ext w wr)
 case atStart=>exact ⟨0,by omega,rfl,⟨by simp,by simp⟩,Ext.refl w⟩
 case round =>
  obtain ⟨j,hj,rfl,hok,hx⟩:=hrel
  have hjb:(j:Int)≤8:=by have:=HL.out;omega
  by_cases h:j<l.length
  ·obtain ⟨s,hs⟩:∃ s,l[j]?=some s:=⟨_,List.getElem?_eq_getElem h⟩
   obtain ⟨ad,rfl,q0⟩:=reads_text (HR.out _ hx) hs
   have c1:=rname_any s (HS.out s (List.mem_of_getElem? hs))
   have hjl:(j:Int)<(l.length:Int):=by omega
   have HT:=Lib.hid (namTo_succ hs)
   have HSJ:=Lib.hid hs
   have HO:=Lib.hid hok
   have HX:=Lib.hid hx
   have HJ:=Lib.hid hj
   by_cases h1:namP s
   case neg =>
    rw [decide_eq_false h1] at c1
    have kk:Hid (¬ namesP l):=Lib.hid (namTo_not (k:=j+1) fun hh=>h1 (HT.out.1 hh).2.1)
    clear hx hj hs hok h1
    go_wp2_with (go_at_call 81;refine (c1 _).mono ?_;clear c1;rintro e w1 ⟨rfl,x1⟩)
    go_ret
    exact ⟨ret_bool (decide_eq_false kk.out).symm,HX.out.trans x1⟩
   rw [decide_eq_true h1] at c1
   have HNP:=Lib.hid h1
   obtain ⟨G,hG⟩:∃ G,G=gk-1:=⟨_,rfl⟩
   have HG:=Lib.hid hG
   have HJL:=Lib.hid h
   clear hx hj hs hok h1 hG
   go_wp2_with (go_at_call 81;refine (c1 _).mono ?_;clear c1;rintro e w1 ⟨rfl,x1⟩)
   obtain ⟨W1,hW1⟩:∃ W,W=w1:=⟨_,rfl⟩
   rw [← hW1] at x1 ⊢
   have HX1:=Lib.hid (HX.out.trans x1)
   clear hW1 x1 q0
   go_loopg [4] j (fun m s4 wr=>∃ k:Nat,k+m=j∧s4=.int .i64 k∧s ∉ l.take k∧Ext w wr)
   case atStart=>exact ⟨0,by omega,rfl,by simp,HX1.out⟩
   case round =>
    obtain ⟨k,hk,rfl,hne,hx⟩:=hrel
    have hkb:(k:Int)≤8:=by omega
    by_cases h5:k<j
    ·obtain ⟨y,hy⟩:∃ s,l[k]?=some s:=⟨_,List.getElem?_eq_getElem (by omega)⟩
     obtain ⟨_,e',q0⟩:=reads_text (HR.out _ hx) hy
     cases e'
     obtain ⟨_,e',q1⟩:=reads_text (HR.out _ hx) HSJ.out
     cases e'
     have hkj:(k:Int)<(j:Int):=by omega
     have hkl:(k:Int)<(l.length:Int):=by omega
     have hXd:=Lib.hid hx.drew
     have q0':=fun n:Nat=>show (wr.drewN n).cell? _=_ from q0
     have q1':=fun n:Nat=>show (wr.drewN n).cell? _=_ from q1
     have HK:=Lib.hid hk
     by_cases e5:y=s
     ·have kk:Hid (¬ namesP l):=Lib.hid (namTo_not (k:=j+1) fun hh=>(HT.out.1 hh).2.2 (by rw [← e5];exact List.mem_of_getElem? (i:=k) (by rw [List.getElem?_take,if_pos h5];exact hy)))
      have d5:=str_beq_true e5
      clear hx hk hy hne h5 e5
      go_wp2
      go_region
      all_goals go_wp2
      all_goals go_ret
      all_goals exact ⟨ret_bool (decide_eq_false kk.out).symm,hXd.out⟩
     ·have hne':=Lib.hid (not_mem_take_succ hy hne e5)
      have d5:=str_beq_false e5
      clear hx hk hy hne h5 e5
      go_wp2
      go_region
      all_goals go_wp2
      have hk:=HK.out
      all_goals go_roundg (gk-1)
      case measure=>omega
      case rel=>exact ⟨k+1,by omega,int_congr (by omega),hne'.out,hXd.out⟩
    ·obtain rfl:k=j:=by omega
     have hok':Hid (namTo (l.take (k+1))):=Lib.hid (HT.out.2 ⟨HO.out,HNP.out,hne⟩)
     have HX9:=Lib.hid hx
     clear hx hk hne h5
     go_wp2
     have hj:=HJ.out
     have hG:=HG.out
     go_roundg G
     case measure=>omega
     case rel=>exact ⟨k+1,by omega,int_congr (by omega),hok'.out,HX9.out⟩
  ·obtain rfl:j=l.length:=by omega
   rw [List.take_length] at hok
   have HX:=Lib.hid hx
   have kk:Hid (namesP l):=Lib.hid (namesP_to.2 ⟨hok,HL.out.1,HL.out.2⟩)
   clear hx hj h hok
   go_wp2
   go_ret
   exact ⟨ret_bool (decide_eq_true kk.out).symm,HX.out⟩
def digS (d:Nat):ByteArray:=(⟨#[48,49,50,51,52,53,54,55,56,57]⟩:ByteArray).extract d (d+1)
theorem digS_one (n:Nat) (h:n<10):digS (n % 10)=⟨(Lib.itoa (n:Int)).toArray⟩:=by
 have:∀ k<10,(digS (k % 10)).data.toList=Lib.itoa ((k:Nat):Int):=by decide +kernel
 have k:=this n h
 rw [← k]
theorem digS_two (n:Nat) (h:n<100) (h1:10≤n):digS (n / 10 % 10)++digS (n % 10)=⟨(Lib.itoa (n:Int)).toArray⟩:=by
 have:∀ k<100,10≤k→(digS (k / 10 % 10)++digS (k % 10)).data.toList=Lib.itoa ((k:Nat):Int):=by decide +kernel
 have k:=this n h h1
 rw [← k]
theorem digS_size (n:Nat):(digS (n % 10)).size≤1:=by
 have:∀ k<10,(digS k).size≤1:=by decide +kernel
 exact this _ (Nat.mod_lt _ (by decide))
theorem bnil (b:ByteArray):b++⟨#[]⟩=b:=by apply ByteArray.ext;rw [ByteArray.data_append];simp
theorem decimal_any (n:Nat) (h0:n<100) (w:World):Calls Tryz.prog 138 #[.int .i64 (n:Int)] w fun e w'=>e=.returned (.string ⟨(Lib.itoa (n:Int)).toArray⟩)∧w=w':=by
 have hb:(n:Int)<100:=by omega
 go_enter Tryz.func138,Tryz.ntmps138
 go_wp2
 go_loopg [0,3,4] 20 (fun g s0 s3 s4 wr=>∃ i m:Nat,i+g=20∧s4=.int .i64 i∧wr=w∧s0=.int .i64 (m:Int)∧((i=0∧s3=.string ⟨#[]⟩∧m=n)∨(i=1∧10≤n∧s3=.string (digS (n % 10))∧m=n / 10)))
 case atStart=>exact ⟨0,n,by omega,rfl,rfl,rfl,.inl ⟨rfl,rfl,rfl⟩⟩
 case round =>
  obtain ⟨i,m,hi,rfl,rfl,rfl,h⟩:=hrel
  rcases h with ⟨hi0,rfl,hm⟩|⟨hi1,h10,rfl,hm⟩
  ·obtain rfl:m=n:=hm
   obtain rfl:i=0:=hi0
   by_cases h:m<10
   ·have d1:((m:Int) / 10==0)=true:=by simp;omega
    have HH:=Lib.hid (digS_one m h)
    clear h hi
    go_wp2
    go_ret
    first|exact ⟨by rw [← HH.out];rfl,rfl⟩|exact ⟨by rw [← HH.out];simp [digS,bnil],rfl⟩
   ·have d1:((m:Int) / 10==0)=false:=by simp;omega
    have HI:=Lib.hid hi
    go_wp2
    have hi:=HI.out
    go_roundg (gk-1)
    case measure=>omega
    case rel=>exact ⟨1,m / 10,by omega,int_congr (by omega),rfl,int_congr (by omega),.inr ⟨rfl,by omega,by first|rfl|simp [digS,bnil],rfl⟩⟩
  ·have hm2:m<10:=by omega
   have hi2:(i:Int)<20:=by omega
   have hm3:(m:Int)<10:=by omega
   have d1:((m:Int) / 10==0)=true:=by simp;omega
   have HH:=Lib.hid (show digS (m % 10)++digS (n % 10)=⟨(Lib.itoa (n:Int)).toArray⟩ by rw [hm];exact digS_two n h0 h10)
   have hz:=digS_size n
   clear hi h10 hm hi1
   go_wp2
   go_ret
   exact ⟨by rw [← HH.out];rfl,rfl⟩
theorem rToken_any (id acc:Int) (h1:0≤id) (h2:id<100) (h3:0≤acc) (h4:acc<100) (w:World):Calls Tryz.prog 112 #[.int .i64 id,.int .i64 acc] w fun e w'=>e=.returned (.string (tokS id acc))∧w=w':=by
 obtain ⟨n,rfl⟩:∃ n:Nat,id=n:=⟨id.toNat,by omega⟩
 obtain ⟨m,rfl⟩:∃ m:Nat,acc=m:=⟨acc.toNat,by omega⟩
 have c1:=fun w=>decimal_any n (by omega) w
 have c2:=fun w=>decimal_any m (by omega) w
 have l1:=itoa_few n h1 h2
 have l2:=itoa_few m h3 h4
 clear h1 h2 h3 h4
 go_enter Tryz.func112,Tryz.ntmps112
 go_wp2_with (first|((with_reducible refine (c1 _).mono ?_);rintro e w1 ⟨rfl,rfl⟩)|((with_reducible refine (c2 _).mono ?_);rintro e w1 ⟨rfl,rfl⟩))
 go_ret
 refine ⟨?_,rfl⟩
 unfold tokS
 have e:(⟨(Lib.itoa (n:Int)).toArray⟩++⟨#[45]⟩++⟨(Lib.itoa (m:Int)).toArray⟩:ByteArray)=⟨(Lib.itoa (n:Int)++[45]++Lib.itoa (m:Int)).toArray⟩:=by
  apply ByteArray.ext
  rw [ByteArray.data_append,ByteArray.data_append]
  simp
 rw [← e]
 rfl
theorem cell_two_at (W:World) (g:Nat) (hg:W.heap.size=g) (x y:Value) (t:TypeId):∀ j u,[x,y][j]?=some u→(W.alloc (.cells #[x,y] t)).cell? ((⟨g,0,none⟩:Addr).add j)=some u:=by subst hg;exact cell_two_new W x y t
def tellR (next:Int) (l:List NonR) (now:Int):Int × List NonR × Int × Nat:=if tellE next l now 20=0 then (next+1,tellL next l now 20,next,0) else (0,[],0,tellE next l now 20)
theorem tellR_ok {next:Int} {l:List NonR} {now:Int} (h:tellE next l now 20=0):tellR next l now=(next+1,tellL next l now 20,next,0):=by unfold tellR;rw [if_pos h]
theorem tellR_no {next:Int} {l:List NonR} {now:Int} {e:Nat} (h:tellE next l now 20=e) (he:e≠0):tellR next l now=(0,[],0,e):=by unfold tellR;rw [if_neg (by rw [h];exact he),h]
theorem fen_wf {next:Int} {l:List NonR} (h:fenN next l=0):wf64 next∧l.length≤1099511627776∧∀ x∈l,wf64 x.n∧wf64 x.u:=by
 obtain ⟨⟨h1,h2,h3⟩,h4⟩:=fenN_zero.1 h
 refine ⟨wf64_of (by have:=h3.1;omega) (by have:=h3.2;omega),by omega,fun x hx=>?_⟩
 obtain ⟨g1,g2,g3,g4⟩:=h2 x hx
 exact ⟨wf64_of (by omega) (by have:=h3.2;omega),wf64_of (by omega) (by omega)⟩
theorem nons_own {w:World} {base:Nat} {next:Int} {l:List NonR} {A:Option Addr} {c:Nat} (ho:w.ownsRow base 102 2 (.slice A l.length c) l.length (nonV l)) (h:fenN next l=0):NonsW w w.heap.size next l A c:=by
 obtain ⟨A',c',e,hc,hr⟩:=own_slice2 ho
 cases e
 obtain ⟨h1,h2,h3⟩:=fen_wf h
 exact ⟨h1,hr,hc,h2,h3⟩
theorem nons_nil (w:World) (B:Nat):NonsW w B 0 [] none 0:=⟨wf64_of (by omega) (by omega),Reads.none_,by simp,by simp,by simp⟩
theorem fenN_use {next:Int} {l:List NonR} {n now:Int}:fenN (useF next l n now).1 (useF next l n now).2.1=0:=by
 unfold useF
 split
 ·next h=>exact fenN_sub (useE_zero h).1 (useL_sub l n)
 ·show fenN 0 []=0
  decide
def tellPost (r:Int × List NonR × Int × Nat) (w:World) (e:Ending) (w':World):Prop :=
 ∃ A c,e=.returned (.tuple #[fenV r.1 r.2.1 A c,.int .i64 r.2.2.1,.int .i64 (r.2.2.2:Nat)])∧w'.ownsRow w.heap.size 102 2 (.slice A r.2.1.length c) r.2.1.length (nonV r.2.1)∧Ext w w'
theorem Tell_any (next:Int) (l:List NonR) (A:Option Addr) (c:Nat) (now:Int) (w:World) (hw:NonsW w w.heap.size next l A c) :
  Calls Tryz.prog 70 #[fenV next l A c,.int .i64 now,.int .i64 20] w (tellPost (tellR next l now) w):=by
 have c1:=fCheck_any next l A c
 have cT:=time_any now
 have cR:=fun W h=>Trim_any next l A c now W h
 unfold fenV at c1 cR ⊢
 obtain ⟨W0,e0,b0,b1,x0,s0⟩:=startP w #[.int .i64 next,.slice A l.length c] #[.int .i64 0,.slice none 0 0] 38 38
 have c2:=c1 W0 (hw.ext x0)
 obtain ⟨E,hE⟩:∃ E,fenN next l=E:=⟨_,rfl⟩
 rw [hE] at c2
 clear c1
 by_cases h0:E=0
 case neg =>
  rw [show tellR next l now=(0,[],0,E) from tellR_no (by unfold tellE;rw [if_pos (by rw [hE];exact h0),hE]) h0]
  have k0:((E:Int) != 0)=true:=by simp;omega
  subst e0
  have B1:=Lib.hid b1
  have X0:=Lib.hid x0
  clear hw hE h0 b0 b1 x0 cT s0 cR
  go_enter Tryz.func70,Tryz.ntmps70
  go_wp2_with (go_at_call 62;refine c2.mono ?_;clear c2;rintro e w1 ⟨rfl,x1⟩;have b2:=ext_blk x1 B1.out;obtain ⟨q0,q1⟩:=two b2;have f0:=b2.frozen 0;have f1:=b2.frozen 1;have BB:=Lib.hid ((b2.set_ 0 (.int .i64 0)).set_ 1 (.slice none 0 0));clear b2)
  obtain ⟨r0,r1⟩:=two BB.out
  refine bodyPost_ret (v:=.tuple #[.agg #[.int .i64 0,.slice none 0 0],.int .i64 0,.int .i64 (E:Int)]) (by simp [results,Tryz.results70,go_sem,r0,r1]) rfl ⟨none,0,rfl,World.ownsRow_nil _ _ _ _,((X0.out.trans x1).setCell (by simp) _).setCell (by simp) _⟩
 subst h0
 obtain ⟨hp,hb,hnx,hu⟩:=fen_pair hE
 have HB1:=Lib.hid b1
 have HB0:=Lib.hid b0
 have HX0:=Lib.hid x0
 by_cases h1:numP now
 case neg =>
  rw [show tellR next l now=(0,[],0,1) from tellR_no (by unfold tellE;rw [if_neg (by rw [hE];simp),if_pos (by simp [h1])]) (by decide)]
  rw [decide_eq_false h1] at cT
  subst e0
  clear hw hE b0 b1 x0 s0 h1 hp hb hnx hu cR
  go_enter Tryz.func70,Tryz.ntmps70
  go_wp2_with (first
   | (go_at_call 62;refine c2.mono ?_;clear c2;rintro e w1 ⟨rfl,x1⟩;have b2:=ext_blk x1 HB1.out;obtain ⟨q0,q1⟩:=two b2;have f0:=b2.frozen 0;have f1:=b2.frozen 1;have BB:=Lib.hid ((b2.set_ 0 (.int .i64 0)).set_ 1 (.slice none 0 0));clear b2)
   | (go_at_call 87;refine (cT _).mono ?_;clear cT;rintro e w2 ⟨rfl,rfl⟩))
  obtain ⟨r0,r1⟩:=two BB.out
  refine bodyPost_ret (v:=.tuple #[.agg #[.int .i64 0,.slice none 0 0],.int .i64 0,.int .i64 1]) (by simp [results,Tryz.results70,go_sem,r0,r1]) rfl ⟨none,0,rfl,World.ownsRow_nil _ _ _ _,((HX0.out.trans x1).setCell (by simp) _).setCell (by simp) _⟩
 rw [decide_eq_true h1] at cT
 by_cases h2:1099511627776-now<20
 ·rw [show tellR next l now=(0,[],0,1) from tellR_no (by unfold tellE;rw [if_neg (by rw [hE];simp),if_pos (.inr (.inr h2))]) (by decide)]
  have n0:=h1.1
  have n1:=h1.2
  have k2:decide (1099511627776-now<20)=true:=decide_eq_true h2
  subst e0
  clear hw hE b0 b1 x0 s0 h1 hp hb hnx hu cR h2
  go_enter Tryz.func70,Tryz.ntmps70
  go_wp2_with (first
   | (go_at_call 62;refine c2.mono ?_;clear c2;rintro e w1 ⟨rfl,x1⟩;have b2:=ext_blk x1 HB1.out;obtain ⟨q0,q1⟩:=two b2;have f0:=b2.frozen 0;have f1:=b2.frozen 1;have BB:=Lib.hid ((b2.set_ 0 (.int .i64 0)).set_ 1 (.slice none 0 0));clear b2)
   | (go_at_call 87;refine (cT _).mono ?_;clear cT;rintro e w2 ⟨rfl,rfl⟩))
  obtain ⟨r0,r1⟩:=two BB.out
  refine bodyPost_ret (v:=.tuple #[.agg #[.int .i64 0,.slice none 0 0],.int .i64 0,.int .i64 1]) (by simp [results,Tryz.results70,go_sem,r0,r1]) rfl ⟨none,0,rfl,World.ownsRow_nil _ _ _ _,((HX0.out.trans x1).setCell (by simp) _).setCell (by simp) _⟩
 have n0:=h1.1
 have n1:=h1.2
 have k2:decide (1099511627776-now<20)=false:=decide_eq_false h2
 obtain ⟨m,hm⟩:∃ m,m=(trimF l now).length:=⟨_,rfl⟩
 have cR2:∀ W,Ext W0 W→Calls Tryz.prog 115 #[.agg #[.int .i64 next,.slice A l.length c],.int .i64 now] W fun e w'=>∃ A' c',e=.returned (.agg #[.int .i64 next,.slice A' m c'])∧w'.ownsRow W0.heap.size 102 2 (.slice A' m c') m (nonV (trimF l now))∧Ext W w':=fun W x=>by
  rw [hm]
  exact (cR W (hw.ext (x0.trans x))).mono fun e w' ⟨A',c',g1,g2,g3⟩=>⟨A',c',g1,own_base g2 x.size,g3⟩
 have hmb:m≤64:=by have:=(trimF_sub l now).length_le;have:=(fenN_zero.1 hE).2;omega
 have HXW:Hid (∀ W,Ext W0 W→Ext w W):=Lib.hid fun W x=>x0.trans x
 have HS0:=Lib.hid s0
 by_cases h3:m=64∨next=1099511627776
 ·have hR:tellR next l now=(0,[],0,2):=tellR_no (by unfold tellE;rw [if_neg (by rw [hE];simp),if_neg (by rintro (h|h|h) <;> first|exact h h1|omega),← hm,if_pos h3]) (by decide)
  rw [hR]
  clear hR hmb
  by_cases h4:m=64
  ·have k4:((m:Int)==64)=true:=by rw [h4];rfl
   have HM:=Lib.hid hm
   subst e0
   clear hw hE b0 b1 x0 s0 h1 hp hb hnx hu cR h2 hm h3 h4
   go_enter Tryz.func70,Tryz.ntmps70
   go_wp2_with (first
    | (go_at_call 62;refine c2.mono ?_;clear c2;rintro e w1 ⟨rfl,x1⟩;obtain ⟨m0,m1⟩:=two (ext_blk x1 HB0.out))
    | (go_at_call 87;refine (cT _).mono ?_;clear cT;rintro e w2 ⟨rfl,rfl⟩)
    | (go_at_call 115;refine (cR2 _ x1).mono ?_;clear cR2;rintro e w3 ⟨A3,c3,rfl,ho3,x3⟩;have b2:=ext_blk (x1.trans x3) HB1.out;obtain ⟨q0,q1⟩:=two b2;have f0:=b2.frozen 0;have f1:=b2.frozen 1;have BB:=Lib.hid ((((b2.set_ 0 (.int .i64 next)).set_ 1 (.slice A3 m c3)).set_ 0 (.int .i64 0)).set_ 1 (.slice none 0 0));clear b2 ho3))
   obtain ⟨r0,r1⟩:=two BB.out
   refine bodyPost_ret (v:=.tuple #[.agg #[.int .i64 0,.slice none 0 0],.int .i64 0,.int .i64 2]) (by simp [results,Tryz.results70,go_sem,r0,r1]) rfl ⟨none,0,rfl,World.ownsRow_nil _ _ _ _,((((HX0.out.trans (x1.trans x3)).setCell (by simp) _).setCell (by simp) _).setCell (by simp) _).setCell (by simp) _⟩
  ·have k4:((m:Int)==64)=false:=by rw [beq_eq_false_iff_ne];omega
   have k5:(next==1099511627776)=true:=by rw [beq_iff_eq];omega
   have HM:=Lib.hid hm
   subst e0
   clear hw hE b0 b1 x0 s0 h1 hp hb hnx hu cR h2 hm h3 h4
   go_enter Tryz.func70,Tryz.ntmps70
   go_wp2_with (first
    | (go_at_call 62;refine c2.mono ?_;clear c2;rintro e w1 ⟨rfl,x1⟩;obtain ⟨m0,m1⟩:=two (ext_blk x1 HB0.out))
    | (go_at_call 87;refine (cT _).mono ?_;clear cT;rintro e w2 ⟨rfl,rfl⟩)
    | (go_at_call 115;refine (cR2 _ x1).mono ?_;clear cR2;rintro e w3 ⟨A3,c3,rfl,ho3,x3⟩;have b2:=ext_blk (x1.trans x3) HB1.out;obtain ⟨q0,q1⟩:=two b2;have f0:=b2.frozen 0;have f1:=b2.frozen 1;have BB:=Lib.hid ((((b2.set_ 0 (.int .i64 next)).set_ 1 (.slice A3 m c3)).set_ 0 (.int .i64 0)).set_ 1 (.slice none 0 0));clear b2 ho3))
   obtain ⟨r0,r1⟩:=two BB.out
   refine bodyPost_ret (v:=.tuple #[.agg #[.int .i64 0,.slice none 0 0],.int .i64 0,.int .i64 2]) (by simp [results,Tryz.results70,go_sem,r0,r1]) rfl ⟨none,0,rfl,World.ownsRow_nil _ _ _ _,((((HX0.out.trans (x1.trans x3)).setCell (by simp) _).setCell (by simp) _).setCell (by simp) _).setCell (by simp) _⟩
 ·have hT:tellE next l now 20=0:=by unfold tellE;rw [if_neg (by rw [hE];simp),if_neg (by rintro (h|h|h) <;> first|exact h h1|omega),← hm,if_neg h3]
  rw [tellR_ok hT]
  have hF:=tell_fen hT
  have k4:((m:Int)==64)=false:=by rw [beq_eq_false_iff_ne];omega
  have k5:(next==1099511627776)=false:=by rw [beq_eq_false_iff_ne];omega
  have k6:=hnx.1
  have k7:=hnx.2
  have HM:=Lib.hid hm
  have HF:=Lib.hid hF
  obtain ⟨i0,hi,hz0,hz1,hz2⟩:=info_parts Tryz.infoNon
  subst e0
  clear hw hE b0 b1 x0 s0 h1 hp hb hnx hu cR h2 hm h3 hT hF
  go_enter Tryz.func70,Tryz.ntmps70
  go_wp2_with (first
   | (go_at_call 62;refine c2.mono ?_;clear c2;rintro e w1 ⟨rfl,x1⟩;obtain ⟨m0,m1⟩:=two (ext_blk x1 HB0.out))
   | (go_at_call 87;refine (cT _).mono ?_;clear cT;rintro e w2 ⟨rfl,rfl⟩)
   | (go_at_call 115;refine (cR2 _ x1).mono ?_;clear cR2;rintro e w3 ⟨A3,c3,rfl,ho3,x3⟩;have b2:=ext_blk (x1.trans x3) HB1.out;obtain ⟨q0,q1⟩:=two b2;have f0:=b2.frozen 0;have f1:=b2.frozen 1;have BB:=Lib.hid ((b2.set_ 0 (.int .i64 next)).set_ 1 (.slice A3 m c3));have O4:=Lib.hid (own_base (own_far (own_far ho3 (g:=w.heap.size+1) (by simp) 0 (.int .i64 next)) (g:=w.heap.size+1) (by simp) 1 (.slice A3 m c3)) (base':=w.heap.size+2) (by simp));have HSZ:=Lib.hid (show w.heap.size+2≤w3.heap.size by have g1:=x1.size;have g2:=x3.size;simp at g1;omega);clear b2 ho3)
   | (at_builtin;refine wpList_append_own _ rfl (.tmp 46) (.tmp 52) 36 rfl (w.heap.size+2) 102 i0 (.agg #[.int .i64 0,.int .i64 0]) 2 16 Tryz.underlying36 hi hz0 hz1 hz2 rfl (by decide) _ _ _ rfl (O4.out.alloc _) ⟨w3.heap.size,0,none⟩ 1 1 [.int .i64 next,.int .i64 (now+20)] rfl rfl (cell_two_at _ _ (by simp) _ _ _) (by simp [Value.oneCell']) (by simp only [maxLen];omega) (by omega) (by have:=HSZ.out;simp;omega) ?_;intro v7 w7 hown7 hg7 _;obtain ⟨A7,c7,rfl,hc7,-⟩:=own_slice2 hown7;have b7:=(BB.out.alloc (.cells #[.int .i64 next,.int .i64 (now+20)] 102)).grown hg7 (fun e=>by have:=own_out O4.out _ e.symm;omega);obtain ⟨d0,d1⟩:=two b7;have f2:=b7.frozen 0;have f3:=b7.frozen 1;have B7:=Lib.hid ((((b7.set_ 1 (.slice A7 (m+1) c7)).set_ 0 (.int .i64 (next+1))).set_ 0 (.int .i64 (next+1))).set_ 1 (.slice A7 (m+1) c7));have HG7:=Lib.hid hg7;have O7:=Lib.hid hown7;clear hown7 hg7 b7))
  obtain ⟨r0,r1⟩:=two B7.out
  have hlen:(tellL next l now 20).length=m+1:=by unfold tellL;rw [List.length_append,← HM.out];rfl
  have hv:nonV (trimF l now)++[.int .i64 next,.int .i64 (now+20)]=nonV (tellL next l now 20):=by unfold tellL;rw [nonV_append];rfl
  have hx4:=((HX0.out.trans (x1.trans x3)).setCell (p:=⟨w.heap.size+1,0,none⟩) (by simp) (.int .i64 next)).setCell (p:=⟨w.heap.size+1,1,none⟩) (by simp) (.slice A3 m c3)
  have hx7:=ext_grown (hx4.alloc (.cells #[.int .i64 next,.int .i64 (now+20)] 102)) (own_base (O4.out.alloc _) (by omega)) HG7.out
  have o7:=O7.out
  rw [hv] at o7
  have o8:=own_far (own_far (own_far (own_far o7 (g:=w.heap.size+1) (by omega) 1 (.slice A7 (m+1) c7)) (g:=w.heap.size+1) (by omega) 0 (.int .i64 (next+1))) (g:=w.heap.size+1) (by omega) 0 (.int .i64 (next+1))) (g:=w.heap.size+1) (by omega) 1 (.slice A7 (m+1) c7)
  refine bodyPost_ret (v:=.tuple #[.agg #[.int .i64 (next+1),.slice A7 (m+1) c7],.int .i64 next,.int .i64 0]) (by simp [results,Tryz.results70,go_sem,r0,r1]) rfl ⟨A7,c7,?_,?_,(((hx7.setCell (p:=⟨w.heap.size+1,1,none⟩) (by simp) _).setCell (p:=⟨w.heap.size+1,0,none⟩) (by simp) _).setCell (p:=⟨w.heap.size+1,0,none⟩) (by simp) _).setCell (p:=⟨w.heap.size+1,1,none⟩) (by simp) _⟩
  ·unfold fenV;simp only;rw [hlen];rfl
  ·simp only
   rw [hlen]
   exact own_base o8 (by omega)
def DoorB (w:World) (b:Nat) (d:DoorX) (now:Int):Prop :=
 Blk w b 92 #[.int .i64 d.next,.slice d.oA d.opn.length d.oc,.slice d.cA d.accs.length d.cc,.slice d.uA d.auts.length d.uc,.slice d.rA d.ords.length d.rc,.int .i64 d.ser,.int .i64 now]
def frontV (d:DoorX):Value:=.agg #[.int .i64 d.next,.slice d.oA d.opn.length d.oc,.slice d.cA d.accs.length d.cc,.slice d.uA d.auts.length d.uc,.slice d.rA d.ords.length d.rc,.int .i64 d.ser]
theorem arr7 {W:World} {g:Nat} {T:TypeId} {a b c d e f h:Value} (k:Blk W g T #[a,b,c,d,e,f,h]):W.cell? ⟨g,0,none⟩=some a∧W.cell? ⟨g,1,none⟩=some b∧W.cell? ⟨g,2,none⟩=some c∧W.cell? ⟨g,3,none⟩=some d∧W.cell? ⟨g,4,none⟩=some e∧W.cell? ⟨g,5,none⟩=some f∧W.cell? ⟨g,6,none⟩=some h :=
 ⟨k.cell 0,k.cell 1,k.cell 2,k.cell 3,k.cell 4,k.cell 5,k.cell 6⟩
theorem DoorB.ext {w w':World} {b:Nat} {d:DoorX} {now:Int} (h:DoorB w b d now) (x:Ext w w'):DoorB w' b d now:=ext_blk x h
theorem DoorB.grown {w w':World} {b:Nat} {d:DoorX} {now:Int} (h:DoorB w b d now) {row:Option Nat} (x:w.grownBy w' row) (hr:some b≠row):DoorB w' b d now:=Blk.grown h x hr
theorem grown_ext {w w':World} (x:Ext w w') (row:Option Nat):w.grownBy w' row:=⟨x.out.os,x.out.tape,x.out.output,x.size,fun k hk _=>x.out.block k hk⟩
def keysU (l:List Nat):List Lit:=l.map fun (n:Nat)=>Lit.int .u64 (n:Int)
theorem atKey_foldU {H:Type} (u z:DataW H) (x:Nat):∀ (l:List Nat) (m:DataW H),IsMap m →
  ((keysU l).foldl (fun m x=>m.put x u) m).atKey (.int .u64 (x:Int)) z=if x∈l then u else m.atKey (.int .u64 (x:Int)) z
 | [],m,_=>by simp [keysU]
 | y :: l,m,hm=>by
  show ((keysU l).foldl (fun m x=>m.put x u) (m.put (.int .u64 (y:Int)) u)).atKey (.int .u64 (x:Int)) z=_
  rw [atKey_foldU u z x l _ (hm.put _ u)]
  by_cases hx:x∈l
  ·rw [if_pos hx,if_pos (List.mem_cons_of_mem _ hx)]
  ·rw [if_neg hx]
   by_cases e:x=y
   ·subst e
    rw [atKey_put_same hm (by trivial) u z,if_pos List.mem_cons_self]
   ·rw [atKey_put_other (by simp;omega) u z,if_neg (by simp [e,hx])]
theorem atKey_setU {H:Type} (u z:DataW H) (x:Nat) (l:List Nat):(setOf u (keysU l)).atKey (.int .u64 (x:Int)) z=if x∈l then u else z:=by
 have:=atKey_foldU u z x l (.map []) isMap_empty
 exact this
def SetU (w:World) (b:Nat) (l:List Nat):Prop:=w.ownsMap Tryz.prog 22 (plainElem (H:=Unit) Tryz.prog 4) b l.length (setOf tt (keysU l))
theorem keyU64:Keyed Tryz.prog 22:=int_keyed Tryz.underlying22
theorem wf_u64 {n:Nat} (h:n<18446744073709551616):(Lit.int .u64 (n:Int)).wf=true:=by
 simp [Lit.wf,IntKind.min,IntKind.max,IntKind.signed,IntKind.bits];omega
theorem SetU.look {w:World} {b:Nat} {l:List Nat} (h:SetU w b l) (x:Nat) (hx:x<18446744073709551616) :
  (Instr.lookup 104 (.map (some b)) (.int .u64 (x:Int)) false).run Tryz.prog w=.ok (.bool (decide (x∈l))) w:=by
 obtain ⟨v,ps,hrun,hv⟩:=World.ownsMap.lookup h keyU64 Tryz.underlying104 (zeroB w) (zd:=.lit (.bool false)) (zp:=[]) (plainElem_bool Tryz.underlying4 false) (keyOf_int_mk Tryz.underlying22 (wf_u64 hx))
 obtain ⟨a,rfl,e⟩:=plainElem_bool_inv Tryz.underlying4 hv
 rw [hrun]
 rw [atKey_setU] at e
 have:a=decide (x∈l):=by
  by_cases hm:x∈l
  ·rw [if_pos hm] at e
   simp [tt] at e
   simp [hm,← e.1]
  ·rw [if_neg hm] at e
   simp at e
   simp [hm,← e.1]
 rw [this]
theorem SetU.put_ {w':World} {b:Nat} {l:List Nat} {x:Nat} (h:w'.ownsMap Tryz.prog 22 (plainElem (H:=Unit) Tryz.prog 4) b (l.length+1) ((setOf tt (keysU l)).put (.int .u64 (x:Int)) tt)):SetU w' b (l++[x]):=by
 have e:setOf tt (keysU (l++[x]))=(setOf tt (keysU l)).put (.int .u64 (x:Int)) tt:=by rw [← setOf_snoc];simp [keysU]
 unfold SetU
 rw [e,List.length_append]
 exact h
theorem SetU.new (w:World):SetU (w.alloc (.map #[] 0)) w.heap.size []:=World.ownsMap_made w Tryz.prog 22 _
theorem SetU.ext {w w':World} {b:Nat} {l:List Nat} (h:SetU w b l) (x:Ext w w'):SetU w' b l:=World.ownsMap.kept h (grown_ext x none) (by simp)
theorem SetIs.ext {w w':World} {b:Nat} {l:List Int} (h:SetIs w b l) (x:Ext w w'):SetIs w' b l:=World.ownsMap.kept h (grown_ext x none) (by simp)
theorem SetIs.grown {w w':World} {b:Nat} {l:List Int} (h:SetIs w b l) {row:Option Nat} (x:w.grownBy w' row) (hr:some b≠row):SetIs w' b l:=World.ownsMap.kept h x hr
theorem hasAcc_any (b:Nat) (d:DoorX) (now n:Int) (w:World) (h:DoorB w b d now) :
  Calls Tryz.prog 47 #[.pointer (some ⟨b,0,none⟩),.int .i64 n] w fun e w'=>e=.returned (.bool (decide (1≤n∧n≤d.accs.length)))∧w=w':=by
 obtain ⟨a0,a1,a2,a3,a4,a5,a6⟩:=arr7 h
 go_enter Tryz.func47,Tryz.ntmps47
 by_cases h1:1≤n <;> by_cases h2:n≤(d.accs.length:Int)
 all_goals
  go_wp2
  go_ret
  exact ⟨by simp [h1,h2],rfl⟩
theorem mayAcc_no (b:Nat) (d:DoorX) (now:Int) (i:Nat) (x:AccR) (hi:d.accs[i]?=some x) (hk:x.key<18446744073709551616) (m:Nat) (l:List Nat) (hno:¬ (accP i x∧x.key ∉ l)) (hib:(i:Int)≤1099511627776) (w:World) (h:DoorB w b d now)
  (hr:Reads w w.heap.size 2 d.cA d.accs.length (accV d.accs)) (hs:SetU w m l) :
  Calls Tryz.prog 63 #[.pointer (some ⟨b,0,none⟩),.int .i64 (i:Int),.map (some m)] w fun e w'=>e=.returned (.bool false)∧Ext w w':=by
 obtain ⟨a0,a1,a2,a3,a4,a5,a6⟩:=arr7 h
 have c1:=In_any x.key hk
 have hlk:=SetU.look (hs.alloc (.cells #[.int .i64 x.id,.int .u64 (x.key:Int)] 75)) x.key hk
 have hil:(i:Int)<(d.accs.length:Int):=by have:=(List.getElem?_eq_some_iff.1 hi).1;omega
 obtain ⟨ad,hA,hlt,q0,q1⟩:=reads_acc hr hi
 rw [hA] at a2
 unfold accP at hno
 clear h hr hs hi hA hlt
 by_cases h1:x.id=(i:Int)+1
 ·have k1:(x.id != (i:Int)+1)=false:=by simp [h1]
  by_cases h2:x.key∈l
  ·rw [decide_eq_true h2] at hlk
   clear h1 h2 hno c1
   go_enter Tryz.func63,Tryz.ntmps63
   go_wp2
   go_ret
   exact ⟨rfl,(Ext.refl w).alloc _⟩
  ·have h3:inB x.key=false:=by
    cases e:inB x.key with
    | false=>rfl
    | true=>exact absurd ⟨⟨h1,e⟩,h2⟩ hno
   rw [decide_eq_false h2] at hlk
   rw [h3] at c1
   clear h1 h2 hno h3
   go_enter Tryz.func63,Tryz.ntmps63
   go_wp2_with (go_at_call 86;refine (c1 _).mono ?_;clear c1;rintro e w1 ⟨rfl,x1⟩)
   go_ret
   exact ⟨rfl,((Ext.refl w).alloc _).trans x1⟩
 ·have k1:(x.id != (i:Int)+1)=true:=by simp [h1]
  clear h1 hno c1 hlk
  go_enter Tryz.func63,Tryz.ntmps63
  go_wp2
  go_ret
  exact ⟨rfl,(Ext.refl w).alloc _⟩
theorem mayAcc_yes (b:Nat) (d:DoorX) (now:Int) (i:Nat) (x:AccR) (hi:d.accs[i]?=some x) (hk:x.key<18446744073709551616) (m:Nat) (l:List Nat) (hl:l.length≤1099511627776) (hx:accP i x) (hm:x.key ∉ l) (hib:(i:Int)≤1099511627776) (w:World) (h:DoorB w b d now)
  (hr:Reads w w.heap.size 2 d.cA d.accs.length (accV d.accs)) (hs:SetU w m l) :
  Calls Tryz.prog 63 #[.pointer (some ⟨b,0,none⟩),.int .i64 (i:Int),.map (some m)] w fun e w'=>e=.returned (.bool true)∧SetU w' m (l++[x.key])∧w.grownBy w' (some m):=by
 obtain ⟨a0,a1,a2,a3,a4,a5,a6⟩:=arr7 h
 have c1:=In_any x.key hk
 have hs1:=hs.alloc (.cells #[.int .i64 x.id,.int .u64 (x.key:Int)] 75)
 have hlk:=SetU.look hs1 x.key hk
 have hil:(i:Int)<(d.accs.length:Int):=by have:=(List.getElem?_eq_some_iff.1 hi).1;omega
 obtain ⟨ad,hA,hlt,q0,q1⟩:=reads_acc hr hi
 rw [hA] at a2
 have HB:=Lib.hid (Blk.new w 75 #[.int .i64 x.id,.int .u64 (x.key:Int)])
 have HS:=Lib.hid hs1
 have k1:(x.id != (i:Int)+1)=false:=by simp [hx.1]
 rw [hx.2] at c1
 rw [decide_eq_false hm] at hlk
 have hkI:(x.key:Int)≤18446744073709551615:=by omega
 have HK:=Lib.hid hk
 have HL:=Lib.hid hl
 clear h hr hs hs1 hi hA hlt hx hm hkI hk hl
 go_enter Tryz.func63,Tryz.ntmps63
 go_wp2_with (first
  | (go_at_call 86;refine (c1 _).mono ?_;clear c1;rintro e w1 ⟨rfl,x1⟩;have p1:=(ext_blk x1 HB.out).cell 1;have S1:=Lib.hid (SetU.ext HS.out x1))
  | (at_mapUpdate;refine wpList_mapUpdate_own _ rfl _ _ _ 104 rfl 22 4 keyU64 Tryz.underlying104 _ m _ _ rfl S1.out (by have:=HL.out;simp only [maxLen];omega) _ _ _ rfl rfl (keyOf_int_mk Tryz.underlying22 (wf_u64 HK.out)) tt [] (plainElem_bool Tryz.underlying4 true) ?_;intro w2 hown2 hg2;have O2:=Lib.hid (SetU.put_ hown2);have HG2:=Lib.hid hg2;clear hown2 hg2))
 go_ret
 exact ⟨rfl,O2.out,(grown_ext (((Ext.refl w).alloc _).trans x1) (some m)).trans HG2.out⟩
