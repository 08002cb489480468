/- Parts of the proofs, put together: HaTag, ShB, HaPair, HaRefB, Sh, SiMath, HaRefN, HaOfS, HaRefOf, HaRefS, HaRefT, Si, Si2, Si3. -/
import Derived.Maps.OwnSet
import Derived.Maps.OwnOps
import Derived.Maps.Views
import Derived.Deep.RegionWith
import Derived.BigRegion
import Derived.Deep.RegionHeld3
import Derived.Maps.Own
import Derived.IntWalk
import Derived.Test.YtbhdmfijdhcehaaGreatDoorP1
import Derived.Test.YtbhdmfijdhcehaaGreatDoorP4
import Derived.Test.YtbhdmfijdhcehaaGreatDoorP7
import Derived.Test.YtbhdmfijdhcehaaGreatDoorP8
import Derived.Test.YtbhdmfijdhcehaaGreatDoorP9
import Derived.Test.YtbhdmfijdhcehaaGreatDoorP11
import Derived.Test.YtbhdmfijdhcehaaGreatDoorP16
set_option maxRecDepth 100000
set_option maxHeartbeats 64000000
namespace Go.Proofs.YtbhdmfijdhcehaaGreatDoor
open Go.RowKit Go.Shelf
def coded (tag:List Nat) (parts:List (List Nat)):List Nat:=tag.length % 256 :: tag++parts.flatMap fun p=>be p.length 4++p
theorem coded_snoc (tag:List Nat) (ps:List (List Nat)) (p:List Nat):coded tag (ps++[p])=coded tag ps++be p.length 4++p:=by simp [coded,List.flatMap_append]
theorem coded_nil (tag:List Nat):coded tag []=tag.length % 256 :: tag:=by simp [coded]
theorem be_lt (n k:Nat):∀ x∈be n k,x<256:=by
 intro x hx
 simp only [be,beN,List.mem_map] at hx
 obtain ⟨_,_,rfl⟩:=hx
 exact Nat.mod_lt _ (by decide)
theorem coded_lt (tag:List Nat) (ht:∀ x∈tag,x<256) (ps:List (List Nat)) (hp:∀ p∈ps,∀ x∈p,x<256):∀ x∈coded tag ps,x<256:=by
 intro x hx
 simp only [coded,List.cons_append,List.mem_cons,List.mem_append,List.mem_flatMap] at hx
 rcases hx with rfl|hx|⟨p,hp',hx|hx⟩
 ·exact Nat.mod_lt _ (by decide)
 ·exact ht x hx
 ·exact be_lt _ _ x hx
 ·exact hp p hp' x hx
def Parts (w:World) (B:Nat) (A:Option Addr) (ps:List (List Nat)):Prop :=
 ∃ vs:List Value,Reads w B 1 A ps.length vs∧∀ (j:Nat) (p:List Nat),ps[j]?=some p→∃ a c,vs[j]?=some (Value.slice a p.length c)∧p.length≤c∧Reads w B 1 a p.length (bv p)
theorem Parts.keep {w w':World} {B:Nat} {A:Option Addr} {ps:List (List Nat)} (h:Parts w B A ps) (hk:∀ p:Addr,p.block<B→w'.cell? p=w.cell? p):Parts w' B A ps:=by
 obtain ⟨vs,h1,h2⟩:=h
 exact ⟨vs,h1.keep hk,fun j p hj=>by obtain ⟨a,c,e,hc,hr⟩:=h2 j p hj;exact ⟨a,c,e,hc,hr.keep hk⟩⟩
theorem Parts.below {w w':World} {B:Nat} {A:Option Addr} {ps:List (List Nat)} (h:Parts w B A ps) (hb:Below B w w'):Parts w' B A ps:=h.keep fun _ hp=>hb.cell hp
theorem Parts.at_ {w:World} {B:Nat} {A:Option Addr} {ps:List (List Nat)} (h:Parts w B A ps) {j:Nat} {p:List Nat} (hj:ps[j]?=some p) :
  ∃ ad a c,A=some ad∧w.cell? (ad.add j)=some (.slice a p.length c)∧p.length≤c∧Reads w B 1 a p.length (bv p):=by
 obtain ⟨vs,h1,h2⟩:=h
 obtain ⟨a,c,e,hc,hr⟩:=h2 j p hj
 obtain ⟨ad,u,ha,_,hu,hcell⟩:=h1.at_ (k:=j) (List.getElem?_eq_some_iff.1 hj).1
 rw [e] at hu
 cases hu
 exact ⟨ad,a,c,ha,hcell,hc,hr⟩
theorem own_slice {w:World} {base:Nat} {e:TypeId} {n:Nat} {v:Value} {xs:List Value} (h:w.ownsRow base e 1 v n xs):∃ A c,v=.slice A n c∧n≤c∧Reads w w.heap.size 1 A n xs:=by
 rcases h.2 with ⟨rfl,h0⟩|⟨g,cap,cur,rfl,_,_,hc⟩
 ·exact ⟨none,0,by rw [h0],by omega,Reads.of_own (c:=0) (by rw [h0] at h ⊢;exact h)⟩
 ·exact ⟨_,cap,rfl,hc.1,Reads.of_own h⟩
theorem own_new (w:World) (base g:Nat) (hg:g=w.heap.size) (hb:base≤g) (e:TypeId) (u:Value):(w.alloc (.cells #[u] e)).ownsRow base e 1 (.slice (some ⟨g,0,none⟩) 1 1) 1 [u]:=by
 subst hg
 exact ⟨rfl,.inr ⟨w.heap.size,1,#[u],rfl,hb,heap_alloc_new w _,Nat.le_refl _,by simp [maxLen],rfl,rfl⟩⟩
theorem coded_take_le (tag:List Nat) (ps:List (List Nat)) (j:Nat):(coded tag (ps.take j)).length≤(coded tag ps).length:=by
 have e:coded tag ps=coded tag (ps.take j)++(ps.drop j).flatMap fun p=>be p.length 4++p:=by
  unfold coded
  rw [List.append_assoc,← List.flatMap_append,List.take_append_drop]
 rw [e,List.length_append]
 omega
theorem Tagged_any (tag:ByteArray) (ps:List (List Nat)) (hps:∀ p∈ps,∀ x∈p,x<256) (A:Option Addr) (c:Nat) (w:World) (hr:Parts w w.heap.size A ps) (htot:(coded (strN tag) ps).length≤1099511627776) :
  Calls Tryz.prog 130 #[.string tag,.slice A ps.length c] w fun e w'=>e=.returned (.agg #[.int .u64 ((hSum (coded (strN tag) ps)).1:Int),.int .u64 ((hSum (coded (strN tag) ps)).2:Int)])∧Ext w w':=by
 obtain ⟨i0,hi,hz0,hz1,hz2⟩:=info_parts Tryz.infoU8
 have hall:=coded_lt (strN tag) (strN_lt tag) ps hps
 have htl:tag.size+1≤(coded (strN tag) ps).length:=by
  have:=coded_take_le (strN tag) ps 0
  rw [List.take_zero,coded_nil,List.length_cons,strN_length] at this
  exact this
 have hcc:=coded_take_le (strN tag) ps
 have hc0:coded (strN tag) []=tag.size % 256 :: strN tag:=by rw [coded_nil,strN_length]
 obtain ⟨tot,ht⟩:∃ tot,tot=(coded (strN tag) ps).length:=⟨_,rfl⟩
 rw [← ht] at htot htl hcc
 have hpl:ps.length≤tot:=by
  rw [ht,coded,List.length_append,List.length_flatMap]
  have:ps.length≤(ps.map fun p=>(be p.length 4++p).length).sum:=by
   clear ht hcc hc0 htl hall hr hps htot
   induction ps with
   | nil=>simp
   | cons p ps ih =>
    simp only [List.length_cons,List.map_cons,List.sum_cons]
    rw [List.length_append,be_length]
    omega
  omega
 have k1:IntKind.u8.wrap (tag.size:Int)=((tag.size % 256:Nat):Int):=by rw [IntKind.wrap_u8];omega
 obtain ⟨d,hd⟩:∃ d,d=tag.size % 256:=⟨_,rfl⟩
 rw [← hd] at k1 hc0
 have HD:=Lib.hid hd
 have HT:=Lib.hid ht
 have HC:=Lib.hid hcc
 have HA:=Lib.hid hall
 have HR:=Lib.hid hr
 clear hd ht hcc hall hr
 go_enter Tryz.func130,Tryz.ntmps130
 go_wp2_with (at_builtin;refine wpList_append_own_src _ rfl (.tmp 11) (.tmp 12) 30 9 rfl (w.heap.size+1) 5 i0 (.int .u8 0) 1 1 Tryz.underlying30 hi hz0 hz1 hz2 rfl (.slice (some ⟨w.heap.size+1,0,none⟩) 1 1) _ _ rfl (own_new (w.alloc (.cells #[.int .u64 0,.int .u64 0] 161)) (w.heap.size+1) (w.heap.size+1) (by simp) (Nat.le_refl _) 5 (.int .u8 (d:Int))) (.string tag) tag.size (byteCells tag) rfl (Src.ofString _ Tryz.underlying9 tag) (by simp only [maxLen];omega) (by omega) (by simp) (by simp) ?_;intro v1 w1 hown1 hg1 _)
 have hb1:Below (w.heap.size+1) (w.alloc (.cells #[.int .u64 0,.int .u64 0] 161)) w1:=((Below.refl _ _).alloc (by simp) _).grown hg1 (by simp) (fun k e=>by simp [Value.ownBlock] at e;omega)
 have hx1:Hid (Ext w w1):=Lib.hid (((Ext.refl w).alloc _).trans (Ext.of (by simpa using hb1)))
 have hbox:Hid (Blk w1 w.heap.size 161 #[.int .u64 0,.int .u64 0]):=Lib.hid ((Blk.new w _ _).below hb1 (Nat.lt_succ_self _))
 have hsz:w.heap.size+1≤w1.heap.size:=by have:=hb1.size;simp at this;omega
 have ho:Hid (w1.ownsRow (w.heap.size+1) 5 1 v1 (coded (strN tag) (ps.take 0)).length (bv (coded (strN tag) (ps.take 0)))):=by
  show World.ownsRow _ _ _ _ _ _ _
  rw [List.take_zero,hc0,List.length_cons,strN_length,Nat.add_comm tag.size 1]
  have e:bv (d :: strN tag)=[.int .u8 (d:Int)]++byteCells tag:=by rw [byteCells_strN];rfl
  rw [e]
  exact hown1
 clear hown1 hg1 hb1 hc0 k1
 go_loopg [5,16] ps.length (fun m s5 s16 wr=>∃ j:Nat,j+m=ps.length∧s16=.int .i64 j∧wr.ownsRow (w.heap.size+1) 5 1 s5 (coded (strN tag) (ps.take j)).length (bv (coded (strN tag) (ps.take j)))∧Ext w wr∧Blk wr w.heap.size 161 #[.int .u64 0,.int .u64 0]∧w.heap.size+1≤wr.heap.size)
 case atStart=>exact ⟨0,by omega,rfl,ho.out,hx1.out,hbox.out,hsz⟩
 case round =>
  obtain ⟨j,hj,rfl,hown,hx,hb,hs⟩:=hrel
  clear ho hx1 hbox hsz
  by_cases h:j<ps.length
  ·obtain ⟨p,hp⟩:∃ p,ps[j]?=some p:=⟨_,List.getElem?_eq_getElem h⟩
   obtain ⟨ad,a,c',rfl,hcell,hpc,hrp⟩:=(HR.out.below hx.out).at_ hp
   have hle:=HC.out (j+1)
   have ht1:ps.take (j+1)=ps.take j++[p]:=by rw [List.take_add_one,hp];rfl
   rw [ht1,coded_snoc] at hle
   simp only [List.length_append,be_length] at hle
   obtain ⟨l,hl⟩:∃ l,l=coded (strN tag) (ps.take j):=⟨_,rfl⟩
   rw [← hl] at hown hle
   have HN:Hid (coded (strN tag) (ps.take (j+1))=l++be p.length 4++p):=by show _=_;rw [ht1,coded_snoc,hl]
   have c1:=put_any (w.heap.size+1) u5 l p.length 4 (by decide) wr hown hs (by omega)
   have hpt:(p.length:Int)≤1099511627776:=by omega
   have HLE:=Lib.hid hle
   have HJ:=Lib.hid hj
   have HX:=Lib.hid hx
   have HB:=Lib.hid hb
   have HS:=Lib.hid hs
   clear hle hj hx hb hs ht1 hl hp htl
   go_wp2_with (first
    | (go_at_call 152;refine c1.mono ?_;clear c1;rintro e w2 ⟨v2,rfl,o2,b2⟩)
    | (at_builtin;refine wpList_append_any _ rfl (.tmp 24) (.tmp 25) 30 rfl (w.heap.size+1) 5 i0 (.int .u8 0) 1 1 Tryz.underlying30 hi hz0 hz1 hz2 rfl (by decide) v2 _ _ rfl o2 w.heap.size a p.length c' (bv p) rfl (hrp.below (b2.mono (Nat.le_succ _))) (bv_one p) (by have:=HLE.out;simp only [maxLen,List.length_append,be_length];omega) (by have:=HLE.out;simp only [List.length_append,be_length];omega) (by have:=HS.out;have:=b2.size;omega) ?_;intro v3 w3 hown3 hg3 _))
   have hb3:Below (w.heap.size+1) wr w3:=b2.grown hg3 (by have:=HS.out;have:=b2.size;omega) (own_ge o2)
   have O3:Hid (w3.ownsRow (w.heap.size+1) 5 1 v3 (coded (strN tag) (ps.take (j+1))).length (bv (coded (strN tag) (ps.take (j+1))))):=by
    show World.ownsRow _ _ _ _ _ _ _
    rw [HN.out,show (l++be p.length 4++p).length=(l++be p.length 4).length+p.length from List.length_append,show bv (l++be p.length 4++p)=bv (l++be p.length 4)++bv p from bv_append _ _]
    exact hown3
   have X3:Ext w w3:=Below.trans HX.out (hb3.mono (Nat.le_succ _))
   have B3:=HB.out.below hb3 (Nat.lt_succ_self _)
   have hj:=HJ.out
   have S3:w.heap.size+1≤w3.heap.size:=Nat.le_trans HS.out hb3.size
   clear hown3 hg3 hb3 o2 b2 hown
   go_roundg (gk-1)
   case measure=>omega
   case rel=>exact ⟨j+1,by omega,int_congr (by omega),O3.out,X3,B3,S3⟩
  ·obtain rfl:j=ps.length:=by omega
   rw [List.take_length] at hown
   obtain ⟨A',c',rfl,hc',hr'⟩:=own_slice hown
   have cS:=Sum_any (coded (strN tag) ps) HA.out (by rw [← HT.out];exact htot) A' c' hc' wr hr'
   have q0:=hb.cell 0
   have q1:=hb.cell 1
   have p0:=hb.frozen 0
   have p1:=hb.frozen 1
   simp at q0 q1
   obtain ⟨n,hn⟩:∃ n,n=(coded (strN tag) ps).length:=⟨_,rfl⟩
   obtain ⟨r1,hr1⟩:∃ r,r=(hSum (coded (strN tag) ps)).1:=⟨_,rfl⟩
   obtain ⟨r2,hr2⟩:∃ r,r=(hSum (coded (strN tag) ps)).2:=⟨_,rfl⟩
   rw [← hn,← hr1,← hr2] at cS
   rw [← hn]
   have HR1:=Lib.hid hr1
   have HR2:=Lib.hid hr2
   have HX:=Lib.hid hx
   have HB:=Lib.hid hb
   clear hn hr1 hr2 hown hr' hx hc' hj h
   go_wp2_with (go_at_call 153;refine cS.mono ?_;clear cS;rintro e w2 ⟨rfl,x2⟩;have q0:=(HB.out.below x2.out HB.out.lt).cell 0;have q1:=(HB.out.below x2.out HB.out.lt).cell 1;have p0:=(HB.out.below x2.out HB.out.lt).frozen 0;have p1:=(HB.out.below x2.out HB.out.lt).frozen 1;simp at q0 q1)
   refine bodyPost_ret (v:=.agg #[.int .u64 (r1:Int),.int .u64 (r2:Int)]) (by simp [results,Tryz.results130,go_sem,q0,q1]) rfl ⟨by rw [HR1.out,HR2.out],?_⟩
   exact ((HX.out.trans x2).setCell (p:=⟨w.heap.size,0,none⟩) (Nat.le_refl _) _).setCell (p:=⟨w.heap.size,1,none⟩) (Nat.le_refl _) _
end Go.Proofs.YtbhdmfijdhcehaaGreatDoor
namespace Go.Proofs.YtbhdmfijdhcehaaGreatDoor
open Go.RowKit Go.Shelf Go.Maps
set_option linter.unusedSimpArgs false
set_option linter.unusedVariables false
def iv (l:List Int):List Value:=l.map (Value.int .i64)
theorem iv_length (l:List Int):(iv l).length=l.length:=by simp [iv]
theorem iv_append (l m:List Int):iv (l++m)=iv l++iv m:=by simp [iv]
theorem iv_at {l:List Int} {k:Nat} {x:Int} (h:l[k]?=some x):(iv l)[k]?=some (.int .i64 x):=by simp [iv,h]
section
variable {w:World} {B n:Nat} {A:Option Addr}
theorem reads_id {l:List Int} (h:Reads w B 1 A n (iv l)) {k:Nat} {x:Int} (hk:l[k]?=some x):∃ ad,A=some ad∧w.cell? (ad.add k)=some (.int .i64 x):=by
 have hl:=(List.getElem?_eq_some_iff.1 hk).1
 have h1:=h.1
 rw [iv_length] at h1
 obtain ⟨ad,e,_,hc⟩:=h.2 (by omega)
 exact ⟨ad,e,hc _ _ (iv_at hk)⟩
end
section
variable {H:Type} {P:Program}
theorem plainElem_bool_inv {e:TypeId} (he:P.underlying e=some .bool) {v:Value} {z:DataW H × List MemPlace} (h:plainElem P e v=some z):∃ a,v=.bool a∧z=(.lit (.bool a),[]):=by
 unfold plainElem at h
 rw [he] at h
 cases v <;> simp at h
 exact ⟨_,rfl,h.symm⟩
def keys (l:List Int):List Lit:=l.map (Lit.int .i64)
theorem atKey_fold (u z:DataW H) (x:Int):∀ (l:List Int) (m:DataW H),IsMap m→m.atKey (.int .i64 x) z=(if x∈([]:List Int) then u else m.atKey (.int .i64 x) z) →
  ((keys l).foldl (fun m x=>m.put x u) m).atKey (.int .i64 x) z=if x∈l then u else m.atKey (.int .i64 x) z
 | [],m,_,h=>h
 | y :: l,m,hm,h=>by
  show ((keys l).foldl (fun m x=>m.put x u) (m.put (.int .i64 y) u)).atKey (.int .i64 x) z=_
  rw [atKey_fold u z x l _ (hm.put _ u) (by simp)]
  by_cases hx:x∈l
  ·rw [if_pos hx,if_pos (List.mem_cons_of_mem _ hx)]
  ·rw [if_neg hx]
   by_cases e:x=y
   ·subst e
    rw [atKey_put_same hm (by trivial) u z,if_pos List.mem_cons_self]
   ·rw [atKey_put_other (by simpa using e) u z,if_neg (by simp [e,hx])]
theorem atKey_set (u z:DataW H) (x:Int) (l:List Int):(setOf u (keys l)).atKey (.int .i64 x) z=if x∈l then u else z:=by
 have:=atKey_fold u z x l (.map []) isMap_empty (by simp)
 exact this
end
def tt:DataW Unit:=.lit (.bool true)
def SetIs (w:World) (b:Nat) (l:List Int):Prop:=w.ownsMap Tryz.prog 3 (plainElem (H:=Unit) Tryz.prog 4) b l.length (setOf tt (keys l))
theorem zeroB (w:World):(zeroValue 4).run Tryz.prog w=.ok (.bool false) w:=by kernel_rfl
theorem keyInt:Keyed Tryz.prog 3:=int_keyed Tryz.underlying3
theorem SetIs.look {w:World} {b:Nat} {l:List Int} (h:SetIs w b l) (x:Int) (hx:(Lit.int .i64 x).wf=true) :
  (Instr.lookup 105 (.map (some b)) (.int .i64 x) false).run Tryz.prog w=.ok (.bool (decide (x∈l))) w:=by
 obtain ⟨v,ps,hrun,hv⟩:=World.ownsMap.lookup h keyInt Tryz.underlying105 (zeroB w) (zd:=.lit (.bool false)) (zp:=[]) (plainElem_bool Tryz.underlying4 false) (keyOf_int_mk Tryz.underlying3 hx)
 obtain ⟨a,rfl,e⟩:=plainElem_bool_inv Tryz.underlying4 hv
 rw [hrun]
 rw [atKey_set] at e
 have:a=decide (x∈l):=by
  by_cases hm:x∈l
  ·rw [if_pos hm] at e
   simp [tt] at e
   simp [hm,← e.1]
  ·rw [if_neg hm] at e
   simp at e
   simp [hm,← e.1]
 rw [this]
theorem SetIs.put_ {w':World} {b:Nat} {l:List Int} {x:Int} (h:w'.ownsMap Tryz.prog 3 (plainElem (H:=Unit) Tryz.prog 4) b (l.length+1) ((setOf tt (keys l)).put (.int .i64 x) tt)):SetIs w' b (l++[x]):=by
 have e:setOf tt (keys (l++[x]))=(setOf tt (keys l)).put (.int .i64 x) tt:=by rw [← setOf_snoc];simp [keys]
 unfold SetIs
 rw [e,List.length_append]
 exact h
theorem SetIs.new (w:World):SetIs (w.alloc (.map #[] 0)) w.heap.size []:=World.ownsMap_made w Tryz.prog 3 _
end Go.Proofs.YtbhdmfijdhcehaaGreatDoor
namespace Go.Proofs.YtbhdmfijdhcehaaGreatDoor
open Go.RowKit Go.Shelf
theorem ext_blk {W W':World} {g:Nat} {T:TypeId} {cs:Array Value} (x:Ext W W') (h:Blk W g T cs):Blk W' g T cs:=h.below x.out h.lt
theorem arr2 {W:World} {g:Nat} {T:TypeId} {a b:Value} (h:Blk W g T #[a,b]):W.cell? ⟨g,0,none⟩=some a∧W.cell? ⟨g,1,none⟩=some b∧W.frozen? ⟨g,0,none⟩=false∧W.frozen? ⟨g,1,none⟩=false :=
 ⟨h.cell 0,h.cell 1,h.frozen 0,h.frozen 1⟩
end Go.Proofs.YtbhdmfijdhcehaaGreatDoor
namespace Go.Proofs.YtbhdmfijdhcehaaGreatDoor
open Go.RowKit Go.Shelf
set_option linter.unusedSimpArgs false
set_option linter.unusedVariables false
theorem Eight_any (n:Nat) (w:World) :
  Calls Tryz.prog 174 #[.int .u64 n] w fun e w'=>∃ v,e=.returned v∧w'.ownsRow w.heap.size 5 1 v 8 (bv (be n 8))∧Ext w w':=by
 obtain ⟨i0,hi,hz0,hz1,hz2⟩:=info_parts Tryz.infoU8
 go_enter Tryz.func174,Tryz.ntmps174
 go_wp2
 go_loopg [3,4] 8 (fun m s3 s4 wr=>∃ j:Nat,j+m=8∧s4=.int .i64 ((7:Int)-j)∧wr.ownsRow w.heap.size 5 1 s3 (beN n 8 j).length (bv (beN n 8 j))∧Below w.heap.size w wr)
 case atStart=>exact ⟨0,rfl,int_congr (by omega),World.ownsRow_nil _ _ _ _,Below.refl _ _⟩
 case round =>
  obtain ⟨j,hj,rfl,ho,hB⟩:=hrel
  by_cases h:j<8
  ·obtain ⟨i,hij⟩:∃ i:Nat,(7:Int)-j=i:=⟨7-j,by omega⟩
   rw [hij]
   have hi7:(i:Int)≤7:=by omega
   obtain ⟨q,hq⟩:∃ q,q=n / 2 ^ (8*i):=⟨_,rfl⟩
   have k1:(n:Int) / 2 ^ (8*i)=(q:Int):=by rw [hq];simp
   obtain ⟨r,hr⟩:∃ r,r=q % 256:=⟨_,rfl⟩
   have k2:IntKind.u8.wrap (q:Int)=(r:Int):=by rw [IntKind.wrap_u8,hr];omega
   have hrb:r=n / 2 ^ (8*(8-1-j)) % 256:=by rw [hr,hq];congr 4;omega
   have HR:=Lib.hid hrb
   have HJ:=Lib.hid hj
   have HI:=Lib.hid hij
   have hlen:(beN n 8 j).length≤8:=by rw [beN_length];omega
   have HLN:=Lib.hid hlen
   have HB:=Lib.hid hB
   clear hq hr hrb hj hij hlen hB
   go_wp2_with (at_builtin;refine wpList_append_own _ rfl (.tmp 9) (.tmp 16) 30 rfl w.heap.size 5 i0 (.int .u8 0) 1 1 Tryz.underlying30 hi hz0 hz1 hz2 rfl (by decide) _ _ _ rfl (ho.alloc _) ⟨wr.heap.size,0,none⟩ 1 1 [.int .u8 (r:Int)] rfl rfl (cell_one_new _ _ _) (by simp [Value.oneCell']) (by have:=HLN.out;simp only [maxLen];omega) (by have:=HLN.out;omega) (by have:=HB.out.size;simp;omega) ?_;intro v' w1 hown1 hg1 _)
   have B1:Hid (Below w.heap.size w w1):=Lib.hid ((HB.out.alloc HB.out.size _).grown hg1 (by have:=HB.out.size;simp;omega) (own_ge ho))
   have O1:Hid (w1.ownsRow w.heap.size 5 1 v' (beN n 8 (j+1)).length (bv (beN n 8 (j+1)))):=by
    show World.ownsRow _ _ _ _ _ _ _
    rw [beN_succ,List.length_append,bv_append,← HR.out]
    exact hown1
   clear hown1 hg1 ho
   have hij:=HI.out
   have hj:=HJ.out
   go_wp2
   go_roundg (gk-1)
   case measure=>omega
   case rel=>exact ⟨j+1,by omega,int_congr (by omega),O1.out,B1.out⟩
  ·obtain rfl:j=8:=by omega
   have O:=Lib.hid ho
   have HB:=Lib.hid hB
   clear ho hB hj hi hz0 hz1 hz2
   go_wp2
   go_ret
   exact ⟨_,rfl,O.out,HB.out⟩
def num8 (l:List Nat):Nat:=l.foldl (fun n b=>n*256+b) 0
theorem own_ext {w w':World} {base:Nat} {e:TypeId} {size n:Nat} {v:Value} {xs:List Value} (h:w.ownsRow base e size v n xs) (x:Ext w w'):w'.ownsRow base e size v n xs:=by
 refine ⟨h.1,?_⟩
 rcases h.2 with h0|⟨g,cap,cur,e1,hb,hg,hc⟩
 ·exact .inl h0
 ·exact .inr ⟨g,cap,cur,e1,hb,(x.out.block g (Array.getElem?_eq_some_iff.1 hg).1).trans hg,hc⟩
theorem own_base {w:World} {base base':Nat} {e:TypeId} {size n:Nat} {v:Value} {xs:List Value} (h:w.ownsRow base e size v n xs) (hb:base'≤base):w.ownsRow base' e size v n xs:=by
 refine ⟨h.1,?_⟩
 rcases h.2 with h0|⟨g,cap,cur,e1,hb',hg⟩
 ·exact .inl h0
 ·exact .inr ⟨g,cap,cur,e1,Nat.le_trans hb hb',hg⟩
end Go.Proofs.YtbhdmfijdhcehaaGreatDoor
namespace Go.Proofs.YtbhdmfijdhcehaaGreatDoor
open Go.RowKit Go.Shelf Go.Maps
set_option linter.unusedSimpArgs false
set_option linter.unusedVariables false
theorem own_empty (w:World) (base g:Nat) (hg:g=w.heap.size) (hb:base≤g) (e:TypeId) (size:Nat):(w.alloc (.cells #[] e)).ownsRow base e size (.slice (some ⟨g,0,none⟩) 0 0) 0 []:=by
 subst hg
 exact ⟨by simp,.inr ⟨w.heap.size,0,#[],rfl,hb,heap_alloc_new w _,Nat.le_refl _,by simp [maxLen],by simp,by simp⟩⟩
theorem cell_two_new (w:World) (x y:Value) (t:TypeId):∀ j u,[x,y][j]?=some u→(w.alloc (.cells #[x,y] t)).cell? ((⟨w.heap.size,0,none⟩:Addr).add j)=some u:=by
 intro j u hj
 match j,hj with
 | 0,hj=>simp at hj;subst hj;simp [Addr.add]
 | 1,hj=>simp at hj;subst hj;simp [Addr.add]
theorem own_slice2 {w:World} {base:Nat} {e:TypeId} {n size:Nat} {v:Value} {xs:List Value} (h:w.ownsRow base e size v n xs):∃ A c,v=.slice A n c∧n≤c∧Reads w w.heap.size size A n xs:=by
 rcases h.2 with ⟨rfl,h0⟩|⟨g,cap,cur,rfl,_,_,hc⟩
 ·exact ⟨none,0,by rw [h0],by omega,Reads.of_own (c:=0) (by rw [h0] at h ⊢;exact h)⟩
 ·exact ⟨_,cap,rfl,hc.1,Reads.of_own h⟩
theorem ext_grown {w W w2:World} {e:TypeId} {size n:Nat} {v:Value} {xs:List Value} (hx:Ext w W) (ho:W.ownsRow w.heap.size e size v n xs) (hg:W.grownBy w2 v.ownBlock):Ext w w2 :=
 Ext.of (hx.out.grown hg hx.size (own_ge ho))
end Go.Proofs.YtbhdmfijdhcehaaGreatDoor
namespace Go.Proofs.YtbhdmfijdhcehaaGreatDoor
set_option linter.unusedSimpArgs false
set_option linter.unusedVariables false
def secretS:ByteArray:={ data:=#[115,101,99,114,101,116] }
def nonceS:ByteArray:={ data:=#[110,111,110,99,101] }
def signS:ByteArray:={ data:=#[115,105,103,110] }
def hNum (tag:ByteArray) (ps:List (List Nat)) (m:Nat):Nat:=numM (hSum (coded (strN tag) ps)).1 (hSum (coded (strN tag) ps)).2 m
def someN (tag:ByteArray) (ps:List (List Nat)):Nat:=hNum tag ps (bR-1)+1
def chalN (commit pub:Nat) (msg:List Nat):Nat:=hNum signS [be commit 8,be pub 8,msg] bR
def secN (seed:List Nat):Nat:=someN secretS [seed]
def nonceN (s:Nat) (msg:List Nat):Nat:=someN nonceS [be s 8,msg]
def oddN (s:Nat):Bool:=decide (s=0) || decide (bR≤s)
def sgE (s:Nat) (msg:List Nat):Nat:=chalN (powM bQ 4 (nonceN s msg)) (powM bQ 4 s) msg
def sgS (s:Nat) (msg:List Nat):Nat:=addM bR (mulM bR (sgE s msg) s) (nonceN s msg)
def checkN (p:Nat) (msg:List Nat) (E S:Nat):Nat :=
 if inB p=false then 1 else if bR≤E∨bR≤S then 40 else if chalN (mulM bQ (powM bQ 4 S) (invM bQ (powM bQ p E))) p msg=E then 0 else 40
theorem numM_lt (a b:Nat) {m:Nat} (h:0<m):numM a b m<m:=by
 unfold numM;rw [if_neg (by omega)];exact Nat.mod_lt _ h
theorem hNum_lt (tag:ByteArray) (ps:List (List Nat)) {m:Nat} (h:0<m):hNum tag ps m<m:=numM_lt _ _ h
theorem someN_pos (tag:ByteArray) (ps:List (List Nat)):1≤someN tag ps:=Nat.le_add_left 1 _
theorem someN_lt (tag:ByteArray) (ps:List (List Nat)):someN tag ps<bR:=by
 have:=hNum_lt tag ps (m:=bR-1) (by decide)
 unfold someN bR at *;omega
theorem chalN_lt (commit pub:Nat) (msg:List Nat):chalN commit pub msg<bR:=hNum_lt _ _ (by decide)
theorem oddN_some (tag:ByteArray) (ps:List (List Nat)):oddN (someN tag ps)=false:=by
 have h1:=someN_pos tag ps
 have h2:=someN_lt tag ps
 unfold oddN;simp;omega
theorem inv_pow {p:Nat} (h:inB p=true) (E:Nat) (hE:E≤bR):invM bQ (powM bQ p E)=powM bQ p (bR-E):=by
 obtain ⟨h1,h2,h3⟩:=(inB_iff p).1 h
 have hne:powM bQ p E % bQ≠0:=inB_ne (inB_pow h E)
 have e:=inv_unique (b:=invM bQ (powM bQ p E)) (c:=powM bQ p (bR-E)) pr_Q hne (by rw [invM_mul pr_Q hne,powM_add,show E+(bR-E)=bR by omega,h3])
 rwa [Nat.mod_eq_of_lt (invM_lt (by decide) _),Nat.mod_eq_of_lt (powM_lt (by decide) _ _)] at e
theorem commit_back (s k c:Nat) (hc:c≤bR):mulM bQ (powM bQ 4 (addM bR (mulM bR c s) k)) (invM bQ (powM bQ (powM bQ 4 s) c))=powM bQ 4 k:=by
 rw [inv_pow (inB_base s) c hc]
 have e1:addM bR (mulM bR c s) k=(c*s+k) % bR:=by unfold addM mulM;rw [Nat.mod_add_mod]
 rw [e1,base_period,powM_pow,powM_add,← base_period]
 have e2:c*s+k+s*(bR-c)=k+bR*s:=by
  have:s*(bR-c)+c*s=bR*s:=by rw [Nat.mul_comm c s,← Nat.mul_add,Nat.sub_add_cancel hc,Nat.mul_comm]
  omega
 rw [e2,Nat.add_mul_mod_self_left,base_period]
theorem check_right (s k:Nat) (msg:List Nat) (c:Nat) (hc:c=chalN (powM bQ 4 k) (powM bQ 4 s) msg):checkN (powM bQ 4 s) msg c (addM bR (mulM bR c s) k)=0:=by
 have hlt:c<bR:=by rw [hc];exact chalN_lt _ _ _
 unfold checkN
 rw [if_neg (by rw [inB_base];decide),if_neg (by have:=addM_lt' (m:=bR) (by decide) (mulM bR c s) k;omega),commit_back s k c (by omega),if_pos hc.symm]
theorem check_sign (s:Nat) (msg:List Nat):checkN (powM bQ 4 s) msg (sgE s msg) (sgS s msg)=0:=check_right s _ msg _ rfl
theorem sgE_lt (s:Nat) (msg:List Nat):sgE s msg<bR:=chalN_lt _ _ _
theorem sgS_lt (s:Nat) (msg:List Nat):sgS s msg<bR:=addM_lt' (by decide) _ _
end Go.Proofs.YtbhdmfijdhcehaaGreatDoor
namespace Go.Proofs.YtbhdmfijdhcehaaGreatDoor
open Go.RowKit Go.Shelf
set_option linter.unusedSimpArgs false
set_option linter.unusedVariables false
theorem slice_h8 (A:Option Addr) (n c m:Nat) (hm:m≤c) (w:World):(Instr.slice 30 (.slice A n c) none (some (.int .i64 (m:Int))) none).run Tryz.prog w=.ok (sliced A 0 m c 1) w:=by
 rw [run_slice_h w 30 A n c Tryz.underlying30 .i64 (m:Int) (by omega) (by omega)]
 have:(sizeOf (Tryz.prog.elem 30)).run Tryz.prog w=.ok 1 w:=by kernel_rfl
 rw [this]
 rfl
theorem slice_l8 (A:Option Addr) (n c m:Nat) (hm:m≤n) (w:World):(Instr.slice 30 (.slice A n c) (some (.int .i64 (m:Int))) none none).run Tryz.prog w=.ok (sliced A m n c 1) w:=by
 rw [run_slice_l w 30 A n c Tryz.underlying30 .i64 (m:Int) (by omega) (by omega)]
 have:(sizeOf (Tryz.prog.elem 30)).run Tryz.prog w=.ok 1 w:=by kernel_rfl
 rw [this]
 rfl
def h0 (l:List Nat) (k:Nat):Nat:=num8 ((l.take 8).take k)
def h1 (l:List Nat) (k:Nat):Nat:=num8 (((l.drop 8).take 8).take (k-8))
theorem Reads.get {w:World} {B n:Nat} {A:Option Addr} {l:List Nat} (h:Reads w B 1 A n (bv l)) {k b:Nat} (hb:l[k]?=some b) (ad:Addr) (hA:A=some ad) (hn:0<n):w.cell? (ad.add k)=some (.int .u8 (b:Int)):=by
 obtain ⟨ad',e,_,hc⟩:=h.2 hn
 rw [hA] at e
 cases e
 exact hc k _ (by simp [bv,hb])
theorem unit_ok (i:Nat) (hi:i≤7):256 ^ i≤72057594037927936:=by
 have:256 ^ i≤256 ^ 7:=Nat.pow_le_pow_right (by decide) hi
 have e:(256:Nat) ^ 7=72057594037927936:=by decide
 omega
theorem ck_lt (l:List Nat) (h:∀ x∈l,x<256) (j i:Nat):le ((ck l j).take i)<256 ^ ((ck l j).take i).length :=
 le_lt _ (fun y hy=>h y (List.mem_of_mem_drop (List.mem_of_mem_take (List.mem_of_mem_take hy))))
theorem ck_step (l:List Nat) (h:∀ x∈l,x<256) (j i b:Nat) (hb:l[7*j+i]?=some b) (hi:i<cLen l.length j) :
  le ((ck l j).take (i+1))=le ((ck l j).take i)+256 ^ i*b∧le ((ck l j).take i)<256 ^ i∧i<7:=by
 have h7:i<7:=by unfold cLen at hi;omega
 have e1:=ck_get l j i hi
 rw [hb] at e1
 have el:((ck l j).take i).length=i:=by rw [List.length_take,ck_length];omega
 have h2:=ck_lt l h j i
 rw [el] at h2
 refine ⟨?_,h2,h7⟩
 rw [List.take_add_one,e1]
 show le (_++[b])=_
 rw [le_snoc,el,Nat.mul_comm]
theorem fOf_snoc (l:List Nat) (j:Nat):(List.range (j+1)).map (fun j=>le (ck l j))=(List.range j).map (fun j=>le (ck l j))++[le (ck l j)]:=by simp [List.range_succ]
theorem step_num (n u b:Nat) (hn:n<u) (hu:256*u≤72057594037927936) (hb:b<256) :
  IntKind.u64.wrap ((n:Int)+IntKind.u64.wrap ((u:Int)*(b:Int)))=((n+u*b:Nat):Int)∧IntKind.u64.wrap ((u:Int)*256)=((u*256:Nat):Int):=by
 have h1:u*b≤u*255:=Nat.mul_le_mul_left _ (by omega)
 have e:(u:Int)*(b:Int)=((u*b:Nat):Int):=by simp
 refine ⟨?_,by rw [IntKind.wrap_u64];omega⟩
 rw [e]
 generalize u*b=t at *
 rw [IntKind.wrap_u64,IntKind.wrap_u64];omega
theorem rfOf_any (l:List Nat) (hl:∀ x∈l,x<256) (hm:l.length≤1099511627776) (A:Option Addr) (c:Nat) (hmc:l.length≤c) (w:World) (hr:Reads w w.heap.size 1 A l.length (bv l)) :
  Calls Tryz.prog 171 #[.slice A l.length c] w fun e w'=>∃ v,e=.returned v∧w'.ownsRow w.heap.size 22 1 v (fOf l).length (uv (fOf l))∧Below w.heap.size w w':=by
 obtain ⟨i0,hi,hz0,hz1,hz2⟩:=info_parts Tryz.infoU64
 obtain ⟨m,hml⟩:∃ m,m=l.length:=⟨_,rfl⟩
 rw [← hml] at hm hmc ⊢
 obtain ⟨ad,had⟩:∃ ad,0<m→A=some ad:=by
  rcases A with _|ad
  ·exact ⟨⟨0,0,none⟩,fun h=>by obtain ⟨_,h,_⟩:=hr.2 (by omega);cases h⟩
  ·exact ⟨ad,fun _=>rfl⟩
 have HR:Hid (∀ (W:World) (k b:Nat),Below w.heap.size w W→l[k]?=some b→A=some ad∧W.cell? (ad.add k)=some (.int .u8 (b:Int))):=Lib.hid (fun W k b hx hb=>by
  have hk:k<l.length:=(List.getElem?_eq_some_iff.1 hb).1
  have e:=had (by omega)
  exact ⟨e,Reads.get (hr.below hx) hb ad e (by omega)⟩)
 have hmi:(m:Int)≤1099511627776:=by omega
 have HM:=Lib.hid hml
 have HL:=Lib.hid hl
 clear hr hml hl had
 go_enter Tryz.func171,Tryz.ntmps171
 go_wp2
 go_loopg [3,4] (cnt m) (fun g s3 s4 wr=>∃ j:Nat,j+g=cnt m∧s4=.int .i64 ((7*j:Nat):Int)∧wr.ownsRow w.heap.size 22 1 s3 j (uv ((List.range j).map fun j=>le (ck l j)))∧Below w.heap.size w wr)
 case atStart=>exact ⟨0,by omega,rfl,World.ownsRow_nil _ _ _ _,Below.refl _ _⟩
 case round =>
  obtain ⟨j,hj,rfl,hown,hB⟩:=hrel
  by_cases hlt:7*j<m
  ·obtain ⟨q,hq⟩:∃ q,q=7*j:=⟨_,rfl⟩
   rw [← hq] at hlt ⊢
   have HQ:=Lib.hid hq
   have HJ:=Lib.hid hj
   have z1:(q:Int)<m:=by omega
   obtain ⟨wo,hwo⟩:∃ wo:World,wo=wr:=⟨_,rfl⟩
   rw [← hwo] at hown hB ⊢
   have HB:=Lib.hid hB
   obtain ⟨G,hG⟩:∃ G,G=gk-1:=⟨_,rfl⟩
   have HG:=Lib.hid hG
   clear hwo hq hj hB hG
   go_wp2
   go_loopg [5,6,7] 8 (fun g s5 s6 s7 w2=>∃ i:Nat,i+g=8∧i≤cLen m j∧s5=.int .u64 ((le ((ck l j).take i):Nat):Int)∧s6=.int .u64 ((256 ^ i:Nat):Int)∧s7=.int .i64 ((q+i:Nat):Int)∧w2=wo)
   case atStart=>exact ⟨0,rfl,Nat.zero_le _,by simp [le],by simp,by simp,rfl⟩
   case round =>
    obtain ⟨i,hi8,hin,rfl,rfl,rfl,rfl⟩:=hrel
    by_cases h:i<cLen m j
    ·have hcl:=h
     have hqi:q+i<m:=by have:=HQ.out;unfold cLen at hcl;omega
     obtain ⟨b,hb⟩:∃ b,l[q+i]?=some b:=⟨_,List.getElem?_eq_getElem (by rw [← HM.out];exact hqi)⟩
     obtain ⟨hA,hcell⟩:=HR.out _ (q+i) b HB.out hb
     have hb256:b<256:=HL.out b (List.mem_of_getElem? hb)
     obtain ⟨e1,e2,h7⟩:=ck_step l HL.out j i b (by rw [← HQ.out];exact hb) (by rw [← HM.out];exact h)
     have hu:256*256 ^ i≤72057594037927936:=by have:=unit_ok (i+1) (by omega);rw [Nat.pow_succ] at this;omega
     obtain ⟨k1,k2⟩:=step_num _ _ b e2 hu hb256
     rw [← e1] at k1
     rw [show 256 ^ i*256=256 ^ (i+1) from (Nat.pow_succ ..).symm] at k2
     obtain ⟨x,hx⟩:∃ x,x=le ((ck l j).take i):=⟨_,rfl⟩
     obtain ⟨y,hy⟩:∃ y,y=le ((ck l j).take (i+1)):=⟨_,rfl⟩
     obtain ⟨u,hu'⟩:∃ u,u=256 ^ i:=⟨_,rfl⟩
     obtain ⟨u2,hu2⟩:∃ u,u=256 ^ (i+1):=⟨_,rfl⟩
     obtain ⟨p,hp⟩:∃ p,p=q+i:=⟨_,rfl⟩
     rw [← hx,← hu',← hy] at k1
     rw [← hu',← hu2] at k2
     rw [← hp] at hcell hqi
     rw [← hx,← hu',← hp]
     have z2:(p:Int)<m:=by omega
     have z3:(p:Int)<(q:Int)+7:=by omega
     have HY:=Lib.hid hy
     have HU:=Lib.hid hu2
     have HP:=Lib.hid hp
     have H8:=Lib.hid hi8
     have HC:=Lib.hid hcl
     have K1:=Lib.hid k1
     have K2:=Lib.hid k2
     have zb:(b:Int)<256:=by omega
     subst hA
     clear hx hy hu' hu2 hp e1 e2 hu hb hb256 hqi hlt hi8 hcl h hin k1 k2
     go_wp2
     have hi8:=H8.out
     have hcl:=HC.out
     have hp:=HP.out
     go_roundg (gk-1)
     case measure=>omega
     case rel=>exact ⟨i+1,by omega,by omega,by rw [K1.out,HY.out],by rw [K2.out,HU.out],int_congr (by omega),rfl⟩
    ·obtain rfl:i=cLen m j:=by omega
     have e1:(ck l j).take (cLen m j)=ck l j:=List.take_of_length_le (by rw [ck_length,← HM.out];exact Nat.le_refl _)
     rw [e1]
     have hfs:=fOf_snoc l j
     obtain ⟨x,hx⟩:∃ x,x=le (ck l j):=⟨_,rfl⟩
     obtain ⟨p,hp⟩:∃ p,p=q+cLen m j:=⟨_,rfl⟩
     rw [← hx] at hfs ⊢
     rw [← hp]
     have hx':p≤m∧(p<m→¬ p<q+7):=by have:=HQ.out;unfold cLen at hp;omega
     obtain ⟨hpm,hp7⟩:=hx'
     have z5:(p:Int)≤m:=by omega
     have HF:=Lib.hid hfs
     have hjm:j+1≤cnt m∧cnt m≤1099511627776:=by have:=HQ.out;unfold cnt;omega
     obtain ⟨hjc,hcm⟩:=hjm
     have HJC:=Lib.hid hjc
     have HCM:=Lib.hid hcm
     have HO:=hown
     generalize (256 ^ cLen m j:Nat)=u at *
     clear hx hfs hp e1 hi8 hin h hlt hjc hcm hown hm hmc
     have q1:∀ u∈[Value.int .u64 (x:Int)],u.oneCell'=true:=by simp [Value.oneCell']
     by_cases hpl:p<m
     all_goals (
      have hd:decide ((p:Int)<(m:Int))=decide (p<m):=by simp
      first
       | (have z6:(p:Int)<m:=by omega)
       | (have z6:¬ (p:Int)<m:=by omega)
      try (have z7:¬ (p:Int)<(q:Int)+7:=by have:=hp7 hpl;omega)
      clear hd hp7 hpl hpm
      go_wp2_with (at_builtin;refine wpList_append_own _ rfl (.tmp 38) (.tmp 40) 88 rfl w.heap.size 22 i0 (.int .u64 0) 1 8 Tryz.underlying88 hi hz0 hz1 hz2 rfl (by decide) _ _ _ rfl (HO.alloc _) ⟨_,0,none⟩ 1 1 [.int .u64 (x:Int)] rfl rfl (cell_one_new _ _ _) q1 (by have:=HJC.out;have:=HCM.out;unfold maxLen;omega) (by have:=HJC.out;have:=HCM.out;omega) (by have:=HB.out.size;simp;omega) ?_;intro v' w1 hown1 hg1 _)
      have B1:Hid (Below w.heap.size w w1):=Lib.hid ((HB.out.alloc HB.out.size _).grown hg1 (by have:=HB.out.size;simp;omega) (own_ge HO))
      have O1:Hid (w1.ownsRow w.heap.size 22 1 v' (j+1) (uv ((List.range (j+1)).map fun j=>le (ck l j)))):=by
       show World.ownsRow _ _ _ _ _ _ _
       rw [HF.out,uv_append];exact hown1
      clear hown1 hg1 HO
      go_roundg G
      case measure=>have:=HG.out;have:=HJ.out;have:=HJC.out;omega
      case rel=>exact ⟨j+1,by have:=HG.out;have:=HJ.out;have:=HJC.out;omega,int_congr (by have:=HQ.out;omega),O1.out,B1.out⟩)
  ·obtain rfl:j=cnt m:=by unfold cnt at hj ⊢;omega
   have HO:Hid (wr.ownsRow w.heap.size 22 1 u3 (fOf l).length (uv (fOf l))):=by
    show World.ownsRow _ _ _ _ _ _ _
    unfold fOf;rw [← HM.out,List.length_map,List.length_range];exact hown
   have HB:=Lib.hid hB
   obtain ⟨q,hq⟩:∃ q,q=7*cnt m:=⟨_,rfl⟩
   rw [← hq] at hlt ⊢
   have z1:¬ (q:Int)<m:=by omega
   clear hq hlt hown hB hj
   go_wp2
   go_ret
   exact ⟨_,rfl,HO.out,HB.out⟩
attribute [local irreducible] mix
def Row (W:World) (B:Nat) (A:Option Addr) (c:Nat) (l:List Nat):Prop :=
 l.length≤c∧(0<l.length→∃ g cs,A=some ⟨g,0,none⟩∧g≠B∧Blk W g 22 cs∧∀ (j x:Nat),l[j]?=some x→cs[j]?=some (.int .u64 (x:Int)))
theorem Row.keep {W W':World} {B:Nat} {A:Option Addr} {c:Nat} {l:List Nat} (h:Row W B A c l) (hk:∀ g cs,g≠B→Blk W g 22 cs→Blk W' g 22 cs):Row W' B A c l :=
 ⟨h.1,fun hp=>by obtain ⟨g,cs,e,hb,hB,hc⟩:=h.2 hp;exact ⟨g,cs,e,hb,hk g cs hb hB,hc⟩⟩
theorem Row.of_own {W:World} {B:Nat} {v:Value} {l:List Nat} (h:W.ownsRow B 22 1 v l.length (uv l)):∃ A c,v=.slice A l.length c∧∀ o,Row (W.alloc o) W.heap.size A c l:=by
 rcases h.2 with ⟨rfl,h0⟩|⟨g,cap,cur,rfl,hb,hh,hc⟩
 ·exact ⟨none,0,by rw [h0],fun o=>⟨by omega,fun h=>by omega⟩⟩
 ·refine ⟨_,cap,rfl,fun o=>⟨hc.1,fun _=>⟨g,cur,rfl,by have:=Blk.lt hh;omega,Blk.alloc hh o,fun j x hj=>?_⟩⟩⟩
  have hj':(uv l)[j]?=some (.int .u64 (x:Int)):=by simp [uv,hj]
  rw [← hc.2.2.2,List.getElem?_take] at hj'
  split at hj'
  ·rw [← Array.getElem?_toList];exact hj'
  ·cases hj'
theorem Row.set {W:World} {B:Nat} {A:Option Addr} {c:Nat} {l:List Nat} (h:Row W B A c l) {p:Addr} (hp:p.block=B) (u:Value):Row (W.setCell p u) B A c l :=
 h.keep fun _ _ hb hB=>hB.far (by rw [hp];exact hb) u
theorem Row.ext {W W':World} {B:Nat} {A:Option Addr} {c:Nat} {l:List Nat} (h:Row W B A c l) (he:Ext W W'):Row W' B A c l :=
 h.keep fun _ _ _ hB=>hB.below he.out hB.lt
theorem Row.ptr {W:World} {B:Nat} {A:Option Addr} {c:Nat} {l:List Nat} (h:Row W B A c l) (hp:0<l.length):∃ g,A=some ⟨g,0,none⟩∧g≠B:=by
 obtain ⟨g,cs,e,hb,_⟩:=h.2 hp
 exact ⟨g,e,hb⟩
theorem Row.at_ {W:World} {B g c:Nat} {l:List Nat} (h:Row W B (some ⟨g,0,none⟩) c l) {j x:Nat} (hj:l[j]?=some x):W.cell? ⟨g,j,none⟩=some (.int .u64 (x:Int)):=by
 obtain ⟨g',cs,e,hb,hB,hc⟩:=h.2 (by have:=(List.getElem?_eq_some_iff.1 hj).1;omega)
 cases e
 rw [hB.cell]
 exact hc j x hj
structure Spo (w W:World) (rb sb:Nat) (s:Nat × Nat × Nat) (A:Option Addr) (c:Nat) (L:List Nat):Prop where
 res:Blk W rb 161 #[.int .u64 0,.int .u64 0]
 sp:Blk W sb 187 (val3 s)
 row:Row W sb A c L
 ext:Ext w W
section
variable {w W W':World} {rb sb c:Nat} {s m:Nat × Nat × Nat} {A:Option Addr} {L:List Nat}
theorem Spo.set (h:Spo w W rb sb s A c L) (hrs:rb≠sb) (hws:w.heap.size≤sb) (k:Nat) (u:Value) (s':Nat × Nat × Nat) (e:(val3 s).setIfInBounds k u=val3 s'):Spo w (W.setCell ⟨sb,k,none⟩ u) rb sb s' A c L :=
 ⟨h.res.far hrs u,by have:=h.sp.set_ k u;rw [e] at this;exact this,h.row.set (p:=⟨sb,k,none⟩) rfl u,h.ext.setCell hws u⟩
theorem Spo.draw1 (h:Spo w W rb sb s A c L):Spo w W.drew rb sb s A c L:=⟨h.res,h.sp,h.row,h.ext.drew⟩
theorem Spo.next (h:Spo w W rb sb s A c L) (x:Ext W W'):Spo w W' rb sb s A c L:=⟨ext_blk x h.res,ext_blk x h.sp,h.row.ext x,h.ext.trans x⟩
theorem Spo.mixed (h:Spo w W rb sb s A c L) (hrs:rb≠sb) (hws:w.heap.size≤sb) :
  Spo w (((W.setCell ⟨sb,0,none⟩ (.int .u64 (m.1:Int))).setCell ⟨sb,1,none⟩ (.int .u64 (m.2.1:Int))).setCell ⟨sb,2,none⟩ (.int .u64 (m.2.2:Int))) rb sb m A c L :=
 ((h.set hrs hws 0 _ (m.1,s.2.1,s.2.2) rfl).set hrs hws 1 _ (m.1,m.2.1,s.2.2) rfl).set hrs hws 2 _ m rfl
theorem Spo.facts (h:Spo w W rb sb s A c L):W.cell? ⟨sb,0,none⟩=some (.int .u64 (s.1:Int))∧W.cell? ⟨sb,1,none⟩=some (.int .u64 (s.2.1:Int))∧W.cell? ⟨sb,2,none⟩=some (.int .u64 (s.2.2:Int)) ∧
  W.frozen? ⟨sb,0,none⟩=false∧W.frozen? ⟨sb,1,none⟩=false∧W.frozen? ⟨sb,2,none⟩=false:=arr_facts h.sp
end
theorem rSum_any (b:List Nat) (hl:∀ x∈b,x<256) (hm:b.length≤1099511627776) (A:Option Addr) (c:Nat) (hmc:b.length≤c) (w:World) (hr:Reads w w.heap.size 1 A b.length (bv b)) :
  Calls Tryz.prog 157 #[.slice A b.length c] w fun e w'=>e=.returned (.agg #[.int .u64 ((hSum b).1:Int),.int .u64 ((hSum b).2:Int)])∧Ext w w':=by
 have hm1:(b.length:Int)≤1099511627776:=by omega
 go_enter Tryz.func157,Tryz.ntmps157
 have cOf:=rfOf_any b hl hm A c hmc (w.alloc (.cells #[.int .u64 0,.int .u64 0] 161)) ((hr.alloc (Nat.le_refl _) _).more (by simp))
 obtain ⟨s,hs⟩:∃ s,s=(0,0,b.length):=⟨_,rfl⟩
 obtain ⟨T,hT⟩:∃ T,T=soakE true s (fOf b):=⟨_,rfl⟩
 have hTT:Hid (hSum b=(T.1,T.2.1)):=by show _=_;rw [hT,hs];rfl
 obtain ⟨L,hL⟩:∃ L,L=fOf b:=⟨_,rfl⟩
 have hL1:L.length≤1099511627776:=by rw [hL];unfold fOf;simp [cnt];omega
 have HV:Hid (val3 s=#[.int .u64 0,.int .u64 0,.int .u64 (b.length:Int)]):=by show _=_;rw [hs];rfl
 rw [← hL] at cOf hT
 have HT:=Lib.hid hT
 clear hT hL hs hr hl
 go_wp2_with (go_at_call 171;refine cOf.mono ?_;clear cOf;rintro e W2 ⟨v,rfl,ho,hb⟩;obtain ⟨A2,c2,rfl,hrow⟩:=Row.of_own ho;clear ho)
 have hz:w.heap.size<W2.heap.size:=by have:=hb.size;simp at this;omega
 obtain ⟨W3,e3,SP⟩:∃ W3,W2.alloc (.cells #[.int .u64 0,.int .u64 0,.int .u64 (b.length:Int)] 187)=W3∧Spo w W3 w.heap.size W2.heap.size s A2 c2 L:=by
  refine ⟨_,rfl,?_,?_,?_,?_⟩
  ·exact ((Blk.new w _ _).below hb (by simp)).alloc _
  ·rw [HV.out];exact Blk.new _ _ _
  ·exact hrow _
  ·exact ((((Ext.refl w).alloc _).trans (Ext.of hb))).alloc _
 rw [e3]
 obtain ⟨sb,hsb⟩:∃ sb,sb=W2.heap.size:=⟨_,rfl⟩
 obtain ⟨rb,hrb⟩:∃ rb,rb=w.heap.size:=⟨_,rfl⟩
 have hrs:rb≠sb:=by omega
 have hws:w.heap.size≤sb:=by omega
 have hwr:w.heap.size≤rb:=by omega
 rw [← hrb,← hsb] at SP
 rw [← hrb,← hsb]
 clear hrow hb e3 hsb hrb hz HV
 obtain ⟨n,hn⟩:∃ n,n=L.length:=⟨_,rfl⟩
 have hni:(n:Int)≤1099511627776:=by omega
 rw [← hn]
 have HN:=Lib.hid hn
 have HTT:=hTT
 clear hn hL1 hTT
 go_loopg [5] (n+2) (fun g s5 wr=>∃ (i:Nat) (s:Nat × Nat × Nat),s5=.int .i64 i∧i+g=n+2∧T=soakE (decide (i=0)) s (L.drop i)∧Spo w wr rb sb s A2 c2 L)
 case atStart=>exact ⟨0,s,rfl,by omega,HT.out,SP⟩
 case round =>
  obtain ⟨i,s,rfl,hi,hT,hsp⟩:=hrel
  clear SP HT
  obtain ⟨s0,s1,s2,f0,f1,f2⟩:=hsp.facts
  have HS:=Lib.hid hsp
  have HI:=Lib.hid hi
  have c2n:(n:Int)≤c2:=by have:=hsp.row.1;rw [← HN.out] at this;omega
  by_cases hin:i<n
  ·obtain ⟨x,hx⟩:∃ x,L[i]?=some x:=⟨_,List.getElem?_eq_getElem (by rw [← HN.out];exact hin)⟩
   obtain ⟨g,rfl,hgs⟩:=hsp.row.ptr (by rw [← HN.out];omega)
   have hcx:=hsp.row.at_ hx
   have hd:L.drop i=x :: L.drop (i+1):=by rw [List.drop_eq_getElem_cons (by rw [← HN.out];exact hin)];congr 1;rw [List.getElem?_eq_some_iff] at hx;exact hx.2
   rw [hd,soakE_cons] at hT
   have z1:(i:Int)<n:=by omega
   have cA:=fun W=>r1Add_any s.1 x W
   obtain ⟨p,hp⟩:∃ p,p=addM bP s.1 x:=⟨_,rfl⟩
   rw [← hp] at cA
   by_cases hin1:i+1<n
   ·obtain ⟨y,hy⟩:∃ y,L[i+1]?=some y:=⟨_,List.getElem?_eq_getElem (by rw [← HN.out];exact hin1)⟩
    have hcy:=hsp.row.at_ hy
    have hd1:L.drop (i+1)=y :: L.drop (i+2):=by rw [List.drop_eq_getElem_cons (by rw [← HN.out];exact hin1)];congr 1;rw [List.getElem?_eq_some_iff] at hy;exact hy.2
    have cB:=fun W=>r1Add_any s.2.1 y W
    obtain ⟨q,hq⟩:∃ q,q=addM bP s.2.1 y:=⟨_,rfl⟩
    rw [← hq] at cB
    rw [hd1,soak_two,← hp,← hq] at hT
    obtain ⟨m,hm⟩:∃ m,m=mix (p,q,s.2.2):=⟨_,rfl⟩
    have mx:=fun W=>rmix_any (p,q,s.2.2) W
    rw [← hm] at hT mx
    unfold val3 at mx
    have HT:Hid (T=soakE (decide (i+2=0)) m (L.drop (i+2))):=by show _=_;rw [hT,show decide (i+2=0)=false by simp,soakE_false]
    have z2:(i:Int)+1<n:=by omega
    have hp1:=hsp.set hrs hws 0 (.int .u64 (p:Int)) (p,s.2.1,s.2.2) rfl
    obtain ⟨-,t1,t2,-,g1,g2⟩:=hp1.facts
    have hcy':=hp1.row.at_ hy
    obtain ⟨W4,e4⟩:∃ W4,(wr.setCell ⟨sb,0,none⟩ (.int .u64 (p:Int))).drew=W4:=⟨_,rfl⟩
    have hp1':=hp1.draw1
    rw [e4] at hp1'
    obtain ⟨v0,v1,v2,k0,k1,k2⟩:=hp1'.facts
    have hcy2:=hp1'.row.at_ hy
    have hp2:=(hp1'.set hrs hws 1 (.int .u64 (q:Int)) (p,q,s.2.2) rfl).draw1
    have HP2:=Lib.hid hp2
    clear hT hm hp hq hd hd1 hsp hx hy hi hin hin1 hcy s1 s2 f1 f2 t1 t2 g1 g2 hcy' hp1 hp1' hp2
    go_wp2
    go_region_with ((go_at_call 172;refine (cA _).mono ?_;clear cA;rintro e w' ⟨rfl,rfl⟩))
    all_goals (
     clear e4 s0 f0 hcx
     go_wp2
     have y1:IntKind.i64.wrap ((i:Int)+1)=(i:Int)+1:=IntWalk.i64_in _ (by omega)
     have y2:0≤(i:Int)+1:=by omega
     have y3:((i:Int)+1).toNat=i+1:=by omega
     go_region_with ((go_at_call 172;refine (cB _).mono ?_;clear cB;rintro e w' ⟨rfl,rfl⟩)))
    all_goals (
     obtain ⟨W5,e5⟩:∃ W5,(W4.setCell ⟨sb,1,none⟩ (.int .u64 (q:Int))).drew=W5:=⟨_,rfl⟩
     rw [e5] at HP2
     rw [e5]
     obtain ⟨s0,s1,s2,f0,f1,f2⟩:=HP2.out.facts
     clear e5 v0 v1 v2 k0 k1 k2 hcy2 y1 y2 y3
     go_wp2_with (go_at_call 173;refine (mx _).mono ?_;clear mx;rintro e W6 ⟨rfl,hx6⟩;obtain ⟨s0,s1,s2,f0,f1,f2⟩:=(HP2.out.next hx6).facts)
     have hi:=HI.out
     go_roundg (gk-2)
     case measure=>omega
     case rel=>exact ⟨i+2,m,int_congr (by omega),by omega,HT.out,(HP2.out.next hx6).mixed hrs hws⟩)
   ·have hL1:L.drop (i+1)=[]:=List.drop_eq_nil_of_le (by rw [← HN.out];omega)
    rw [hL1,soak_one,← hp] at hT
    obtain ⟨m,hm⟩:∃ m,m=mix (p,s.2.1,s.2.2):=⟨_,rfl⟩
    have mx:=fun W=>rmix_any (p,s.2.1,s.2.2) W
    rw [← hm] at hT mx
    unfold val3 at mx
    have HT:Hid (T=soakE (decide (i+2=0)) m (L.drop (i+2))):=by show _=_;rw [hT,show decide (i+2=0)=false by simp,soakE_false,List.drop_eq_nil_of_le (by rw [← HN.out];omega)];rfl
    have hi1:i+1=n:=by omega
    have z2:¬ (i:Int)+1<n:=by omega
    have HI1:=Lib.hid hi1
    have hp1:=(hsp.set hrs hws 0 (.int .u64 (p:Int)) (p,s.2.1,s.2.2) rfl).draw1
    have HP2:=Lib.hid hp1
    clear hT hm hp hd hsp hL1 hx hi hin hin1 hi1 f1 f2 hp1
    go_wp2
    go_region_with ((go_at_call 172;refine (cA _).mono ?_;clear cA;rintro e w' ⟨rfl,rfl⟩))
    all_goals (
     obtain ⟨W5,e5⟩:∃ W5,(wr.setCell ⟨sb,0,none⟩ (.int .u64 (p:Int))).drew=W5:=⟨_,rfl⟩
     rw [e5] at HP2
     rw [e5]
     obtain ⟨s0,s1,s2,f0,f1,f2⟩:=HP2.out.facts
     clear e5
     go_wp2_with (go_at_call 173;refine (mx _).mono ?_;clear mx;rintro e W6 ⟨rfl,hx6⟩;obtain ⟨s0,s1,s2,f0,f1,f2⟩:=(HP2.out.next hx6).facts)
     have hi:=HI.out
     have hi1:=HI1.out
     go_roundg (gk-2)
     case measure=>omega
     case rel=>exact ⟨i+2,m,int_congr (by omega),by omega,HT.out,(HP2.out.next hx6).mixed hrs hws⟩)
  ·have hd:L.drop i=[]:=List.drop_eq_nil_of_le (by rw [← HN.out];omega)
   rw [hd] at hT
   have z1:¬ (i:Int)<n:=by omega
   by_cases h0:i=0
   ·subst h0
    have hT':T=mix s:=by rw [hT];rfl
    obtain ⟨m,hm⟩:∃ m,m=mix s:=⟨_,rfl⟩
    have mx:=fun W=>rmix_any s W
    rw [← hm] at hT' mx
    unfold val3 at mx
    have HT:Hid (T=soakE (decide (0+2=0)) m (L.drop (0+2))):=by show _=_;rw [hT',show decide (0+2=0)=false by decide,soakE_false,List.drop_eq_nil_of_le (by rw [← HN.out];omega)];rfl
    obtain rfl:n=0:=by omega
    clear hT hT' hm hd hsp hi hin z1
    go_wp2_with (go_at_call 173;refine (mx _).mono ?_;clear mx;rintro e W6 ⟨rfl,hx6⟩;obtain ⟨s0,s1,s2,f0,f1,f2⟩:=(HS.out.next hx6).facts)
    have hi:=HI.out
    go_roundg (gk-2)
    case measure=>omega
    case rel=>exact ⟨2,m,rfl,by omega,HT.out,(HS.out.next hx6).mixed hrs hws⟩
   ·have hT':T=s:=by rw [hT,show decide (i=0)=false by simp [h0],soakE_false];rfl
    have HT':=Lib.hid hT'
    have q0:=hsp.res.cell 0
    have q1:=hsp.res.cell 1
    have p0:=hsp.res.frozen 0
    have p1:=hsp.res.frozen 1
    simp at q0 q1
    have z2:((i:Int)==0)=false:=by simp;omega
    have z3:1≤(i:Int):=by omega
    have hx:=HS.out.ext
    clear hT hT' hd hsp hi hin h0
    go_wp2
    refine bodyPost_ret (v:=.agg #[.int .u64 (s.1:Int),.int .u64 (s.2.1:Int)]) (by simp [results,Tryz.results157,go_sem,q0,q1]) rfl ⟨by rw [HTT.out,HT'.out],?_⟩
    exact (hx.setCell (p:=⟨rb,0,none⟩) hwr _).setCell (p:=⟨rb,1,none⟩) hwr _
end Go.Proofs.YtbhdmfijdhcehaaGreatDoor
namespace Go.Proofs.YtbhdmfijdhcehaaGreatDoor
open Go.RowKit Go.Shelf
set_option linter.unusedSimpArgs false
set_option linter.unusedVariables false
theorem be_drop4 (n:Nat):(be n 8).drop 4=be n 4:=by simp [be,beN,List.range_succ]
theorem cut4 {W:World} {A:Option Addr} {c n:Nat} (h:Reads W W.heap.size 1 A 8 (bv (be n 8))) (hc:8≤c) :
  ∃ A',(∀ w:World,(Instr.slice 30 (.slice A 8 c) (some (.int .i64 4)) none none).run Tryz.prog w=.ok (.slice A' 4 (c-4)) w)∧Reads W W.heap.size 1 A' 4 (bv (be n 4)):=by
 have h1:=h.cut (k:=4) (cap:=c) (by decide) hc
 refine ⟨_,fun w=>slice_l8 A 8 c 4 (by decide) w,?_⟩
 have e:(bv (be n 8)).drop (4*1)=bv (be n 4):=by rw [← be_drop4];simp [bv]
 rw [e] at h1
 exact h1
theorem rCoded_any (tag:ByteArray) (ps:List (List Nat)) (A:Option Addr) (c:Nat) (hpc0:ps.length≤c) (w:World) (hr:Parts w w.heap.size A ps) (htot:(coded (strN tag) ps).length≤1099511627776) :
  Calls Tryz.prog 158 #[.string tag,.slice A ps.length c] w fun e w'=>∃ A' c',e=.returned (.slice A' (coded (strN tag) ps).length c')∧(coded (strN tag) ps).length≤c'∧Reads w' w'.heap.size 1 A' (coded (strN tag) ps).length (bv (coded (strN tag) ps))∧Ext w w':=by
 obtain ⟨i0,hi,hz0,hz1,hz2⟩:=info_parts Tryz.infoU8
 have htl:tag.size+1≤(coded (strN tag) ps).length:=by
  have:=coded_take_le (strN tag) ps 0
  rw [List.take_zero,coded_nil,List.length_cons,strN_length] at this
  exact this
 have hcc:=coded_take_le (strN tag) ps
 have hc0:coded (strN tag) []=tag.size % 256 :: strN tag:=by rw [coded_nil,strN_length]
 obtain ⟨tot,ht⟩:∃ tot,tot=(coded (strN tag) ps).length:=⟨_,rfl⟩
 rw [← ht] at htot htl hcc
 have hpl:ps.length≤tot:=by
  rw [ht,coded,List.length_append,List.length_flatMap]
  have:ps.length≤(ps.map fun p=>(be p.length 4++p).length).sum:=by
   clear ht hcc hc0 htl hr htot hpc0
   induction ps with
   | nil=>simp
   | cons p ps ih =>
    simp only [List.length_cons,List.map_cons,List.sum_cons]
    rw [List.length_append,be_length]
    omega
  omega
 have k1:IntKind.u8.wrap (tag.size:Int)=((tag.size % 256:Nat):Int):=by rw [IntKind.wrap_u8];omega
 obtain ⟨d,hd⟩:∃ d,d=tag.size % 256:=⟨_,rfl⟩
 rw [← hd] at k1 hc0
 have HT:=Lib.hid ht
 have HC:=Lib.hid hcc
 have HR:=Lib.hid hr
 have hpi:(ps.length:Int)≤1099511627776:=by omega
 have hpc:(ps.length:Int)≤c:=by omega
 clear hd ht hcc hr hpc0
 go_enter Tryz.func158,Tryz.ntmps158
 go_wp2_with (at_builtin;refine wpList_append_own_src _ rfl (.tmp 10) (.tmp 11) 30 9 rfl w.heap.size 5 i0 (.int .u8 0) 1 1 Tryz.underlying30 hi hz0 hz1 hz2 rfl (.slice (some ⟨w.heap.size,0,none⟩) 1 1) _ _ rfl (own_new w w.heap.size w.heap.size rfl (Nat.le_refl _) 5 (.int .u8 (d:Int))) (.string tag) tag.size (byteCells tag) rfl (Src.ofString _ Tryz.underlying9 tag) (by simp only [maxLen];omega) (by omega) (by simp) (by simp) ?_;intro v1 w1 hown1 hg1 _)
 have hx1:Hid (Ext w w1):=Lib.hid (Ext.of (((Below.refl _ _).alloc (Nat.le_refl _) _).grown hg1 (by simp) (fun k e=>by simp [Value.ownBlock] at e;omega)))
 have ho:Hid (w1.ownsRow w.heap.size 5 1 v1 (coded (strN tag) (ps.take 0)).length (bv (coded (strN tag) (ps.take 0)))):=by
  show World.ownsRow _ _ _ _ _ _ _
  rw [List.take_zero,hc0,List.length_cons,strN_length,Nat.add_comm tag.size 1]
  have e:bv (d :: strN tag)=[.int .u8 (d:Int)]++byteCells tag:=by rw [byteCells_strN];rfl
  rw [e]
  exact hown1
 clear hown1 hg1 hc0 k1
 go_loopg [5,6] ps.length (fun m s5 s6 wr=>∃ j:Nat,j+m=ps.length∧s6=.int .i64 j∧wr.ownsRow w.heap.size 5 1 s5 (coded (strN tag) (ps.take j)).length (bv (coded (strN tag) (ps.take j)))∧Ext w wr)
 case atStart=>exact ⟨0,by omega,rfl,ho.out,hx1.out⟩
 case round =>
  obtain ⟨j,hj,rfl,hown,hx⟩:=hrel
  clear ho hx1
  by_cases h:j<ps.length
  ·obtain ⟨p,hp⟩:∃ p,ps[j]?=some p:=⟨_,List.getElem?_eq_getElem h⟩
   obtain ⟨ad,a,c',rfl,hcell0,hpc,hrp0⟩:=HR.out.at_ hp
   have HCW:Hid (∀ W,Ext w W→W.cell? (ad.add j)=some (.slice a p.length c')):=Lib.hid (fun W x=>x.cell hcell0)
   have HRW:Hid (∀ W,Ext w W→Reads W w.heap.size 1 a p.length (bv p)):=Lib.hid (fun W x=>hrp0.below x.out)
   have hcell:=HCW.out wr hx
   have hle:=HC.out (j+1)
   have ht1:ps.take (j+1)=ps.take j++[p]:=by rw [List.take_add_one,hp];rfl
   rw [ht1,coded_snoc] at hle
   simp only [List.length_append,be_length] at hle
   obtain ⟨l,hl⟩:∃ l,l=coded (strN tag) (ps.take j):=⟨_,rfl⟩
   rw [← hl] at hown hle
   have HN:Hid (coded (strN tag) (ps.take (j+1))=l++be p.length 4++p):=by show _=_;rw [ht1,coded_snoc,hl]
   have cE:=fun W=>Eight_any p.length W
   have hpt:(p.length:Int)≤1099511627776:=by omega
   have z1:(j:Int)<ps.length:=by omega
   have HLE:=Lib.hid hle
   have HJ:=Lib.hid hj
   have HX:=Lib.hid hx
   clear hle hj hx ht1 hl hp htl hrp0 hcell0 h
   go_wp2_with (first
    | (go_at_call 174;refine (cE _).mono ?_;clear cE;rintro e w2 ⟨v2,rfl,o2,x2⟩;obtain ⟨AE,kE,rfl,hkE,rE⟩:=own_slice o2;obtain ⟨AF,hAF,rF⟩:=cut4 rE hkE;clear o2 rE)
    | (at_builtin;refine wpList_append_any _ rfl (.tmp 19) (.tmp 27) 30 rfl w.heap.size 5 i0 (.int .u8 0) 1 1 Tryz.underlying30 hi hz0 hz1 hz2 rfl (by decide) u5 l.length (bv l) rfl (own_ext hown x2) w2.heap.size AF 4 (kE-4) (bv (be p.length 4)) rfl rF (bv_one _) (by have:=HLE.out;simp only [maxLen];omega) (by have:=HLE.out;omega) (Nat.le_trans HX.out.size x2.size) ?_;intro v3 w3 hown3 hg3 _;have x3:Ext w w3:=Ext.of (Below.grown (HX.out.trans x2).out hg3 (HX.out.trans x2).size (own_ge hown));have hcell3:=HCW.out w3 x3)
    | (at_builtin;refine wpList_append_any _ rfl (.tmp 29) (.tmp 33) 30 rfl w.heap.size 5 i0 (.int .u8 0) 1 1 Tryz.underlying30 hi hz0 hz1 hz2 rfl (by decide) v3 (l.length+4) (bv l++bv (be p.length 4)) rfl hown3 w.heap.size a p.length c' (bv p) rfl (HRW.out w3 x3) (bv_one _) (by have:=HLE.out;simp only [maxLen];omega) (by have:=HLE.out;omega) x3.size ?_;intro v4 w4 hown4 hg4 _))
   have x4:Hid (Ext w w4):=Lib.hid (Ext.of (Below.grown x3.out hg4 x3.size (own_ge hown3)))
   have O4:Hid (w4.ownsRow w.heap.size 5 1 v4 (coded (strN tag) (ps.take (j+1))).length (bv (coded (strN tag) (ps.take (j+1))))):=by
    show World.ownsRow _ _ _ _ _ _ _
    rw [HN.out,show (l++be p.length 4++p).length=l.length+4+p.length by simp only [List.length_append,be_length],show bv (l++be p.length 4++p)=bv l++bv (be p.length 4)++bv p by rw [bv_append,bv_append]]
    exact hown4
   have hj:=HJ.out
   clear hown4 hg4 hown3 hg3 x3 x2 hown rF hAF hcell hcell3
   go_roundg (gk-1)
   case measure=>omega
   case rel=>exact ⟨j+1,by omega,int_congr (by omega),O4.out,x4.out⟩
  ·obtain rfl:j=ps.length:=by omega
   rw [List.take_length] at hown
   obtain ⟨A',c',rfl,hc',hr'⟩:=own_slice hown
   have HX:=Lib.hid hx
   have HRR:=Lib.hid hr'
   have HCC:=Lib.hid hc'
   obtain ⟨n,hn⟩:∃ n,n=(coded (strN tag) ps).length:=⟨_,rfl⟩
   rw [← hn]
   have HNN:=Lib.hid hn
   clear hown hr' hx hc' hj h hn
   go_wp2
   go_ret
   exact ⟨A',c',by rw [← HNN.out];rfl,HCC.out,HRR.out,HX.out⟩
theorem rTagged_any (tag:ByteArray) (ps:List (List Nat)) (hps:∀ p∈ps,∀ x∈p,x<256) (A:Option Addr) (c:Nat) (hpc0:ps.length≤c) (w:World) (hr:Parts w w.heap.size A ps) (htot:(coded (strN tag) ps).length≤1099511627776) :
  Calls Tryz.prog 136 #[.string tag,.slice A ps.length c] w fun e w'=>e=.returned (.agg #[.int .u64 ((hSum (coded (strN tag) ps)).1:Int),.int .u64 ((hSum (coded (strN tag) ps)).2:Int)])∧Ext w w':=by
 have hall:=coded_lt (strN tag) (strN_lt tag) ps hps
 have cC:=rCoded_any tag ps A c hpc0 (w.alloc (.cells #[.int .u64 0,.int .u64 0] 161)) (by
  obtain ⟨vs,h1,h2⟩:=hr
  exact ⟨vs,(h1.alloc (Nat.le_refl _) _).more (by simp),fun j p hj=>by obtain ⟨a,c,e,hc,hr⟩:=h2 j p hj;exact ⟨a,c,e,hc,(hr.alloc (Nat.le_refl _) _).more (by simp)⟩⟩) htot
 have cS:=fun A' c' hc' W hr'=>rSum_any (coded (strN tag) ps) hall htot A' c' hc' W hr'
 obtain ⟨l,hl⟩:∃ l,l=coded (strN tag) ps:=⟨_,rfl⟩
 rw [← hl] at cC cS ⊢
 obtain ⟨r1,hr1⟩:∃ r,r=(hSum l).1:=⟨_,rfl⟩
 obtain ⟨r2,hr2⟩:∃ r,r=(hSum l).2:=⟨_,rfl⟩
 rw [← hr1,← hr2] at cS ⊢
 have x0:Ext w (w.alloc (.cells #[.int .u64 0,.int .u64 0] 161)):=(Ext.refl w).alloc _
 clear hr1 hr2 hl hr hps htot hall
 go_enter Tryz.func136,Tryz.ntmps136
 go_wp2_with (first
  | (go_at_call 158;refine cC.mono ?_;clear cC;rintro e w2 ⟨A2,c2,rfl,hc2,hr2,x2⟩)
  | (go_at_call 157;refine (cS _ _ hc2 _ hr2).mono ?_;clear cS;rintro e w3 ⟨rfl,x3⟩;obtain ⟨q0,q1,p0,p1⟩:=arr2 (ext_blk (x2.trans x3) (Blk.new w _ _))))
 refine bodyPost_ret (v:=.agg #[.int .u64 (r1:Int),.int .u64 (r2:Int)]) (by simp [results,Tryz.results136,go_sem,q0,q1]) rfl ⟨rfl,?_⟩
 exact (((x0.trans x2).trans x3).setCell (p:=⟨w.heap.size,0,none⟩) (Nat.le_refl _) _).setCell (p:=⟨w.heap.size,1,none⟩) (Nat.le_refl _) _
attribute [local irreducible] mix hSum hNum
theorem mix_w (s:Nat × Nat × Nat):(mix s).1<18446744073709551616∧(mix s).2.1<18446744073709551616:=by
 obtain ⟨p,q,_⟩:=rnd_lt 7 (rnds 7 s)
 have e:mix s=rnd 7 (rnds 7 s):=by unfold mix;rfl
 rw [e]
 exact ⟨Nat.lt_trans p (by decide),Nat.lt_trans q (by decide)⟩
theorem soak_w:∀ (l:List Nat) (s:Nat × Nat × Nat),s.1<18446744073709551616→s.2.1<18446744073709551616→(soak s l).1<18446744073709551616∧(soak s l).2.1<18446744073709551616
 | [],s,h1,h2=>by rw [soak];exact ⟨h1,h2⟩
 | [x],s,_,_=>by rw [soak_one];exact mix_w _
 | x :: y :: l,s,_,_=>by rw [soak_two];exact soak_w l _ (mix_w _).1 (mix_w _).2
theorem hSum_w (l:List Nat):(hSum l).1<18446744073709551616∧(hSum l).2<18446744073709551616:=by
 unfold hSum soakE
 split
 ·exact mix_w _
 ·exact soak_w _ _ (show 0<18446744073709551616 by decide) (show 0<18446744073709551616 by decide)
theorem parts_new {W:World} {T:TypeId} {vs:Array Value} {ps:List (List Nat)} (hl:vs.size=ps.length) (h:∀ (j:Nat) (p:List Nat),ps[j]?=some p→∃ a c,vs[j]?=some (Value.slice a p.length c)∧p.length≤c∧Reads W W.heap.size 1 a p.length (bv p)) :
  Parts (W.alloc (.cells vs T)) (W.alloc (.cells vs T)).heap.size (some ⟨W.heap.size,0,none⟩) ps:=by
 refine ⟨vs.toList,by rw [← hl];exact blk_reads (Blk.new W T vs),fun j p hj=>?_⟩
 obtain ⟨a,c,h1,h2,h3⟩:=h j p hj
 exact ⟨a,c,by simpa using h1,h2,(h3.alloc (Nat.le_refl _) _).more (by simp)⟩
theorem parts_1 {W:World} {T:TypeId} {A:Option Addr} {c:Nat} {l:List Nat} (hc:l.length≤c) (hr:Reads W W.heap.size 1 A l.length (bv l)) :
  Parts (W.alloc (.cells #[.slice A l.length c] T)) (W.alloc (.cells #[.slice A l.length c] T)).heap.size (some ⟨W.heap.size,0,none⟩) [l] :=
 parts_new rfl fun j p hj=>match j,hj with|0,hj=>by cases hj;exact ⟨A,c,rfl,hc,hr⟩
theorem parts_2 {W:World} {T:TypeId} {A B:Option Addr} {c n:Nat} {l:List Nat} (hb:Reads W W.heap.size 1 B 8 (bv (be n 8))) (hc:l.length≤c) (hr:Reads W W.heap.size 1 A l.length (bv l)) :
  Parts (W.alloc (.cells #[.slice B 8 8,.slice A l.length c] T)) (W.alloc (.cells #[.slice B 8 8,.slice A l.length c] T)).heap.size (some ⟨W.heap.size,0,none⟩) [be n 8,l] :=
 parts_new rfl fun j p hj=>match j,hj with
  | 0,hj=>by cases hj;exact ⟨B,8,by rw [be_length];rfl,by rw [be_length];exact Nat.le_refl _,by rw [be_length];exact hb⟩
  | 1,hj=>by cases hj;exact ⟨A,c,rfl,hc,hr⟩
theorem parts_3 {W:World} {T:TypeId} {A B C:Option Addr} {c n m:Nat} {l:List Nat} (hb:Reads W W.heap.size 1 B 8 (bv (be n 8))) (hd:Reads W W.heap.size 1 C 8 (bv (be m 8))) (hc:l.length≤c) (hr:Reads W W.heap.size 1 A l.length (bv l)) :
  Parts (W.alloc (.cells #[.slice B 8 8,.slice C 8 8,.slice A l.length c] T)) (W.alloc (.cells #[.slice B 8 8,.slice C 8 8,.slice A l.length c] T)).heap.size (some ⟨W.heap.size,0,none⟩) [be n 8,be m 8,l] :=
 parts_new rfl fun j p hj=>match j,hj with
  | 0,hj=>by cases hj;exact ⟨B,8,by rw [be_length];rfl,by rw [be_length];exact Nat.le_refl _,by rw [be_length];exact hb⟩
  | 1,hj=>by cases hj;exact ⟨C,8,by rw [be_length];rfl,by rw [be_length];exact Nat.le_refl _,by rw [be_length];exact hd⟩
  | 2,hj=>by cases hj;exact ⟨A,c,rfl,hc,hr⟩
theorem be_lt8 (n:Nat):∀ x∈be n 8,x<256:=be_lt n 8
theorem lts1 {l:List Nat} (hl:∀ x∈l,x<256):∀ p∈[l],∀ x∈p,x<256:=by intro p hp;simp only [List.mem_cons,List.not_mem_nil,or_false] at hp;subst hp;exact hl
theorem lts2 (n:Nat) {l:List Nat} (hl:∀ x∈l,x<256):∀ p∈[be n 8,l],∀ x∈p,x<256:=by
 intro p hp;simp only [List.mem_cons,List.not_mem_nil,or_false] at hp
 rcases hp with rfl|rfl
 ·exact be_lt8 n
 ·exact hl
theorem lts3 (n m:Nat) {l:List Nat} (hl:∀ x∈l,x<256):∀ p∈[be n 8,be m 8,l],∀ x∈p,x<256:=by
 intro p hp;simp only [List.mem_cons,List.not_mem_nil,or_false] at hp
 rcases hp with rfl|rfl|rfl
 ·exact be_lt8 n
 ·exact be_lt8 m
 ·exact hl
theorem len1 (tag:ByteArray) (ht:tag.size≤10) {l:List Nat} (h:l.length≤1000):(coded (strN tag) [l]).length≤1099511627776:=by simp [coded,be_length,strN_length];omega
theorem len2 (tag:ByteArray) (ht:tag.size≤10) (n:Nat) {l:List Nat} (h:l.length≤1000):(coded (strN tag) [be n 8,l]).length≤1099511627776:=by simp [coded,be_length,strN_length];omega
theorem len3 (tag:ByteArray) (ht:tag.size≤10) (n m:Nat) {l:List Nat} (h:l.length≤1000):(coded (strN tag) [be n 8,be m 8,l]).length≤1099511627776:=by simp [coded,be_length,strN_length];omega
theorem wrap_one {n:Nat} (h:n<bR):IntKind.u64.wrap ((n:Int)+1)=((n+1:Nat):Int)∧IntKind.u64.wrap (1+(n:Int))=((n+1:Nat):Int):=by
 unfold bR at h
 rw [IntKind.wrap_u64,IntKind.wrap_u64];omega
theorem tagNum (tag:ByteArray) (ps:List (List Nat)) (m:Nat) (hm:m<18446744073709551616) (hps:∀ p∈ps,∀ x∈p,x<256) (htot:(coded (strN tag) ps).length≤1099511627776):∃ x y:Nat,
  (∀ A c W,ps.length≤c→Parts W W.heap.size A ps→Calls Tryz.prog 130 #[.string tag,.slice A ps.length c] W fun e w'=>e=.returned (.agg #[.int .u64 (x:Int),.int .u64 (y:Int)])∧Ext W w') ∧
  (∀ W,Calls Tryz.prog 129 #[.agg #[.int .u64 (x:Int),.int .u64 (y:Int)],.int .u64 (m:Nat)] W fun e w'=>e=.returned (.int .u64 (hNum tag ps m:Nat))∧Ext W w'):=by
 refine ⟨(hSum (coded (strN tag) ps)).1,(hSum (coded (strN tag) ps)).2,fun A c W hc h=>Tagged_any tag ps hps A c W h htot,fun W=>?_⟩
 unfold hNum
 exact Num_any _ _ m (hSum_w _).1 (hSum_w _).2 hm W
theorem some_any (tag:ByteArray) (ps:List (List Nat)) (hps:∀ p∈ps,∀ x∈p,x<256) (htot:(coded (strN tag) ps).length≤1099511627776) (A:Option Addr) (c:Nat) (hc:ps.length≤c) (w:World) (hr:Parts w w.heap.size A ps) :
  Calls Tryz.prog 122 #[.string tag,.slice A ps.length c] w fun e w'=>e=.returned (.int .u64 (someN tag ps:Nat))∧Ext w w':=by
 obtain ⟨x,y,c1,c2⟩:=tagNum tag ps (bR-1) (by decide) hps htot
 have c1:=c1 A c w hc hr
 have hlt:=hNum_lt tag ps (m:=bR-1) (by decide)
 unfold someN
 obtain ⟨n,hn⟩:∃ n,n=hNum tag ps (bR-1):=⟨_,rfl⟩
 rw [← hn] at hlt c2 ⊢
 rw [show bR-1=1152921504606845788 from rfl] at c2
 simp only [Int.cast_ofNat_Int] at c2
 have e1:=(wrap_one (n:=n) (by unfold bR at *;omega)).1
 clear hn hlt hr hps htot
 go_enter Tryz.func122,Tryz.ntmps122
 go_wp2_with (first|(go_at_call 130;refine c1.mono ?_;clear c1;rintro e w' ⟨rfl,x1⟩)|(go_at_call 129;refine (c2 _).mono ?_;clear c2;rintro e w' ⟨rfl,x2⟩))
 go_ret
 exact ⟨rfl,x1.trans x2⟩
theorem Secret_any (l:List Nat) (hl:∀ x∈l,x<256) (h:l.length≤1000) (A:Option Addr) (c:Nat) (hc:l.length≤c) (w:World) (hr:Reads w w.heap.size 1 A l.length (bv l)) :
  Calls Tryz.prog 83 #[.slice A l.length c] w fun e w'=>e=.returned (.int .u64 (secN l:Nat))∧Ext w w':=by
 have c1:=fun T=>some_any secretS [l] (lts1 hl) (len1 secretS (by decide) h) _ 1 (Nat.le_refl 1) _ (parts_1 (T:=T) hc hr)
 unfold secN
 generalize someN secretS [l]=v at *
 have x0:=fun o=>(Ext.refl w).alloc o
 clear hl h hc hr
 go_enter Tryz.func83,Tryz.ntmps83
 go_wp2_with (go_at_call 122;refine (c1 _).mono ?_;clear c1;rintro e w' ⟨rfl,x1⟩)
 go_ret
 exact ⟨rfl,(x0 _).trans x1⟩
theorem odd_any (s:Nat) (w:World):Calls Tryz.prog 121 #[.int .u64 s] w fun e w'=>e=.returned (.bool (oddN s))∧w=w':=by
 rcases Nat.eq_zero_or_pos s with rfl|h0
 ·have e:oddN 0=true:=rfl
  rw [e]
  go_enter Tryz.func121,Tryz.ntmps121
  go_wp2
  go_ret
  exact ⟨rfl,rfl⟩
 ·have k0:((s:Int)==0)=false:=by simp;omega
  have k1:decide ((1:Int)≤(s:Int))=true:=by simp;omega
  by_cases h:bR≤s
  ·have e:oddN s=true:=by unfold oddN;simp [h]
   rw [e]
   have k2:decide ((1152921504606845789:Int)≤(s:Int))=true:=by unfold bR at h;simp;omega
   have k3:decide ((s:Int)<1152921504606845789)=false:=by unfold bR at h;simp;omega
   clear h h0 e
   go_enter Tryz.func121,Tryz.ntmps121
   go_wp2
   go_ret
   exact ⟨rfl,rfl⟩
  ·have e:oddN s=false:=by unfold oddN;simp;omega
   rw [e]
   have k2:decide ((1152921504606845789:Int)≤(s:Int))=false:=by unfold bR at h;simp;omega
   have k3:decide ((s:Int)<1152921504606845789)=true:=by unfold bR at h;simp;omega
   clear h h0 e
   go_enter Tryz.func121,Tryz.ntmps121
   go_wp2
   go_ret
   exact ⟨rfl,rfl⟩
theorem Public_any (s:Nat) (hs:s<18446744073709551616) (w:World) :
  Calls Tryz.prog 82 #[.int .u64 s] w fun e w'=>e=.returned (if oddN s=true then .tuple #[.int .u64 0,.int .i64 1] else .tuple #[.int .u64 (powM bQ 4 s:Nat),.int .i64 0])∧Ext w w':=by
 have c1:=fun w=>odd_any s w
 have c2:=fun w=>Base_any s hs w
 generalize powM bQ 4 s=v at *
 clear hs
 rcases h:oddN s
 ·rw [h] at c1
  clear h
  try simp only [Bool.not_false] at c1
  rw [if_neg (by decide)]
  go_enter Tryz.func82,Tryz.ntmps82
  go_wp2_with (first|(go_at_call 121;refine (c1 _).mono ?_;clear c1;rintro e w' ⟨rfl,rfl⟩)|(go_at_call 97;refine (c2 _).mono ?_;clear c2;rintro e w' ⟨rfl,x1⟩))
  go_ret2
  exact ⟨rfl,x1⟩
 ·rw [h] at c1
  clear h
  try simp only [Bool.not_true] at c1
  rw [if_pos rfl]
  go_enter Tryz.func82,Tryz.ntmps82
  go_wp2_with (go_at_call 121;refine (c1 _).mono ?_;clear c1;rintro e w' ⟨rfl,rfl⟩)
  go_ret2
  exact ⟨rfl,Ext.refl _⟩
theorem Challenge_any (n m:Nat) (hn:n<18446744073709551616) (hm:m<18446744073709551616) (l:List Nat) (hl:∀ x∈l,x<256) (h:l.length≤1000) (A:Option Addr) (c:Nat) (hc:l.length≤c) (w:World) (hr:Reads w w.heap.size 1 A l.length (bv l)) :
  Calls Tryz.prog 95 #[.int .u64 n,.int .u64 m,.slice A l.length c] w fun e w'=>e=.returned (.int .u64 (chalN n m l:Nat))∧Ext w w':=by
 obtain ⟨x,y,c1,c2⟩:=tagNum signS [be n 8,be m 8,l] bR (by decide) (lts3 n m hl) (len3 signS (by decide) n m h)
 have cB:=fun w=>sbytes_any n hn w
 have cC:=fun w=>sbytes_any m hm w
 have c1:∀ W B C T,Ext w W→Reads W W.heap.size 1 B 8 (bv (be n 8))→Reads W W.heap.size 1 C 8 (bv (be m 8))→Calls Tryz.prog 130 #[.string signS,.slice (some ⟨W.heap.size,0,none⟩) 3 3] (W.alloc (.cells #[.slice B 8 8,.slice C 8 8,.slice A l.length c] T)) fun e w'=>e=.returned (.agg #[.int .u64 (x:Int),.int .u64 (y:Int)])∧Ext (W.alloc (.cells #[.slice B 8 8,.slice C 8 8,.slice A l.length c] T)) w' :=
  fun W B C T xw hb hd=>c1 _ 3 _ (Nat.le_refl 3) (parts_3 (T:=T) hb hd hc ((hr.below xw.out).more xw.size))
 unfold chalN
 obtain ⟨v,hv⟩:∃ v,v=hNum signS [be n 8,be m 8,l] bR:=⟨_,rfl⟩
 rw [← hv] at c2 ⊢
 rw [show bR=1152921504606845789 from rfl] at c2
 simp only [Int.cast_ofNat_Int] at c2
 clear hv hr hl h hc hn hm
 go_enter Tryz.func95,Tryz.ntmps95
 go_wp2_with (first
  | (go_at_call 131;(with_reducible refine (cB _).mono ?_);clear cB;rintro e w1 ⟨B,rfl,rB,xB⟩)
  | (go_at_call 131;(with_reducible refine (cC _).mono ?_);clear cC;rintro e w2 ⟨C,rfl,rC,xC⟩)
  | (go_at_call 130;refine (c1 _ _ _ _ (xB.trans xC) ((rB.below xC.out).more xC.size) rC).mono ?_;clear c1;rintro e w3 ⟨rfl,xT⟩)
  | (go_at_call 129;refine (c2 _).mono ?_;clear c2;rintro e w4 ⟨rfl,xN⟩))
 go_ret
 exact ⟨rfl,(((xB.trans xC).alloc _).trans xT).trans xN⟩
theorem rtagNum (tag:ByteArray) (ps:List (List Nat)) (m:Nat) (hm:m<18446744073709551616) (hps:∀ p∈ps,∀ x∈p,x<256) (htot:(coded (strN tag) ps).length≤1099511627776):∃ x y:Nat,
  (∀ A c W,ps.length≤c→Parts W W.heap.size A ps→Calls Tryz.prog 136 #[.string tag,.slice A ps.length c] W fun e w'=>e=.returned (.agg #[.int .u64 (x:Int),.int .u64 (y:Int)])∧Ext W w') ∧
  (∀ W,Calls Tryz.prog 135 #[.agg #[.int .u64 (x:Int),.int .u64 (y:Int)],.int .u64 (m:Nat)] W fun e w'=>e=.returned (.int .u64 (hNum tag ps m:Nat))∧Ext W w'):=by
 refine ⟨(hSum (coded (strN tag) ps)).1,(hSum (coded (strN tag) ps)).2,fun A c W hc h=>rTagged_any tag ps hps A c hc W h htot,fun W=>?_⟩
 unfold hNum
 exact rNum_any _ _ m hm W
theorem rChallenge_any (n m:Nat) (hn:n<18446744073709551616) (hm:m<18446744073709551616) (l:List Nat) (hl:∀ x∈l,x<256) (h:l.length≤1000) (A:Option Addr) (c:Nat) (hc:l.length≤c) (w:World) (hr:Reads w w.heap.size 1 A l.length (bv l)) :
  Calls Tryz.prog 111 #[.int .u64 n,.int .u64 m,.slice A l.length c] w fun e w'=>e=.returned (.int .u64 (chalN n m l:Nat))∧Ext w w':=by
 obtain ⟨x,y,c1,c2⟩:=rtagNum signS [be n 8,be m 8,l] bR (by decide) (lts3 n m hl) (len3 signS (by decide) n m h)
 have cB:=fun w=>Eight4_any n hn w
 have cC:=fun w=>Eight4_any m hm w
 have c1:∀ W B C T,Ext w W→Reads W W.heap.size 1 B 8 (bv (be n 8))→Reads W W.heap.size 1 C 8 (bv (be m 8))→Calls Tryz.prog 136 #[.string signS,.slice (some ⟨W.heap.size,0,none⟩) 3 3] (W.alloc (.cells #[.slice B 8 8,.slice C 8 8,.slice A l.length c] T)) fun e w'=>e=.returned (.agg #[.int .u64 (x:Int),.int .u64 (y:Int)])∧Ext (W.alloc (.cells #[.slice B 8 8,.slice C 8 8,.slice A l.length c] T)) w' :=
  fun W B C T xw hb hd=>c1 _ 3 _ (Nat.le_refl 3) (parts_3 (T:=T) hb hd hc ((hr.below xw.out).more xw.size))
 unfold chalN
 obtain ⟨v,hv⟩:∃ v,v=hNum signS [be n 8,be m 8,l] bR:=⟨_,rfl⟩
 rw [← hv] at c2 ⊢
 rw [show bR=1152921504606845789 from rfl] at c2
 simp only [Int.cast_ofNat_Int] at c2
 clear hv hr hl h hc hn hm
 go_enter Tryz.func111,Tryz.ntmps111
 go_wp2_with (first
  | (go_at_call 137;(with_reducible refine (cB _).mono ?_);clear cB;rintro e w1 ⟨B,rfl,rB,xB⟩)
  | (go_at_call 137;(with_reducible refine (cC _).mono ?_);clear cC;rintro e w2 ⟨C,rfl,rC,xC⟩)
  | (go_at_call 136;refine (c1 _ _ _ _ (xB.trans xC) ((rB.below xC.out).more xC.size) rC).mono ?_;clear c1;rintro e w3 ⟨rfl,xT⟩)
  | (go_at_call 135;refine (c2 _).mono ?_;clear c2;rintro e w4 ⟨rfl,xN⟩))
 go_ret
 exact ⟨rfl,(((xB.trans xC).alloc _).trans xT).trans xN⟩
end Go.Proofs.YtbhdmfijdhcehaaGreatDoor
namespace Go.Proofs.YtbhdmfijdhcehaaGreatDoor
open Go.RowKit Go.Shelf
set_option linter.unusedSimpArgs false
set_option linter.unusedVariables false
attribute [local irreducible] mix hSum hNum
theorem toExt {P:Program} {f:FuncId} {args:Array Value} {w:World} {v:Ending} (h:Calls P f args w fun e w'=>e=v∧w=w'):Calls P f args w fun e w'=>e=v∧Ext w w' :=
 h.mono fun _ _ ⟨a,b⟩=>⟨a,by rw [← b];exact Ext.refl _⟩
theorem two {W:World} {g:Nat} {T:TypeId} {a b:Value} (h:Blk W g T #[a,b]):W.cell? ⟨g,0,none⟩=some a∧W.cell? ⟨g,1,none⟩=some b:=⟨h.cell 0,h.cell 1⟩
theorem pw64 (x n:Nat):powM bQ x n<18446744073709551616:=Nat.lt_trans (powM_lt (by decide) _ _) (by decide)
theorem r64 {x:Nat} (h:x<bR):x<18446744073709551616:=Nat.lt_trans h (by decide)
theorem Sign_odd (s:Nat) (ho:oddN s=true) (hs:s<18446744073709551616) (A:Option Addr) (n c:Nat) (w:World) :
  Calls Tryz.prog 123 #[.int .u64 s,.slice A n c] w fun e w'=>e=.returned (.tuple #[.agg #[.int .u64 0,.int .u64 0],.int .i64 1])∧Ext w w':=by
 have c1:=fun w=>Public_any s hs w
 rw [if_pos ho] at c1
 clear ho hs
 go_enter Tryz.func123,Tryz.ntmps123
 go_wp2_with (go_at_call 82;refine (c1 _).mono ?_;clear c1;rintro e w1 ⟨rfl,x1⟩;have hb:=ext_blk x1 (Blk.new w _ _);obtain ⟨p0,p1⟩:=two hb;have f0:=hb.frozen 0;have f1:=hb.frozen 1;have HB:=Lib.hid hb;clear hb)
 refine bodyPost_ret (v:=.tuple #[.agg #[.int .u64 0,.int .u64 0],.int .i64 1]) (by simp [results,Tryz.results123,go_sem,p0,p1]) rfl ⟨rfl,?_⟩
 exact ((((Ext.refl w).alloc _).trans x1).setCell (p:=⟨w.heap.size,0,none⟩) (Nat.le_refl _) _).setCell (p:=⟨w.heap.size,1,none⟩) (Nat.le_refl _) _
theorem Sign_any (s:Nat) (ho:oddN s=false) (l:List Nat) (hl:∀ x∈l,x<256) (h:l.length≤1000) (A:Option Addr) (c0:Nat) (hc:l.length≤c0) (w:World) (hr:Reads w w.heap.size 1 A l.length (bv l)) :
  Calls Tryz.prog 123 #[.int .u64 s,.slice A l.length c0] w fun e w'=>e=.returned (.tuple #[.agg #[.int .u64 (sgE s l:Nat),.int .u64 (sgS s l:Nat)],.int .i64 0])∧Ext w w':=by
 have ls:s<bR:=by unfold oddN at ho;simp at ho;omega
 have c1:=fun w=>Public_any s (r64 ls) w
 rw [if_neg (by rw [ho];decide)] at c1
 have c2:=fun w=>sbytes_any s (r64 ls) w
 obtain ⟨k,hk⟩:∃ k,k=nonceN s l:=⟨_,rfl⟩
 have lk:k<bR:=by rw [hk];exact someN_lt _ _
 have c3:∀ W B T,Ext w W→Reads W W.heap.size 1 B 8 (bv (be s 8))→Calls Tryz.prog 122 #[.string nonceS,.slice (some ⟨W.heap.size,0,none⟩) 2 2] (W.alloc (.cells #[.slice B 8 8,.slice A l.length c0] T)) fun e w'=>e=.returned (.int .u64 (k:Nat))∧Ext (W.alloc (.cells #[.slice B 8 8,.slice A l.length c0] T)) w':=fun W B T xw hb=>by
  rw [hk];exact some_any nonceS [be s 8,l] (lts2 s hl) (len2 nonceS (by decide) s h) _ 2 (Nat.le_refl 2) _ (parts_2 (T:=T) hb hc ((hr.below xw.out).more xw.size))
 have c4:=fun w=>Base_any k (r64 lk) w
 have c5:∀ W,Ext w W→Calls Tryz.prog 95 #[.int .u64 (powM bQ 4 k:Nat),.int .u64 (powM bQ 4 s:Nat),.slice A l.length c0] W fun e w'=>e=.returned (.int .u64 (sgE s l:Nat))∧Ext W w':=fun W xw=>by
  unfold sgE;rw [← hk];exact Challenge_any (powM bQ 4 k) (powM bQ 4 s) (pw64 _ _) (pw64 _ _) l hl h A c0 hc W ((hr.below xw.out).more xw.size)
 obtain ⟨c,hcc⟩:∃ c,c=sgE s l:=⟨_,rfl⟩
 have lc:c<18446744073709551616:=by rw [hcc];exact r64 (sgE_lt s l)
 have c6:=fun w=>MulRE c s lc (r64 ls) w
 obtain ⟨q,hq⟩:∃ q,q=mulM bR c s:=⟨_,rfl⟩
 have c7:=fun w=>AddRE q k w
 have hz:addM bR q k=sgS s l:=by unfold sgS;rw [← hcc,← hk,← hq]
 rw [hz] at c7
 rw [← hcc] at c5 ⊢
 rw [← hq] at c6
 obtain ⟨z,hz'⟩:∃ z,z=sgS s l:=⟨_,rfl⟩
 rw [← hz'] at c7 ⊢
 obtain ⟨p,hp⟩:∃ p,p=powM bQ 4 s:=⟨_,rfl⟩
 obtain ⟨b,hb⟩:∃ b,b=powM bQ 4 k:=⟨_,rfl⟩
 rw [← hb] at c4 c5
 rw [← hp] at c1 c5
 clear hb hp hz hz' hq hcc lc lk hk hr hl h hc ls ho
 go_enter Tryz.func123,Tryz.ntmps123
 have x0:Ext w (w.alloc (.cells #[.int .u64 0,.int .u64 0] 25)):=(Ext.refl w).alloc _
 have HB:=Lib.hid (Blk.new w 25 #[.int .u64 0,.int .u64 0])
 go_wp2_with (first
  | (go_at_call 82;refine (c1 _).mono ?_;clear c1;rintro e w1 ⟨rfl,x1⟩)
  | (go_at_call 131;refine (c2 _).mono ?_;clear c2;rintro e w2 ⟨B,rfl,rB,x2⟩)
  | (go_at_call 122;refine (c3 _ _ _ ((x0.trans x1).trans x2) rB).mono ?_;clear c3;rintro e w3 ⟨rfl,x3⟩)
  | (go_at_call 97;refine (c4 _).mono ?_;clear c4;rintro e w4 ⟨rfl,x4⟩;have y4:=((((x0.trans x1).trans x2).alloc _).trans x3).trans x4;have z4:=(((x1.trans x2).alloc _).trans x3).trans x4)
  | (go_at_call 95;refine (c5 _ y4).mono ?_;clear c5;rintro e w5 ⟨rfl,x5⟩)
  | (go_at_call 145;refine (c6 _).mono ?_;clear c6;rintro e w6 ⟨rfl,x6⟩)
  | (go_at_call 144;refine (c7 _).mono ?_;clear c7;rintro e w7 ⟨rfl,x7⟩;have hb:=ext_blk (((z4.trans x5).trans x6).trans x7) HB.out;obtain ⟨p0,p1⟩:=two hb;have f0:=hb.frozen 0;have f1:=hb.frozen 1;clear hb))
 refine bodyPost_ret (v:=.tuple #[.agg #[.int .u64 (c:Int),.int .u64 (z:Int)],.int .i64 0]) (by simp [results,Tryz.results123,go_sem,p0,p1]) rfl ⟨rfl,?_⟩
 exact ((((y4.trans x5).trans x6).trans x7).setCell (p:=⟨w.heap.size,0,none⟩) (Nat.le_refl _) _).setCell (p:=⟨w.heap.size,1,none⟩) (Nat.le_refl _) _
end Go.Proofs.YtbhdmfijdhcehaaGreatDoor
namespace Go.Proofs.YtbhdmfijdhcehaaGreatDoor
open Go.RowKit Go.Shelf
set_option linter.unusedSimpArgs false
set_option linter.unusedVariables false
attribute [local irreducible] mix hSum hNum
theorem checkN_out {p:Nat} (h:inB p=false) (l:List Nat) (E S:Nat):checkN p l E S=1:=by unfold checkN;rw [if_pos h]
theorem checkN_high {p:Nat} (h:inB p=true) (l:List Nat) {E S:Nat} (hE:bR≤E∨bR≤S):checkN p l E S=40:=by unfold checkN;rw [if_neg (by rw [h];decide),if_pos hE]
theorem checkN_in {p:Nat} (h:inB p=true) (l:List Nat) {E S:Nat} (hE:E<bR) (hS:S<bR):checkN p l E S=if chalN (mulM bQ (powM bQ 4 S) (invM bQ (powM bQ p E))) p l=E then 0 else 40:=by
 unfold checkN;rw [if_neg (by rw [h];decide),if_neg (by omega)]
theorem checkN_ref {p:Nat} (h:inB p=true) (l:List Nat) {E S:Nat} (hE:E<bR) (hS:S<bR):checkN p l E S=if chalN (mulM bQ (powM bQ 4 S) (powM bQ p (bR-E))) p l=E then 0 else 40:=by
 rw [checkN_in h l hE hS,inv_pow h E (Nat.le_of_lt hE)]
theorem Check_any (p:Nat) (hp:p<18446744073709551616) (E S:Nat) (hE:E<18446744073709551616) (hS:S<18446744073709551616) (l:List Nat) (hl:∀ x∈l,x<256) (h:l.length≤1000) (A:Option Addr) (c0:Nat) (hc:l.length≤c0) (w:World) (hr:Reads w w.heap.size 1 A l.length (bv l)) :
  Calls Tryz.prog 48 #[.int .u64 p,.slice A l.length c0,.agg #[.int .u64 E,.int .u64 S]] w fun e w'=>e=.returned (.int .i64 (checkN p l E S:Nat))∧Ext w w':=by
 have cI:=fun w=>In_any p hp w
 rcases hi:inB p
 ·rw [hi] at cI
  rw [checkN_out hi]
  clear hi hp hE hS hl h hc hr
  go_enter Tryz.func48,Tryz.ntmps48
  go_wp2_with (go_at_call 86;refine (cI _).mono ?_;clear cI;rintro e w1 ⟨rfl,x1⟩)
  go_ret
  exact ⟨rfl,((Ext.refl w).alloc _).trans x1⟩
 ·rw [hi] at cI
  by_cases hh:bR≤E∨bR≤S
  ·rw [checkN_high hi l hh]
   have k0:decide ((1152921504606845789:Int)≤max (E:Int) (S:Int))=true:=by unfold bR at hh;simp;omega
   have k1:(1152921504606845789:Int)≤max (E:Int) (S:Int):=by unfold bR at hh;omega
   clear hi hp hE hS hl h hc hr hh
   go_enter Tryz.func48,Tryz.ntmps48
   go_wp2_with (go_at_call 86;refine (cI _).mono ?_;clear cI;rintro e w1 ⟨rfl,x1⟩;have hb:=ext_blk x1 (Blk.new w _ _);obtain ⟨p0,p1⟩:=two hb;have HB:=Lib.hid hb;clear hb)
   go_ret
   exact ⟨rfl,((Ext.refl w).alloc _).trans x1⟩
  ·have lE:E<bR:=by omega
   have lS:S<bR:=by omega
   clear hh
   rw [checkN_in hi l lE lS]
   have k0:decide ((1152921504606845789:Int)≤max (E:Int) (S:Int))=false:=by unfold bR at lE lS;simp;omega
   have k1:¬ (1152921504606845789:Int)≤max (E:Int) (S:Int):=by unfold bR at lE lS;omega
   have c1:=fun w=>Pow_any p E hp hE w
   have c2:∀ w,Calls Tryz.prog 93 #[.int .u64 (powM bQ p E:Nat)] w fun e w'=>e=.returned (.tuple #[.int .u64 (invM bQ (powM bQ p E):Nat),.int .i64 0])∧Ext w w':=fun w=>by
    have:=Inv_any (powM bQ p E) w
    rw [invE_ok (inB_ne (inB_pow hi E))] at this
    exact toExt this
   obtain ⟨u,hu⟩:∃ u,u=powM bQ p E:=⟨_,rfl⟩
   have lu:u<18446744073709551616:=by rw [hu];exact pw64 _ _
   rw [← hu] at c1 c2 ⊢
   obtain ⟨v,hv⟩:∃ v,v=invM bQ u:=⟨_,rfl⟩
   have lv:v<18446744073709551616:=by rw [hv];exact Nat.lt_trans (invM_lt (by decide) _) (by decide)
   rw [← hv] at c2 ⊢
   have c3:=fun w=>Base_any S hS w
   obtain ⟨b,hb⟩:∃ b,b=powM bQ 4 S:=⟨_,rfl⟩
   have lb:b<18446744073709551616:=by rw [hb];exact pw64 _ _
   rw [← hb] at c3 ⊢
   have c4:=fun w=>MulE b v lb lv w
   obtain ⟨m,hm⟩:∃ m,m=mulM bQ b v:=⟨_,rfl⟩
   have lm:m<18446744073709551616:=by rw [hm];exact Nat.lt_trans (mulM_lt (by decide) _ _) (by decide)
   rw [← hm] at c4 ⊢
   have c5:∀ W,Ext w W→Calls Tryz.prog 95 #[.int .u64 (m:Nat),.int .u64 (p:Nat),.slice A l.length c0] W fun e w'=>e=.returned (.int .u64 (chalN m p l:Nat))∧Ext W w':=fun W xw =>
    Challenge_any m p lm hp l hl h A c0 hc W ((hr.below xw.out).more xw.size)
   obtain ⟨ch,hch⟩:∃ ch,ch=chalN m p l:=⟨_,rfl⟩
   rw [← hch] at c5 ⊢
   clear hch lm hm lb hb lv hv hl h hc hr hp hE hS lE lS lu hu
   rcases Nat.decEq ch E with hne|heq
   ·rw [if_neg hne]
    have q0:((ch:Int) != (E:Int))=true:=by simp;omega
    have q1:((ch:Int)==(E:Int))=false:=by simp;omega
    clear hne hi
    go_enter Tryz.func48,Tryz.ntmps48
    go_wp2_with (first
     | (go_at_call 86;refine (cI _).mono ?_;clear cI;rintro e w1 ⟨rfl,x1⟩;have hb:=ext_blk x1 (Blk.new w _ _);obtain ⟨p0,p1⟩:=two hb;have HB:=Lib.hid hb;clear hb)
     | (go_at_call 94;refine (c1 _).mono ?_;clear c1;rintro e w2 ⟨rfl,x2⟩)
     | (go_at_call 93;refine (c2 _).mono ?_;clear c2;rintro e w3 ⟨rfl,x3⟩;have hb:=ext_blk (x2.trans x3) HB.out;obtain ⟨p2,p3⟩:=two hb;clear hb))
    have y3:Ext w w3:=((((Ext.refl w).alloc _).trans x1).trans x2).trans x3
    have i0:=fun i:Later w3=>i.cell p2
    have i1:=fun i:Later w3=>i.cell p3
    clear p0 p1 p2 p3
    refine wp_region_later (by kernel_rfl) (by kernel_rfl) ?_
    repeat (go_big_quiet_step (first
     | (go_at_call 97;exact Later.calls (c3 _))
     | (go_at_call 96;exact Later.calls (c4 _))
     | (go_at_call 95;exact Later.calls (c5 _ (y3.trans (Later.ext _))))))
    refine wpQuiet_nil ?_
    rintro w4 ⟨i,hi⟩
    have x4:Ext w3 w4:=by rw [hi];exact i.ext
    clear hi i i0 i1
    go_wp2
    go_ret
    exact ⟨rfl,y3.trans x4⟩
   ·subst heq
    rw [if_pos rfl]
    have q0:((ch:Int) != (ch:Int))=false:=by simp
    clear hi
    go_enter Tryz.func48,Tryz.ntmps48
    go_wp2_with (first
     | (go_at_call 86;refine (cI _).mono ?_;clear cI;rintro e w1 ⟨rfl,x1⟩;have hb:=ext_blk x1 (Blk.new w _ _);obtain ⟨p0,p1⟩:=two hb;have HB:=Lib.hid hb;clear hb)
     | (go_at_call 94;refine (c1 _).mono ?_;clear c1;rintro e w2 ⟨rfl,x2⟩)
     | (go_at_call 93;refine (c2 _).mono ?_;clear c2;rintro e w3 ⟨rfl,x3⟩;have hb:=ext_blk (x2.trans x3) HB.out;obtain ⟨p2,p3⟩:=two hb;clear hb))
    have y3:Ext w w3:=((((Ext.refl w).alloc _).trans x1).trans x2).trans x3
    have i0:=fun i:Later w3=>i.cell p2
    have i1:=fun i:Later w3=>i.cell p3
    clear p0 p1 p2 p3
    refine wp_region_later (by kernel_rfl) (by kernel_rfl) ?_
    repeat (go_big_quiet_step (first
     | (go_at_call 97;exact Later.calls (c3 _))
     | (go_at_call 96;exact Later.calls (c4 _))
     | (go_at_call 95;exact Later.calls (c5 _ (y3.trans (Later.ext _))))))
    refine wpQuiet_nil ?_
    rintro w4 ⟨i,hi⟩
    have x4:Ext w3 w4:=by rw [hi];exact i.ext
    clear hi i i0 i1
    go_wp2
    go_ret
    exact ⟨rfl,y3.trans x4⟩
theorem rCheck_any (p:Nat) (hp:p<18446744073709551616) (E S:Nat) (hE:E<18446744073709551616) (hS:S<18446744073709551616) (l:List Nat) (hl:∀ x∈l,x<256) (h:l.length≤1000) (A:Option Addr) (c0:Nat) (hc:l.length≤c0) (w:World) (hr:Reads w w.heap.size 1 A l.length (bv l)) :
  Calls Tryz.prog 56 #[.int .u64 p,.slice A l.length c0,.agg #[.int .u64 E,.int .u64 S]] w fun e w'=>e=.returned (.int .i64 (checkN p l E S:Nat))∧Ext w w':=by
 have cI:=fun w=>toExt (rIn_any p hp w)
 rcases hi:inB p
 ·rw [hi] at cI
  rw [checkN_out hi]
  clear hi hp hE hS hl h hc hr
  go_enter Tryz.func56,Tryz.ntmps56
  go_wp2_with (go_at_call 106;refine (cI _).mono ?_;clear cI;rintro e w1 ⟨rfl,x1⟩)
  go_ret
  exact ⟨rfl,((Ext.refl w).alloc _).trans x1⟩
 ·rw [hi] at cI
  by_cases hh:bR≤E∨bR≤S
  ·rw [checkN_high hi l hh]
   by_cases h2:bR≤E
   ·have k0:decide ((1152921504606845789:Int)≤(E:Int))=true:=by unfold bR at h2;simp;omega
    clear hi hp hE hS hl h hc hr hh h2
    go_enter Tryz.func56,Tryz.ntmps56
    go_wp2_with (go_at_call 106;refine (cI _).mono ?_;clear cI;rintro e w1 ⟨rfl,x1⟩;have hb:=ext_blk x1 (Blk.new w _ _);obtain ⟨p0,p1⟩:=two hb;have HB:=Lib.hid hb;clear hb)
    go_ret
    exact ⟨rfl,((Ext.refl w).alloc _).trans x1⟩
   ·have k0:decide ((1152921504606845789:Int)≤(E:Int))=false:=by unfold bR at h2;simp;omega
    have k1:decide ((1152921504606845789:Int)≤(S:Int))=true:=by unfold bR at hh h2;simp;omega
    clear hi hp hE hS hl h hc hr hh h2
    go_enter Tryz.func56,Tryz.ntmps56
    go_wp2_with (go_at_call 106;refine (cI _).mono ?_;clear cI;rintro e w1 ⟨rfl,x1⟩;have hb:=ext_blk x1 (Blk.new w _ _);obtain ⟨p0,p1⟩:=two hb;have HB:=Lib.hid hb;clear hb)
    go_ret
    exact ⟨rfl,((Ext.refl w).alloc _).trans x1⟩
  ·have lE:E<bR:=by omega
   have lS:S<bR:=by omega
   clear hh
   rw [checkN_ref hi l lE lS]
   have k0:decide ((1152921504606845789:Int)≤(E:Int))=false:=by unfold bR at lE;simp;omega
   have k1:decide ((1152921504606845789:Int)≤(S:Int))=false:=by unfold bR at lS;simp;omega
   obtain ⟨d,hd⟩:∃ d,d=bR-E:=⟨_,rfl⟩
   have ld:d<18446744073709551616:=by unfold bR at hd;omega
   have k2:IntKind.u64.wrap (1152921504606845789-(E:Int))=(d:Int):=by unfold bR at hd lE;rw [IntKind.wrap_u64];omega
   have k3:(1152921504606845789:Int)-(E:Int)=(d:Int):=by unfold bR at hd lE;omega
   rw [← hd]
   have c2:=fun w=>toExt (rPow_any p d hp ld w)
   obtain ⟨v,hv⟩:∃ v,v=powM bQ p d:=⟨_,rfl⟩
   have lv:v<18446744073709551616:=by rw [hv];exact pw64 _ _
   rw [← hv] at c2 ⊢
   have c3:=fun w=>toExt (rBase_any S hS w)
   obtain ⟨b,hb⟩:∃ b,b=powM bQ 4 S:=⟨_,rfl⟩
   have lb:b<18446744073709551616:=by rw [hb];exact pw64 _ _
   rw [← hb] at c3 ⊢
   have c4:=fun w=>toExt (rMul_any b v lv w)
   obtain ⟨m,hm⟩:∃ m,m=mulM bQ b v:=⟨_,rfl⟩
   have lm:m<18446744073709551616:=by rw [hm];exact Nat.lt_trans (mulM_lt (by decide) _ _) (by decide)
   rw [← hm] at c4 ⊢
   have c5:∀ W,Ext w W→Calls Tryz.prog 111 #[.int .u64 (m:Nat),.int .u64 (p:Nat),.slice A l.length c0] W fun e w'=>e=.returned (.int .u64 (chalN m p l:Nat))∧Ext W w':=fun W xw =>
    rChallenge_any m p lm hp l hl h A c0 hc W ((hr.below xw.out).more xw.size)
   obtain ⟨ch,hch⟩:∃ ch,ch=chalN m p l:=⟨_,rfl⟩
   rw [← hch] at c5 ⊢
   clear hch lm hm lb hb lv hv hl h hc hr hp hE hS lE lS hd ld
   rcases Nat.decEq ch E with hne|heq
   ·rw [if_neg hne]
    have q0:((ch:Int) != (E:Int))=true:=by simp;omega
    have q1:((ch:Int)==(E:Int))=false:=by simp;omega
    clear hne hi
    go_enter Tryz.func56,Tryz.ntmps56
    go_wp2_with (go_at_call 106;refine (cI _).mono ?_;clear cI;rintro e w1 ⟨rfl,x1⟩;have hb:=ext_blk x1 (Blk.new w _ _);obtain ⟨p0,p1⟩:=two hb;have HB:=Lib.hid hb;clear hb)
    have y1:Ext w w1:=((Ext.refl w).alloc _).trans x1
    have i0:=fun i:Later w1=>i.cell p0
    have i1:=fun i:Later w1=>i.cell p1
    clear p0 p1
    refine wp_region_later (by kernel_rfl) (by kernel_rfl) ?_
    repeat (go_big_quiet_step (first
     | (go_at_call 109;exact Later.calls (c3 _))
     | (go_at_call 110;exact Later.calls (c2 _))
     | (go_at_call 108;exact Later.calls (c4 _))))
    refine wpQuiet_nil ?_
    rintro w4 ⟨i,hi⟩
    have x4:Ext w1 w4:=by rw [hi];exact i.ext
    clear hi i i0 i1
    have hb:=ext_blk x4 HB.out
    obtain ⟨p2,p3⟩:=two hb
    have y4:=y1.trans x4
    clear hb
    go_wp2
    have i0:=fun i:Later w4=>i.cell p2
    have i1:=fun i:Later w4=>i.cell p3
    clear p2 p3
    refine wp_region_later (by kernel_rfl) (by kernel_rfl) ?_
    repeat (go_big_quiet_step (first
     | (go_at_call 111;exact Later.calls (c5 _ (y4.trans (Later.ext _))))))
    refine wpQuiet_nil ?_
    rintro w5 ⟨i,hi⟩
    have x5:Ext w4 w5:=by rw [hi];exact i.ext
    clear hi i i0 i1
    go_wp2
    go_ret
    exact ⟨rfl,y4.trans x5⟩
   ·subst heq
    rw [if_pos rfl]
    have q0:((ch:Int) != (ch:Int))=false:=by simp
    clear hi
    go_enter Tryz.func56,Tryz.ntmps56
    go_wp2_with (go_at_call 106;refine (cI _).mono ?_;clear cI;rintro e w1 ⟨rfl,x1⟩;have hb:=ext_blk x1 (Blk.new w _ _);obtain ⟨p0,p1⟩:=two hb;have HB:=Lib.hid hb;clear hb)
    have y1:Ext w w1:=((Ext.refl w).alloc _).trans x1
    have i0:=fun i:Later w1=>i.cell p0
    have i1:=fun i:Later w1=>i.cell p1
    clear p0 p1
    refine wp_region_later (by kernel_rfl) (by kernel_rfl) ?_
    repeat (go_big_quiet_step (first
     | (go_at_call 109;exact Later.calls (c3 _))
     | (go_at_call 110;exact Later.calls (c2 _))
     | (go_at_call 108;exact Later.calls (c4 _))))
    refine wpQuiet_nil ?_
    rintro w4 ⟨i,hi⟩
    have x4:Ext w1 w4:=by rw [hi];exact i.ext
    clear hi i i0 i1
    have hb:=ext_blk x4 HB.out
    obtain ⟨p2,p3⟩:=two hb
    have y4:=y1.trans x4
    clear hb
    go_wp2
    have i0:=fun i:Later w4=>i.cell p2
    have i1:=fun i:Later w4=>i.cell p3
    clear p2 p3
    refine wp_region_later (by kernel_rfl) (by kernel_rfl) ?_
    repeat (go_big_quiet_step (first
     | (go_at_call 111;exact Later.calls (c5 _ (y4.trans (Later.ext _))))))
    refine wpQuiet_nil ?_
    rintro w5 ⟨i,hi⟩
    have x5:Ext w4 w5:=by rw [hi];exact i.ext
    clear hi i i0 i1
    go_wp2
    go_ret
    exact ⟨rfl,y4.trans x5⟩
