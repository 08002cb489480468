/- Parts of the proofs, put together: OrLit, Or35, Or36, OrT10, OrT11, OrT12, Or37, Or38, Or39. -/
import Derived.MapKept
import Derived.Test.YtbhdmfijdhcehaaGreatDoorP20
import Derived.Test.YtbhdmfijdhcehaaGreatDoorP21
import Derived.Test.YtbhdmfijdhcehaaGreatDoorP23
set_option maxRecDepth 100000
set_option maxHeartbeats 64000000
namespace Go.Proofs.YtbhdmfijdhcehaaGreatDoor
open Go.RowKit Go.Shelf Go.Maps
set_option linter.unusedSimpArgs false
set_option linter.unusedVariables false
section
variable {P:Program} {T K E:TypeId} {w:World} {m:Nat} {l:List (Int × Value)}
def LitM (w:World) (m:Nat) (l:List (Int × Value)):Prop:=∃ es n,w.heap[m]?=some (.map es n)∧es.toList.map (fun e=>(e.key,e.val))=l.map fun p=>(Value.int .i64 p.1,p.2)
theorem findNow_none (k:Int):∀ (es:List MapEntry) (l:List (Int × Value)) (i:Nat),es.map (fun e=>(e.key,e.val))=l.map (fun p=>(Value.int .i64 p.1,p.2))→(∀ p∈l,k≠p.1)→Instr.findNow (.int .i64) (.int .i64 k) es i=some none
 | [],l,i,h,_=>rfl
 | e :: es,[],i,h,_=>by simp at h
 | e :: es,p :: l,i,h,hk=>by
  simp only [List.map_cons,List.cons.injEq,Prod.mk.injEq] at h
  have:=findNow_none k es l (i+1) h.2 fun x hx=>hk x (by simp [hx])
  have h1:=hk p (by simp)
  unfold Instr.findNow
  rw [h.1.1]
  have h2:(k==p.1)=false:=by simp [h1]
  simp [Instr.sameNow,h2,this]
theorem findNow_some (k:Int) (v:Value):∀ (es:List MapEntry) (l:List (Int × Value)) (i:Nat),es.map (fun e=>(e.key,e.val))=l.map (fun p=>(Value.int .i64 p.1,p.2))→(l.find? fun p=>decide (k=p.1)).map (·.2)=some v→∃ j,Instr.findNow (.int .i64) (.int .i64 k) es i=some (some (j,v))
 | [],l,i,h,hk=>by
  cases l with
  | nil=>simp at hk
  | cons=>simp at h
 | e :: es,[],i,h,_=>by simp at h
 | e :: es,p :: l,i,h,hk=>by
  simp only [List.map_cons,List.cons.injEq,Prod.mk.injEq] at h
  unfold Instr.findNow
  rw [h.1.1]
  by_cases h1:k=p.1
  ·rw [List.find?_cons_of_pos (by simpa using h1)] at hk
   simp at hk
   exact ⟨i,by simp [Instr.sameNow,h1,h.1.2,hk]⟩
  ·rw [List.find?_cons_of_neg (by simpa using h1)] at hk
   obtain ⟨j,hj⟩:=findNow_some k v es l (i+1) h.2 hk
   have h2:(k==p.1)=false:=by simp [h1]
   exact ⟨j,by simp [Instr.sameNow,h2,hj]⟩
theorem LitM.new (w:World):LitM (w.alloc (.map #[] 0)) w.heap.size []:=⟨#[],0,heap_alloc_new w _,rfl⟩
theorem LitM.put (h:LitM w m l) (hT:P.underlying T=some (.map K E)) (hK:P.underlying K=some (.int .i64)) (k:Int) (v:Value) (hk:∀ p∈l,k≠p.1) :
  ∃ w',(Instr.mapUpdate T (.map (some m)) (.int .i64 k) v).run P w=.ok () w'∧LitM w' m (l++[(k,v)])∧w.grownBy w' (some m):=by
 obtain ⟨es,n,hb,he⟩:=h
 have h1:=findNow_none k es.toList l 0 he hk
 have hlt:m<w.heap.size:=(Array.getElem?_eq_some_iff.1 hb).1
 refine ⟨{ w with heap:=w.heap.setIfInBounds m (.map (es.push { key:=.int .i64 k,val:=v,born:=n }) (n+1)) },?_,⟨es.push { key:=.int .i64 k,val:=v,born:=n },n+1,(MapKept.heap_set hb).1,by simp [he]⟩,⟨rfl,rfl,rfl,by simp,fun k hk hr=>(MapKept.heap_set hb).2 k (by rintro rfl;exact hr rfl)⟩⟩
 simp [Instr.mapUpdate,run_underlying hT,MapKept.run_getObj_map hb,MapKept.run_checkKey hK (k:=.int .i64 k) rfl,MapKept.run_findKey hK h1,MapKept.run_setObj_map _ hb,Result.andThen]
theorem LitM.look (h:LitM w m l) (hT:P.underlying T=some (.map K E)) (hK:P.underlying K=some (.int .i64)) (k:Int) (v:Value) (hk:(l.find? fun p=>decide (k=p.1)).map (·.2)=some v) :
  (Instr.lookup T (.map (some m)) (.int .i64 k) false).run P w=.ok v w:=by
 obtain ⟨es,n,hb,he⟩:=h
 obtain ⟨j,h1⟩:=findNow_some k v es.toList l 0 he hk
 simp [Instr.lookup,run_underlying hT,MapKept.run_getObj_map hb,MapKept.run_checkKey hK (k:=.int .i64 k) rfl,MapKept.run_findKey hK h1,Result.andThen]
end
theorem boxes3 (w:World) (x y z:Array Value) (T U V:TypeId):∃ W,((w.alloc (.cells x T)).alloc (.cells y U)).alloc (.cells z V)=W∧Blk W w.heap.size T x∧Blk W (w.heap.size+1) U y∧Blk W (w.heap.size+2) V z∧Ext w W∧W.heap.size=w.heap.size+3:=by
 refine ⟨_,rfl,((Blk.new w T x).alloc _).alloc _,?_,?_,(((Ext.refl w).alloc _).alloc _).alloc _,by simp⟩
 ·have:=(Blk.new (w.alloc (.cells x T)) U y).alloc (.cells z V)
  rwa [World.size_alloc] at this
 ·have:=Blk.new ((w.alloc (.cells x T)).alloc (.cells y U)) V z
  rwa [World.size_alloc,World.size_alloc] at this
theorem joins_enters:Enters Tryz.prog 49:=enters_of Tryz.func49 (by kernel_rfl) rfl
theorem wants_enters:Enters Tryz.prog 50:=enters_of Tryz.func50 (by kernel_rfl) rfl
theorem looks_enters:Enters Tryz.prog 51:=enters_of Tryz.func51 (by kernel_rfl) rfl
theorem issues_enters:Enters Tryz.prog 52:=enters_of Tryz.func52 (by kernel_rfl) rfl
theorem revokes_enters:Enters Tryz.prog 53:=enters_of Tryz.func53 (by kernel_rfl) rfl
def kindsL:List (Int × Value):=[(1,.func (.func 49) #[] #[]),(2,.func (.func 50) #[] #[]),(3,.func (.func 51) #[] #[]),(4,.func (.func 52) #[] #[]),(5,.func (.func 53) #[] #[])]
theorem meth_any (B:Nat) (d:DoorX) (now:Int) (q:QueR) (A:Option Addr) (c:Nat) (hk:1≤q.kind∧q.kind≤5):∃ F,Enters Tryz.prog F∧(kindsL.find? fun p=>decide (q.kind=p.1)).map (·.2)=some (.func (.func F) #[] #[]) ∧
  ∀ w:World,DoorW w w.heap.size d→DoorL (fun k=>k≠B) d→DoorB w B d now→QueW w w.heap.size q A c→Lies (fun k=>k≠B) A q.names.length→0≤q.acc∧q.acc<100→d.auts.length+q.names.length<99→d.ords.length<100→d.accs.length<100→(∀ x∈d.ords,∀ s∈x.o.auths,1≤s∧s≤d.auts.length) →
   Calls Tryz.prog F #[.pointer (some ⟨B,0,none⟩),queV q A c] w (methPost B d now (stepF d.fro q now) w):=by
 obtain ⟨qk,qa,qn,qy,qs,ql,qi,qe,qss⟩:=q
 simp only at hk
 have hk5:qk=1∨qk=2∨qk=3∨qk=4∨qk=5:=by omega
 rcases hk5 with rfl|rfl|rfl|rfl|rfl
 ·exact ⟨_,joins_enters,rfl,fun w h1 h2 h3 h4 h5 h6 h7 h8 h9 h10=>joins_any B d now _ A c w h1 h2 h3 h4.key h9⟩
 ·exact ⟨_,wants_enters,rfl,fun w h1 h2 h3 h4 h5 h6 h7 h8 h9 h10=>wants_any B d now _ A c w h1 h2 h3 h4 h5 h6 h7 h8⟩
 ·exact ⟨_,looks_enters,rfl,fun w h1 h2 h3 h4 h5 h6 h7 h8 h9 h10=>looks_any B d now _ A c w h1 h2 h3⟩
 ·exact ⟨_,issues_enters,rfl,fun w h1 h2 h3 h4 h5 h6 h7 h8 h9 h10=>issues_any B d now _ A c w h1 h2 h3 h10⟩
 ·exact ⟨_,revokes_enters,rfl,fun w h1 h2 h3 h4 h5 h6 h7 h8 h9 h10=>revokes_any B d now _ A c w h1 h3⟩
theorem kinds_laid (W:World):∃ w1 w2 w3 w4 w5:World,
  (Instr.mapUpdate 98 (.map (some W.heap.size)) (.int .i64 1) (.func (.func 49) #[] #[])).run Tryz.prog (W.alloc (.map #[] 0))=.ok () w1 ∧
  (Instr.mapUpdate 98 (.map (some W.heap.size)) (.int .i64 2) (.func (.func 50) #[] #[])).run Tryz.prog w1=.ok () w2 ∧
  (Instr.mapUpdate 98 (.map (some W.heap.size)) (.int .i64 3) (.func (.func 51) #[] #[])).run Tryz.prog w2=.ok () w3 ∧
  (Instr.mapUpdate 98 (.map (some W.heap.size)) (.int .i64 4) (.func (.func 52) #[] #[])).run Tryz.prog w3=.ok () w4 ∧
  (Instr.mapUpdate 98 (.map (some W.heap.size)) (.int .i64 5) (.func (.func 53) #[] #[])).run Tryz.prog w4=.ok () w5 ∧
  LitM w5 W.heap.size kindsL∧Ext W w5:=by
 have hT:=Tryz.underlying98
 have hK:=Tryz.underlying3
 obtain ⟨w1,r1,l1,g1⟩:=(LitM.new W).put hT hK 1 (.func (.func 49) #[] #[]) (by simp)
 obtain ⟨w2,r2,l2,g2⟩:=l1.put hT hK 2 (.func (.func 50) #[] #[]) (by simp)
 obtain ⟨w3,r3,l3,g3⟩:=l2.put hT hK 3 (.func (.func 51) #[] #[]) (by simp)
 obtain ⟨w4,r4,l4,g4⟩:=l3.put hT hK 4 (.func (.func 52) #[] #[]) (by simp)
 obtain ⟨w5,r5,l5,g5⟩:=l4.put hT hK 5 (.func (.func 53) #[] #[]) (by simp)
 refine ⟨w1,w2,w3,w4,w5,r1,r2,r3,r4,r5,l5,?_⟩
 have hG:=(((g1.trans g2).trans g3).trans g4).trans g5
 exact Ext.of (((Below.refl _ W).alloc (Nat.le_refl _) _).grown hG (by simp) (fun k hk=>by cases hk;exact Nat.le_refl _))
theorem auths_in {d:DoorX} (h:chkF d.fro=0):∀ x∈d.ords,∀ s∈x.o.auths,1≤s∧s≤d.auts.length:=by
 intro x hx s hs
 have hp:=((chkF_zero.1 h).1).2.2.2.2.1
 obtain ⟨i,hi,rfl⟩:=List.getElem_of_mem hx
 have h1:=(hp i (by rw [dfro_ords,List.length_map];exact hi)).1
 obtain ⟨j,hj,rfl⟩:=List.getElem_of_mem hs
 have e:d.fro.ords[i]'(by rw [dfro_ords,List.length_map];exact hi)=d.ords[i].o:=by simp [dfro_ords]
 rw [e] at h1
 obtain ⟨_,_,_,_,_,_,_,hl,hh⟩:=h1
 have:=hh j hj (by omega)
 exact ⟨this.1,this.2.1⟩
theorem byteL_lt (q:QueR):∀ x∈byteL q,x<256:=by
 have h8:∀ (k n:Nat),∀ x∈bigD k n,x<256:=by
  intro k
  induction k with
  | zero=>intro n x hx;simp [bigD] at hx
  | succ k ih=>intro n x hx;simp only [bigD,List.mem_append,List.mem_singleton] at hx;rcases hx with hx|rfl;exact ih _ _ hx;omega
 have hN:∀ l:List ByteArray,∀ x∈namesB l,x<256:=by
  intro l
  induction l with
  | nil=>intro x hx;simp [namesB] at hx
  | cons s l ih =>
   intro x hx
   simp only [namesB,List.mem_append] at hx
   rcases hx with (hx|hx)|hx
   ·exact h8 _ _ x hx
   ·exact strN_lt s x hx
   ·exact ih x hx
 intro x hx
 unfold byteL eightI at hx
 simp only [List.mem_append] at hx
 rcases hx with ((((((hx|hx)|hx)|hx)|hx)|hx)|hx)|hx
 all_goals first|exact h8 _ _ x hx|exact hN _ x hx
theorem byteL_len {q:QueR} (h:byteE q=0):(byteL q).length≤1000:=by
 unfold byteE at h
 split at h
 ·next hh =>
  have:=namesB_len hh.2
  have h3:=hh.1.2.2.1
  unfold byteL
  simp only [List.length_append,eight_length]
  omega
 ·cases h
theorem byteE_head {q:QueR} (h:byteE q=0):headP q:=by
 unfold byteE at h
 split at h
 ·next hh=>exact hh.1
 ·cases h
theorem doF_1 {sg:Nat→List Nat→Nat→Nat→Nat} {f:FroR} {q:QueR} {now:Int} {E:Nat} (h:chkF f=E) (h0:E≠0):doF sg f q now=bad E:=by unfold doF;rw [if_pos (by rw [h];exact h0),h]
theorem doF_2 {sg:Nat→List Nat→Nat→Nat→Nat} {f:FroR} {q:QueR} {now:Int} (h:chkF f=0) (h1:byteE q≠0∨¬ numP now∨¬ fitsP q):doF sg f q now=bad 1:=by unfold doF;rw [if_neg (by rw [h];simp),if_pos h1]
theorem doF_3 {sg:Nat→List Nat→Nat→Nat→Nat} {f:FroR} {q:QueR} {now:Int} (h:chkF f=0) (h1:¬ (byteE q≠0∨¬ numP now∨¬ fitsP q)) {E:Nat} (h2:useE f.next f.opn q.nonce now=E) (h0:E≠0):doF sg f q now=bad E:=by unfold doF;rw [if_neg (by rw [h];simp),if_neg h1,if_pos (by rw [h2];exact h0),h2]
theorem doF_4 {sg:Nat→List Nat→Nat→Nat→Nat} {f:FroR} {q:QueR} {now:Int} (h:chkF f=0) (h1:¬ (byteE q≠0∨¬ numP now∨¬ fitsP q)) (h2:useE f.next f.opn q.nonce now=0) (h3:keyF f q=none):doF sg f q now=bad 220:=by unfold doF;rw [if_neg (by rw [h];simp),if_neg h1,if_neg (by rw [h2];simp),h3]
theorem doF_5 {sg:Nat→List Nat→Nat→Nat→Nat} {f:FroR} {q:QueR} {now:Int} (h:chkF f=0) (h1:¬ (byteE q≠0∨¬ numP now∨¬ fitsP q)) (h2:useE f.next f.opn q.nonce now=0) {k:Nat} (h3:keyF f q=some k) {E:Nat} (h4:sg k (byteL q) q.e q.s=E) (h0:E≠0):doF sg f q now=bad E:=by unfold doF;rw [if_neg (by rw [h];simp),if_neg h1,if_neg (by rw [h2];simp),h3];simp only;rw [if_pos (by rw [h4];exact h0),h4]
theorem doF_6 {sg:Nat→List Nat→Nat→Nat→Nat} {f:FroR} {q:QueR} {now:Int} (h:chkF f=0) (h1:¬ (byteE q≠0∨¬ numP now∨¬ fitsP q)) (h2:useE f.next f.opn q.nonce now=0) {k:Nat} (h3:keyF f q=some k) (h4:sg k (byteL q) q.e q.s=0):doF sg f q now=stepF { f with opn:=useL f.opn q.nonce } q now:=by unfold doF;rw [if_neg (by rw [h];simp),if_neg h1,if_neg (by rw [h2];simp),h3];simp only;rw [if_neg (by rw [h4];simp)]
theorem use_parts {next:Int} {l:List NonR} {n now nx:Int} {op:List NonR} {ue:Nat} (h:useF next l n now=(nx,op,ue)):useE next l n now=ue∧(ue=0→nx=next∧op=useL l n):=by
 unfold useF at h
 split at h
 ·next h0=>cases h;exact ⟨h0,fun _=>⟨rfl,rfl⟩⟩
 ·next h0=>cases h;exact ⟨rfl,fun e=>absurd e h0⟩
theorem grown6 (w:World) (g:Nat) (a b c d e f:Value):w.grownBy ((((((w.setCell ⟨g,0,none⟩ a).setCell ⟨g,1,none⟩ b).setCell ⟨g,2,none⟩ c).setCell ⟨g,3,none⟩ d).setCell ⟨g,4,none⟩ e).setCell ⟨g,5,none⟩ f) (some g) :=
 (((((grown_set _ _ _ _).trans (grown_set _ _ _ _)).trans (grown_set _ _ _ _)).trans (grown_set _ _ _ _)).trans (grown_set _ _ _ _)).trans (grown_set _ _ _ _)
theorem ne_beq {E:Nat} (h:E≠0):((E:Int) != 0)=true:=by simp;omega
theorem oDo_any (d:DoorX) (q:QueR) (A:Option Addr) (c:Nat) (now:Int) (w:World) (hw:DoorW w w.heap.size d) (hq:QueW w w.heap.size q A c) (hu9:d.auts.length+8<99) (ha9:d.accs.length<100) (ho9:d.ords.length<100) :
  Calls Tryz.prog 18 #[frontV d,queV q A c,.int .i64 now] w (outD d (doF checkN d.fro q now) w):=by
 obtain ⟨W0,e0,b0,b1,b2,x0,s0⟩:=boxes3 w #[.int .i64 d.next,.slice d.oA d.opn.length d.oc,.slice d.cA d.accs.length d.cc,.slice d.uA d.auts.length d.uc,.slice d.rA d.ords.length d.rc,.int .i64 d.ser] #[.int .i64 q.kind,.int .i64 q.acc,.int .i64 q.nonce,.int .u64 (q.key:Int),.slice A q.names.length c,.int .i64 q.life,.int .i64 q.id,.int .u64 (q.e:Int),.int .u64 (q.s:Int)] #[.int .i64 0,.slice none 0 0,.slice none 0 0,.slice none 0 0,.slice none 0 0,.int .i64 0] 43 27 43
 have cC:=oCheck_any d (by omega) ha9 W0 (hw.ext x0)
 have cB:=fun W (h:Ext W0 W)=>oBytes_any q A c W (hq.ext (x0.trans h))
 have cN:=onum_any now
 have cF:=fun W (h:Ext W0 W)=>qfits_any q A c W (hq.ext (x0.trans h))
 obtain ⟨E,hE⟩:∃ E,chkF d.fro=E:=⟨_,rfl⟩
 rw [hE] at cC
 have HW:=Lib.hid hw
 have HQ:=Lib.hid hq
 have HB0:=Lib.hid b0
 have HB1:=Lib.hid b1
 have HB2:=Lib.hid b2
 have HX0:=Lib.hid x0
 have HS0:=Lib.hid s0
 have HE:=Lib.hid hE
 have HU9:=Lib.hid hu9
 have HA9:=Lib.hid ha9
 have HO9:=Lib.hid ho9
 obtain ⟨m0,m1,m2,m3,m4,m5⟩:=arr6f b0
 unfold frontV at cC ⊢
 unfold queV at cB cF ⊢
 clear b0 b1 b2 x0 s0 hw hq hE hu9 ha9 ho9
 have hmm:=@run_makeMap Tryz.prog
 go_enter Tryz.func18,Tryz.ntmps18
 go_upto_region 1 with (fail)
 try rw [e0]
 clear e0
 by_cases h0:E=0
 case neg =>
  have HR:=Lib.hid (doF_1 (sg:=checkN) (q:=q) (now:=now) HE.out h0)
  have k0:=ne_beq h0
  clear h0 cB cN cF
  go_wp2_with (go_at_call 21;refine cC.mono ?_;clear cC m0 m1 m2 m3 m4 m5;rintro e w1 ⟨rfl,x1⟩;have b2:=ext_blk (x1) HB2.out;obtain ⟨q0,q1,q2,q3,q4,q5,f0,f1,f2,f3,f4,f5⟩:=st6 b2;have BB:=Lib.hid (blk6 b2 (.int .i64 0) (.slice none 0 0) (.slice none 0 0) (.slice none 0 0) (.slice none 0 0) (.int .i64 0));clear b2)
  rw [HR.out]
  obtain ⟨r0,r1,r2,r3,r4,r5⟩:=arr6f BB.out
  refine bodyPost_ret (v:=.tuple #[.agg #[.int .i64 0,.slice none 0 0,.slice none 0 0,.slice none 0 0,.slice none 0 0,.int .i64 0],.int .i64 0,.int .i64 (E:Int)]) (by simp [results,Tryz.results18,go_sem,r0,r1,r2,r3,r4,r5]) rfl (outD_bad rfl (ext6 (HX0.out.trans (x1)) (by omega) _ _ _ _ _ _))
 subst h0
 go_upto_region 4 with (go_at_call 21;refine cC.mono ?_;clear cC m0 m1 m2 m3 m4 m5;rintro e w1 ⟨rfl,x1⟩;have HX1:=Lib.hid x1)
 obtain ⟨k0,k1,k2,k3,k4,k5,k6,k7,k8⟩:=arr9 (ext_blk x1 HB1.out)
 have cB:=cB w1 x1
 clear x1
 obtain ⟨BE,hBE⟩:∃ B,byteE q=B:=⟨_,rfl⟩
 unfold bytPost at cB
 rw [hBE] at cB
 have HBE:=Lib.hid hBE
 clear hBE
 go_upto_region 5 with (go_at_call 14;refine cB.mono ?_;clear cB k0 k1 k2 k3 k4 k5 k6 k7 k8;rintro e w2 ⟨bv0,rfl,ho2,x2⟩;have HX2:=Lib.hid (HX1.out.trans x2);have HY2:=Lib.hid x2;have HO2:=Lib.hid ho2;clear ho2 x2)
 by_cases hb:BE=0
 case neg =>
  have HR:=Lib.hid (doF_2 (sg:=checkN) (f:=d.fro) (q:=q) (now:=now) HE.out (.inl (by rw [HBE.out];exact hb)))
  have k0:=ne_beq hb
  clear hb cN cF
  have b2:=ext_blk (HX2.out) HB2.out;obtain ⟨q0,q1,q2,q3,q4,q5,f0,f1,f2,f3,f4,f5⟩:=st6 b2;have BB:=Lib.hid (blk6 b2 (.int .i64 0) (.slice none 0 0) (.slice none 0 0) (.slice none 0 0) (.slice none 0 0) (.int .i64 0));clear b2
  go_wp2
  rw [HR.out]
  obtain ⟨r0,r1,r2,r3,r4,r5⟩:=arr6f BB.out
  refine bodyPost_ret (v:=.tuple #[.agg #[.int .i64 0,.slice none 0 0,.slice none 0 0,.slice none 0 0,.slice none 0 0,.int .i64 0],.int .i64 0,.int .i64 1]) (by simp [results,Tryz.results18,go_sem,r0,r1,r2,r3,r4,r5]) rfl (outD_bad rfl (ext6 (HX0.out.trans (HX2.out)) (by omega) _ _ _ _ _ _))
 subst hb
 by_cases hn:numP now
 case neg =>
  have HR:=Lib.hid (doF_2 (sg:=checkN) (f:=d.fro) (q:=q) (now:=now) HE.out (.inr (.inl hn)))
  rw [show decide (numP now)=false from decide_eq_false hn] at cN
  clear hn cF
  have b2:=ext_blk (HX2.out) HB2.out;obtain ⟨q0,q1,q2,q3,q4,q5,f0,f1,f2,f3,f4,f5⟩:=st6 b2;have BB:=Lib.hid (blk6 b2 (.int .i64 0) (.slice none 0 0) (.slice none 0 0) (.slice none 0 0) (.slice none 0 0) (.int .i64 0));clear b2
  go_wp2_with (go_at_call 42;refine (cN _).mono ?_;clear cN;rintro e w3 ⟨rfl,rfl⟩)
  rw [HR.out]
  obtain ⟨r0,r1,r2,r3,r4,r5⟩:=arr6f BB.out
  refine bodyPost_ret (v:=.tuple #[.agg #[.int .i64 0,.slice none 0 0,.slice none 0 0,.slice none 0 0,.slice none 0 0,.int .i64 0],.int .i64 0,.int .i64 1]) (by simp [results,Tryz.results18,go_sem,r0,r1,r2,r3,r4,r5]) rfl (outD_bad rfl (ext6 (HX0.out.trans (HX2.out)) (by omega) _ _ _ _ _ _))
 rw [show decide (numP now)=true from decide_eq_true hn] at cN
 obtain ⟨k0,k1,k2,k3,k4,k5,k6,k7,k8⟩:=arr9 (ext_blk HX2.out HB1.out)
 have cF:=cF w2 HX2.out
 by_cases hf:fitsP q
 case neg =>
  have HR:=Lib.hid (doF_2 (sg:=checkN) (f:=d.fro) (q:=q) (now:=now) HE.out (.inr (.inr hf)))
  rw [show decide (fitsP q)=false from decide_eq_false hf] at cF
  clear hn hf
  go_wp2_with (first|(go_at_call 42;refine (cN _).mono ?_;clear cN;rintro e w3 ⟨rfl,rfl⟩)|(go_at_call 45;refine cF.mono ?_;clear cF k0 k1 k2 k3 k4 k5 k6 k7 k8;rintro e w3 ⟨rfl,x3⟩;have b2:=ext_blk (HX2.out.trans x3) HB2.out;obtain ⟨q0,q1,q2,q3,q4,q5,f0,f1,f2,f3,f4,f5⟩:=st6 b2;have BB:=Lib.hid (blk6 b2 (.int .i64 0) (.slice none 0 0) (.slice none 0 0) (.slice none 0 0) (.slice none 0 0) (.int .i64 0));clear b2))
  rw [HR.out]
  obtain ⟨r0,r1,r2,r3,r4,r5⟩:=arr6f BB.out
  refine bodyPost_ret (v:=.tuple #[.agg #[.int .i64 0,.slice none 0 0,.slice none 0 0,.slice none 0 0,.slice none 0 0,.int .i64 0],.int .i64 0,.int .i64 1]) (by simp [results,Tryz.results18,go_sem,r0,r1,r2,r3,r4,r5]) rfl (outD_bad rfl (ext6 (HX0.out.trans (HX2.out.trans x3)) (by omega) _ _ _ _ _ _))
 rw [show decide (fitsP q)=true from decide_eq_true hf] at cF
 have HOK:=Lib.hid (show ¬ (byteE q≠0∨¬ numP now∨¬ fitsP q) by rw [HBE.out];simp [hn,hf])
 have HN:=Lib.hid hn
 have HF:=Lib.hid hf
 have HH:=Lib.hid (byteE_head HBE.out)
 clear hn hf
 go_upto_region 7 with (first|(go_at_call 42;refine (cN _).mono ?_;clear cN;rintro e w3 ⟨rfl,rfl⟩)|(go_at_call 45;refine cF.mono ?_;clear cF k0 k1 k2 k3 k4 k5 k6 k7 k8;rintro e w3 ⟨rfl,x3⟩))
 have HX3:=Lib.hid (HX2.out.trans x3)
 have HO3:=Lib.hid (own_ext HO2.out x3)
 have HS3:Hid (w1.heap.size≤w3.heap.size):=Lib.hid (Nat.le_trans HY2.out.size x3.size)
 clear HO2 x3
 obtain ⟨m0,m1,m2,m3,m4,m5⟩:=arr6f (ext_blk HX3.out HB0.out)
 go_upto_region 8 with (fail)
 clear m0 m1 m2 m3 m4 m5
 obtain ⟨W4,e4⟩:∃ W,w3.alloc (.cells #[.int .i64 d.next,.slice d.oA d.opn.length d.oc,.slice d.cA d.accs.length d.cc,.slice d.uA d.auts.length d.uc,.slice d.rA d.ords.length d.rc,.int .i64 d.ser,.int .i64 now] 92)=W:=⟨_,rfl⟩
 try rw [e4]
 have HX4:Hid (Ext W0 W4):=Lib.hid (by rw [← e4];exact HX3.out.alloc _)
 have HY4:Hid (Ext w3 W4):=Lib.hid (by rw [← e4];exact (Ext.refl w3).alloc _)
 have HD4:Hid (DoorB W4 w3.heap.size d now):=Lib.hid (by rw [← e4];exact Blk.new _ _ _)
 clear e4
 obtain ⟨B,hB⟩:∃ B,B=w3.heap.size:=⟨_,rfl⟩
 rw [← hB] at HD4
 try rw [← hB]
 have HBB:=Lib.hid hB
 clear hB
 have hnq:numP q.nonce:=HH.out.2.2.2.2.1
 have cU:=Use_any d.next d.opn d.oA d.oc q.nonce now hnq W4 (HW.out.non.ext (HX0.out.trans HX4.out))
 obtain ⟨r,hr⟩:∃ r,useF d.next d.opn q.nonce now=r:=⟨_,rfl⟩
 have HFE:Hid (fenN r.1 r.2.1=0):=Lib.hid (by rw [← hr];exact fenN_use)
 rw [hr] at cU
 obtain ⟨nx,op,ue⟩:=r
 have HUF:=Lib.hid hr
 unfold usePost fenV at cU
 simp only at cU HFE
 have m0:=(ext_blk HX4.out HB0.out).cell 0
 have m1:=(ext_blk HX4.out HB0.out).cell 1
 have k2:=(ext_blk HX4.out HB1.out).cell 2
 clear hr hnq
 go_upto_region 9 with (go_at_call 46;refine cU.mono ?_;clear cU m0 m1 k2;rintro e w5 ⟨A5,c5,rfl,ho5,x5⟩;have HX5:=Lib.hid (HX4.out.trans x5);have HZ5:=Lib.hid x5.size;have HT5:=Lib.hid x5;have HD5:=Lib.hid (DoorB.ext HD4.out x5);have n0:=Blk.frozen (DoorB.ext HD4.out x5) 0;have n1:=Blk.frozen (DoorB.ext HD4.out x5) 1;have p0:=Blk.cell (DoorB.ext HD4.out x5) 0;have p1:=Blk.cell (DoorB.ext HD4.out x5) 1;have HO5:=Lib.hid ho5;clear ho5 x5)
 obtain ⟨W6,e6⟩:∃ W,W=(w5.setCell ⟨B,0,none⟩ (.int .i64 nx)).setCell ⟨B,1,none⟩ (.slice A5 op.length c5):=⟨_,rfl⟩
 have HX6:Hid (Ext W0 W6):=Lib.hid (by
  have hB:W0.heap.size≤B:=by rw [HBB.out];exact HX3.out.size
  rw [e6]
  exact (HX5.out.setCell (p:=⟨B,0,none⟩) hB _).setCell (p:=⟨B,1,none⟩) hB _)
 have HD6:Hid (DoorB W6 B (withN d nx op A5 c5) now):=Lib.hid (by rw [e6];exact (Blk.set_ HD5.out 0 _).set_ 1 _)
 have HO6:Hid (W6.ownsRow W4.heap.size 102 2 (.slice A5 op.length c5) op.length (nonV op)):=Lib.hid (by
  have hB:B<W4.heap.size:=Blk.lt HD4.out
  rw [e6];exact own_far (own_far HO5.out hB 0 _) hB 1 _)
 have HY6:Hid (Ext w3 W6):=Lib.hid (by
  have hB:w3.heap.size≤B:=by rw [HBB.out];exact Nat.le_refl _
  rw [e6]
  exact ((HY4.out.trans HT5.out).setCell (p:=⟨B,0,none⟩) hB _).setCell (p:=⟨B,1,none⟩) hB _)
 have HS6:Hid (W4.heap.size≤W6.heap.size∧W0.heap.size≤B∧B<W4.heap.size):=Lib.hid ⟨(by
  rw [e6]
  exact Nat.le_trans HZ5.out (by simp)),(by rw [HBB.out];exact HX3.out.size),Blk.lt HD4.out⟩
 try rw [← e6]
 clear e6 n0 n1 p0 p1 HD5 HO5
 have HUE:=Lib.hid (use_parts HUF.out)
 by_cases hue:ue=0
 case neg =>
  have HR:=Lib.hid (doF_3 (sg:=checkN) (f:=d.fro) HE.out HOK.out HUE.out.1 hue)
  have k0:=ne_beq hue
  clear hue
  have b2:=ext_blk (HX6.out) HB2.out;obtain ⟨q0,q1,q2,q3,q4,q5,f0,f1,f2,f3,f4,f5⟩:=st6 b2;have BB:=Lib.hid (blk6 b2 (.int .i64 0) (.slice none 0 0) (.slice none 0 0) (.slice none 0 0) (.slice none 0 0) (.int .i64 0));clear b2
  go_wp2
  rw [HR.out]
  obtain ⟨r0,r1,r2,r3,r4,r5⟩:=arr6f BB.out
  refine bodyPost_ret (v:=.tuple #[.agg #[.int .i64 0,.slice none 0 0,.slice none 0 0,.slice none 0 0,.slice none 0 0,.int .i64 0],.int .i64 0,.int .i64 (ue:Int)]) (by simp [results,Tryz.results18,go_sem,r0,r1,r2,r3,r4,r5]) rfl (outD_bad rfl (ext6 (HX0.out.trans (HX6.out)) (by omega) _ _ _ _ _ _))
 subst hue
 obtain ⟨hu0,hu1⟩:=HUE.out
 obtain ⟨rfl,rfl⟩:=hu1 rfl
 have HU0:=Lib.hid hu0
 clear hu0 hu1 HUE
 obtain ⟨k0,k1,k2,k3,k4,k5,k6,k7,k8⟩:=arr9 (ext_blk HX6.out HB1.out)
 go_upto_if 62 with (fail)
 go_cut [11] (fun s11 wx=>∃ k:Nat,s11=.int .u64 (k:Int)∧keyF d.fro q=some k∧k<18446744073709551616∧(0≤q.acc∧q.acc<100)∧Ext W6 wx)
 case first =>
  by_cases hk:q.kind=1
  ·have e1:(q.kind != 1)=false:=by simp [hk]
   have HK:=Lib.hid hk
   clear hk
   go_wp2
   go_meet
   have hf:=HF.out
   unfold fitsP at hf
   rw [if_pos HK.out] at hf
   exact ⟨q.key,rfl,by unfold keyF;rw [if_pos HK.out],HQ.out.key,⟨by omega,by omega⟩,Ext.refl _⟩
  ·have e1:(q.kind != 1)=true:=by simp [hk]
   have cA:Calls Tryz.prog 47 #[.pointer (some ⟨B,0,none⟩),.int .i64 q.acc] W6 fun e w'=>e=.returned (.bool (decide (1≤q.acc∧q.acc≤d.accs.length)))∧W6=w':=hasAcc_any B (withN d d.next (useL d.opn q.nonce) A5 c5) now q.acc W6 HD6.out
   by_cases ha:1≤q.acc∧q.acc≤(d.accs.length:Int)
   case neg =>
    have hkn:keyF d.fro q=none:=by
     unfold keyF
     rw [if_neg hk]
     by_cases h1:q.acc<1
     ·rw [if_pos h1]
     ·rw [if_neg h1,show d.fro.accs=d.accs from rfl,List.getElem?_eq_none (by omega)];rfl
    have HR:=Lib.hid (doF_4 (sg:=checkN) (f:=d.fro) HE.out HOK.out HU0.out hkn)
    rw [decide_eq_false ha] at cA
    clear ha hk hkn
    have b2:=ext_blk (HX6.out) HB2.out;obtain ⟨q0,q1,q2,q3,q4,q5,f0,f1,f2,f3,f4,f5⟩:=st6 b2;have BB:=Lib.hid (blk6 b2 (.int .i64 0) (.slice none 0 0) (.slice none 0 0) (.slice none 0 0) (.slice none 0 0) (.int .i64 0));clear b2
    go_wp2_with (go_at_call 47;refine cA.mono ?_;clear cA;rintro e w7 ⟨rfl,rfl⟩)
    rw [HR.out]
    obtain ⟨r0,r1,r2,r3,r4,r5⟩:=arr6f BB.out
    refine bodyPost_ret (v:=.tuple #[.agg #[.int .i64 0,.slice none 0 0,.slice none 0 0,.slice none 0 0,.slice none 0 0,.int .i64 0],.int .i64 0,.int .i64 220]) (by simp [results,Tryz.results18,go_sem,r0,r1,r2,r3,r4,r5]) rfl (outD_bad rfl (ext6 (HX0.out.trans (HX6.out)) (by omega) _ _ _ _ _ _))
   rw [decide_eq_true ha] at cA
   obtain ⟨a,hqa⟩:∃ a:Nat,q.acc=(a:Int)+1:=⟨(q.acc-1).toNat,by omega⟩
   obtain ⟨x,hx⟩:∃ x,d.accs[a]?=some x:=⟨_,List.getElem?_eq_getElem (by omega)⟩
   obtain ⟨ad,hA,hlt,r0,r1⟩:=reads_acc (HW.out.ext (HX0.out.trans HX6.out)).acc hx
   have a2:W6.cell? ⟨B,2,none⟩=some (.slice d.cA d.accs.length d.cc):=HD6.out.cell 2
   rw [hA] at a2
   have hal:(a:Int)<(d.accs.length:Int):=by omega
   have hab:(a:Int)<100:=by have:=HA9.out;omega
   have e2:IntKind.i64.wrap ((a:Int)+1-1)=(a:Int):=by rw [IntKind.wrap_i64];omega
   have hkk:Hid (keyF d.fro q=some x.key):=Lib.hid (by
    unfold keyF
    rw [if_neg hk,if_neg (by omega),show d.fro.accs=d.accs from rfl,show q.acc.toNat-1=a by omega,hx];rfl)
   have hxk:Hid (x.key<18446744073709551616):=Lib.hid (HW.out.cw x (List.mem_of_getElem? hx)).2
   rw [hqa] at k1 cA
   have HQA:=Lib.hid hqa
   have HAB:Hid ((a:Int)+1<100):=Lib.hid (by have:=HA9.out;omega)
   clear hk ha hqa hx hA hlt r0
   go_upto_region 15 with (go_at_call 47;refine cA.mono ?_;clear cA;rintro e w7 ⟨rfl,rfl⟩)
   have j0:=fun i:Later W6=>i.cell k1
   have j1:=fun i:Later W6=>i.cell a2
   have j2:=fun i:Later W6=>i.cell r1
   clear k0 k1 k2 k3 k4 k5 k6 k7 k8 a2 r1
   refine wp_region_later (by kernel_rfl) (by kernel_rfl) ?_
   repeat (go_big_quiet_step ((fail)))
   refine wpQuiet_nil ?_
   rintro W7 ⟨i,hi⟩
   have x7:Hid (Ext W6 W7):=Lib.hid (by rw [hi];exact i.ext)
   clear hi i j0 j1 j2
   go_wp2
   go_meet
   exact ⟨x.key,rfl,hkk.out,hxk.out,by have:=HQA.out;have:=HAB.out;omega,x7.out⟩
 case rest =>
  obtain ⟨k,rfl,hkey,hk64,hacc,x7⟩:=hcut
  have HX7:=Lib.hid (HX6.out.trans x7)
  have HD7:=Lib.hid (DoorB.ext HD6.out x7)
  have HO7:=Lib.hid (own_ext HO6.out x7)
  have HY7:=Lib.hid x7
  have hbr:bytR q=byteL q:=by unfold bytR;rw [HBE.out];rfl
  rw [hbr] at HO3
  obtain ⟨bA,bc,rfl,hbc,-⟩:=own_slice2 HO3.out
  obtain ⟨E3,hE3⟩:∃ E,checkN k (byteL q) q.e q.s=E:=⟨_,rfl⟩
  have HO37:=own_ext HO3.out (HY6.out.trans HY7.out)
  have cS:=Check_any k hk64 q.e q.s HQ.out.e HQ.out.s (byteL q) (byteL_lt q) (byteL_len HBE.out) bA bc hbc wc (Reads.of_own HO37)
  rw [hE3] at cS
  have HE3:=Lib.hid hE3
  have HKEY:=Lib.hid hkey
  have HACC:=Lib.hid hacc
  obtain ⟨k0,k1,k2,k3,k4,k5,k6,k7,k8⟩:=arr9 (ext_blk HX7.out HB1.out)
  clear hkey hk64 hacc x7 hbr hbc hE3 HO37
  by_cases h3:E3=0
  case neg =>
   have HR:=Lib.hid (doF_5 (sg:=checkN) (f:=d.fro) HE.out HOK.out HU0.out HKEY.out HE3.out h3)
   have kk:=ne_beq h3
   clear h3
   go_wp2_with (go_at_call 48;refine cS.mono ?_;clear cS k0 k1 k2 k3 k4 k5 k6 k7 k8;rintro e w8 ⟨rfl,x8⟩;have b2:=ext_blk (HX7.out.trans x8) HB2.out;obtain ⟨q0,q1,q2,q3,q4,q5,f0,f1,f2,f3,f4,f5⟩:=st6 b2;have BB:=Lib.hid (blk6 b2 (.int .i64 0) (.slice none 0 0) (.slice none 0 0) (.slice none 0 0) (.slice none 0 0) (.int .i64 0));clear b2)
   rw [HR.out]
   obtain ⟨r0,r1,r2,r3,r4,r5⟩:=arr6f BB.out
   refine bodyPost_ret (v:=.tuple #[.agg #[.int .i64 0,.slice none 0 0,.slice none 0 0,.slice none 0 0,.slice none 0 0,.int .i64 0],.int .i64 0,.int .i64 (E3:Int)]) (by simp [results,Tryz.results18,go_sem,r0,r1,r2,r3,r4,r5]) rfl (outD_bad rfl (ext6 (HX0.out.trans (HX7.out.trans x8)) (by omega) _ _ _ _ _ _))
  subst h3
  have HR:=Lib.hid (doF_6 (sg:=checkN) (f:=d.fro) HE.out HOK.out HU0.out HKEY.out HE3.out)
  go_upto_region 19 with (go_at_call 48;refine cS.mono ?_;clear cS k0 k1 k2 k3 k4 k5 k6 k7 k8;rintro e w8 ⟨rfl,x8⟩)
  obtain ⟨v1,v2,v3,v4,v5,r1,r2,r3,r4,r5,hlit,x9⟩:=kinds_laid w8
  have HX9:=Lib.hid (HX7.out.trans (x8.trans x9))
  have HY9:=Lib.hid (HY7.out.trans (x8.trans x9))
  have HD9:=Lib.hid (DoorB.ext HD7.out (x8.trans x9))
  have HO9b:=Lib.hid (own_ext HO7.out (x8.trans x9))
  obtain ⟨F,hEF,hlk0,cM0⟩:=meth_any B (withN d d.next (useL d.opn q.nonce) A5 c5) now q A c ⟨HH.out.1,HH.out.2.1⟩
  have hlk:=hlit.look Tryz.underlying98 Tryz.underlying3 q.kind _ hlk0
  clear x8 x9 hlit hlk0
  go_upto_region 20 with (fail)
  have HW9:Hid (DoorW v5 v5.heap.size (withN d d.next (useL d.opn q.nonce) A5 c5)):=Lib.hid (withN_w (HW.out.ext (HX0.out.trans HX9.out)) (nons_own HO9b.out HFE.out))
  have HSZ:Hid (W0.heap.size≤B∧B<W4.heap.size∧W4.heap.size≤v5.heap.size∧W0.heap.size=w.heap.size+3):=Lib.hid ⟨HS6.out.2.1,HS6.out.2.2,Nat.le_trans HS6.out.1 HY9.out.size,HS0.out⟩
  have HL9:Hid (∀ S:Nat→Prop,DoorL S d→DoorL (fun k=>S k∨W4.heap.size≤k) (withN d d.next (useL d.opn q.nonce) A5 c5)):=Lib.hid fun S hS =>
   ⟨Lies.own HO9b.out (fun k hk=>.inr hk),hS.c.mono (fun b h=>.inl h),hS.u.mono (fun b h=>.inl h),hS.r.mono (fun b h=>.inl h),fun x hx=>(hS.n x hx).mono (fun b h=>.inl h),fun x hx=>(hS.a x hx).mono (fun b h=>.inl h)⟩
  have HLL:Hid (DoorL (fun k=>k<w.heap.size∨W4.heap.size≤k) (withN d d.next (useL d.opn q.nonce) A5 c5)):=Lib.hid (HL9.out _ HW.out.lies)
  have cM:=cM0 v5 HW9.out (HLL.out.mono (fun k hk=>by have:=HSZ.out;rcases hk with hk|hk <;> omega)) HD9.out (HQ.out.ext (HX0.out.trans HX9.out)) (HQ.out.names.lies.mono (fun k hk=>by have:=HSZ.out;omega)) HACC.out (by have:=HU9.out;have:=HH.out.2.2.1;simp only [withN];omega) HO9.out HA9.out (auths_in (d:=d) HE.out)
  obtain ⟨r,hr⟩:∃ r,stepF { d.fro with opn:=useL d.opn q.nonce } q now=r:=⟨_,rfl⟩
  rw [show (withN d d.next (useL d.opn q.nonce) A5 c5).fro={ d.fro with opn:=useL d.opn q.nonce } from rfl,hr] at cM
  have hbd:r.2.2≠0→r=bad r.2.2:=by
   have:=step_bd { d.fro with opn:=useL d.opn q.nonce } q now
   rw [hr] at this
   exact this
  rw [show d.fro.opn=d.opn from rfl,hr] at HR
  obtain ⟨f',n',e'⟩:=r
  unfold methPost queV at cM
  simp only at cM hbd
  unfold Enters at hEF
  obtain ⟨k0,k1,k2,k3,k4,k5,k6,k7,k8⟩:=arr9 (ext_blk HX9.out HB1.out)
  have hxb:Hid (some (w.heap.size+2)≠some B):=Lib.hid (by have:=HSZ.out;simp;omega)
  clear cM0 hr
  by_cases h4:e'=0
  case neg =>
   have kk:=ne_beq h4
   have HBD:=Lib.hid (hbd h4)
   clear h4 hbd
   go_wp2_with (go_at_fn F;refine cM.mono ?_;clear cM k0 k1 k2 k3 k4 k5 k6 k7 k8 hlk;rintro e w9 ⟨rfl,hg9,-⟩;have HG9:=Lib.hid hg9;have b2:=Blk.grown (ext_blk HX9.out HB2.out) hg9 hxb.out;obtain ⟨q0,q1,q2,q3,q4,q5,f0,f1,f2,f3,f4,f5⟩:=st6 b2;have BB:=Lib.hid (blk6 b2 (.int .i64 0) (.slice none 0 0) (.slice none 0 0) (.slice none 0 0) (.slice none 0 0) (.int .i64 0));clear b2 hg9)
   have X9:Ext W0 w9:=Ext.of (HX9.out.out.grown HG9.out HX9.out.size (fun k hk=>by cases hk;exact HSZ.out.1))
   rw [HR.out,HBD.out]
   obtain ⟨r0,r1,r2,r3,r4,r5⟩:=arr6f BB.out
   refine bodyPost_ret (v:=.tuple #[.agg #[.int .i64 0,.slice none 0 0,.slice none 0 0,.slice none 0 0,.slice none 0 0,.int .i64 0],.int .i64 0,.int .i64 (e':Int)]) (by simp [results,Tryz.results18,go_sem,r0,r1,r2,r3,r4,r5]) rfl (outD_bad rfl (ext6 (HX0.out.trans (X9)) (by omega) _ _ _ _ _ _))
  subst h4
  go_wp2_with (go_at_fn F;refine cM.mono ?_;clear cM k0 k1 k2 k3 k4 k5 k6 k7 k8 hlk;rintro e w9 ⟨rfl,hg9,h9⟩;obtain ⟨d',hfro,hdb,hdw,hdl⟩:=h9 rfl;have HG9:=Lib.hid hg9;have b2:=Blk.grown (ext_blk HX9.out HB2.out) hg9 hxb.out;obtain ⟨q0,q1,q2,q3,q4,q5,f0,f1,f2,f3,f4,f5⟩:=st6 b2;obtain ⟨a0,a1,a2,a3,a4,a5,a6⟩:=arr7 hdb;have BB:=Lib.hid (blk6 b2 (.int .i64 d'.next) (.slice d'.oA d'.opn.length d'.oc) (.slice d'.cA d'.accs.length d'.cc) (.slice d'.uA d'.auts.length d'.uc) (.slice d'.rA d'.ords.length d'.rc) (.int .i64 d'.ser));have HFR:=Lib.hid hfro;have HDW:=Lib.hid hdw;have HDL:=Lib.hid hdl;clear b2 hg9 h9 hfro hdb hdw hdl)
  have X9:Ext W0 w9:=Ext.of (HX9.out.out.grown HG9.out HX9.out.size (fun k hk=>by cases hk;exact HSZ.out.1))
  rw [HR.out]
  obtain ⟨r0,r1,r2,r3,r4,r5⟩:=arr6f BB.out
  have hs9:=HSZ.out
  refine bodyPost_ret (v:=.tuple #[.agg #[.int .i64 d'.next,.slice d'.oA d'.opn.length d'.oc,.slice d'.cA d'.accs.length d'.cc,.slice d'.uA d'.auts.length d'.uc,.slice d'.rA d'.ords.length d'.rc,.int .i64 d'.ser],.int .i64 n',.int .i64 0]) (by simp [results,Tryz.results18,go_sem,r0,r1,r2,r3,r4,r5]) rfl ⟨d',rfl,HFR.out,?_,?_,ext6 (HX0.out.trans X9) (by omega) _ _ _ _ _ _⟩
  ·exact HDW.out.grownTo ((HDL.out _ HLL.out).mono (fun k hk=>by rcases hk with (hk|hk)|hk <;> omega)) (grown6 w9 (w.heap.size+2) _ _ _ _ _ _)
  ·intro S hS
   exact (HDL.out _ (HL9.out S hS)).mono (fun k hk=>by rcases hk with (hk|hk)|hk;exact .inl hk;exact .inr (by omega);exact .inr (by omega))
theorem chkF_no {f:FroR} (h:¬ doorP f):chkF f=1:=by unfold chkF;rw [if_pos h]
theorem rCheck_any22 (d:DoorX) (hu9:d.auts.length<99) (ha9:d.accs.length<100) (w:World) (hw:DoorW w w.heap.size d) :
  Calls Tryz.prog 22 #[frontV d] w fun e w'=>e=.returned (.int .i64 (chkF d.fro:Nat))∧Ext w w':=by
 obtain ⟨W0,e0,b0,x0⟩:=startF w d
 have hw0:=hw.ext x0
 have c1:=rfCheck_any d.next d.opn d.oA d.oc W0 hw0.non
 have c2:=rnum_any d.ser
 have c3:=fun W (x:Ext W0 W)=>rAccounts_any d.accs (by omega) hw.cw d.cA d.cc W (hw0.ext x).acc
 have c4:=fun W (x:Ext W0 W)=>rAuths_any d hu9 ha9 W (hw0.ext x)
 have c5:=fun W (x:Ext W0 W)=>rOrders_any d hu9 ha9 W (hw0.ext x)
 unfold frontV at c4 c5 ⊢
 unfold fenV at c1
 have HB0:=Lib.hid b0
 have HX0:=Lib.hid x0
 have E0:=Lib.hid e0
 have HL:Hid (d.auts.length<99∧d.accs.length<100):=Lib.hid ⟨hu9,ha9⟩
 have HRL:=Lib.hid hw.rl
 clear e0 b0 x0 hw hw0 hu9 ha9
 go_enter Tryz.func22,Tryz.ntmps22
 go_upto_region 1 with (fail)
 have e0:=E0.out
 rw [e0]
 clear e0 E0
 obtain ⟨m0,m1,m2,m3,m4,m5⟩:=arr6f HB0.out
 by_cases h1:fenN d.next d.opn=0
 case neg =>
  obtain ⟨E,hE⟩:∃ E,fenN d.next d.opn=E:=⟨_,rfl⟩
  rw [hE] at c1 h1
  have k0:=ne_beq h1
  have HC:=Lib.hid (chkF_no (f:=d.fro) fun h=>h1 (by rw [← hE];exact h.1))
  clear h1 hE c2 c3 c4 c5
  go_wp2_with (go_at_call 66;refine c1.mono ?_;clear c1;rintro e w1 ⟨rfl,x1⟩;have y:=x1;clear m0 m1 m2 m3 m4 m5;obtain ⟨m0,m1,m2,m3,m4,m5⟩:=arr6f (ext_blk (y) HB0.out))
  go_ret
  exact ⟨by rw [HC.out];rfl,HX0.out.trans y⟩
 rw [h1] at c1
 by_cases h2:numP d.ser
 case neg =>
  rw [decide_eq_false h2] at c2
  have HC:=Lib.hid (chkF_no (f:=d.fro) fun h=>h2 h.2.1)
  clear h1 h2 c3 c4 c5
  go_wp2_with (first|(go_at_call 66;refine c1.mono ?_;clear c1;rintro e w1 ⟨rfl,x1⟩;have y:=x1;clear m0 m1 m2 m3 m4 m5;obtain ⟨m0,m1,m2,m3,m4,m5⟩:=arr6f (ext_blk (y) HB0.out))|(go_at_call 43;refine (c2 _).mono ?_;clear c2;rintro e w2 ⟨rfl,rfl⟩))
  go_ret
  exact ⟨by rw [HC.out];rfl,HX0.out.trans y⟩
 rw [decide_eq_true h2] at c2
 by_cases h3:accsP d.accs
 case neg =>
  rw [decide_eq_false h3] at c3
  have HC:=Lib.hid (chkF_no (f:=d.fro) fun h=>h3 h.2.2.1)
  clear h1 h2 h3 c4 c5
  go_wp2_with (first|(go_at_call 66;refine c1.mono ?_;clear c1;rintro e w1 ⟨rfl,x1⟩;have y:=x1;clear m0 m1 m2 m3 m4 m5;obtain ⟨m0,m1,m2,m3,m4,m5⟩:=arr6f (ext_blk (y) HB0.out))|(go_at_call 43;refine (c2 _).mono ?_;clear c2;rintro e w2 ⟨rfl,rfl⟩)|(go_at_call 67;refine (c3 _ y).mono ?_;clear c3;rintro e w3 ⟨rfl,x3⟩;have y3:=y.trans x3;clear y;have y:=y3;clear y3;clear m0 m1 m2 m3 m4 m5;obtain ⟨m0,m1,m2,m3,m4,m5⟩:=arr6f (ext_blk (y) HB0.out)))
  go_ret
  exact ⟨by rw [HC.out];rfl,HX0.out.trans y⟩
 rw [decide_eq_true h3] at c3
 by_cases h4:autsP d.accs.length d.auts
 case neg =>
  rw [decide_eq_false h4] at c4
  have HC:=Lib.hid (chkF_no (f:=d.fro) fun h=>h4 h.2.2.2.1)
  clear h1 h2 h3 h4 c5
  go_wp2_with (first|(go_at_call 66;refine c1.mono ?_;clear c1;rintro e w1 ⟨rfl,x1⟩;have y:=x1;clear m0 m1 m2 m3 m4 m5;obtain ⟨m0,m1,m2,m3,m4,m5⟩:=arr6f (ext_blk (y) HB0.out))|(go_at_call 43;refine (c2 _).mono ?_;clear c2;rintro e w2 ⟨rfl,rfl⟩)|(go_at_call 67;refine (c3 _ y).mono ?_;clear c3;rintro e w3 ⟨rfl,x3⟩;have y3:=y.trans x3;clear y;have y:=y3;clear y3;clear m0 m1 m2 m3 m4 m5;obtain ⟨m0,m1,m2,m3,m4,m5⟩:=arr6f (ext_blk (y) HB0.out))|(go_at_call 68;refine (c4 _ y).mono ?_;clear c4;rintro e w4 ⟨rfl,x4⟩;have y4:=y.trans x4;clear y;have y:=y4;clear y4;clear m0 m1 m2 m3 m4 m5;obtain ⟨m0,m1,m2,m3,m4,m5⟩:=arr6f (ext_blk (y) HB0.out)))
  go_ret
  exact ⟨by rw [HC.out];rfl,HX0.out.trans y⟩
 rw [decide_eq_true h4] at c4
 by_cases h5:ordsP d.accs.length d.auts d.ser (d.ords.map (·.o))
 case neg =>
  rw [decide_eq_false h5] at c5
  have HC:=Lib.hid (chkF_no (f:=d.fro) fun h=>h5 h.2.2.2.2)
  clear h1 h2 h3 h4 h5
  go_wp2_with (first|(go_at_call 66;refine c1.mono ?_;clear c1;rintro e w1 ⟨rfl,x1⟩;have y:=x1;clear m0 m1 m2 m3 m4 m5;obtain ⟨m0,m1,m2,m3,m4,m5⟩:=arr6f (ext_blk (y) HB0.out))|(go_at_call 43;refine (c2 _).mono ?_;clear c2;rintro e w2 ⟨rfl,rfl⟩)|(go_at_call 67;refine (c3 _ y).mono ?_;clear c3;rintro e w3 ⟨rfl,x3⟩;have y3:=y.trans x3;clear y;have y:=y3;clear y3;clear m0 m1 m2 m3 m4 m5;obtain ⟨m0,m1,m2,m3,m4,m5⟩:=arr6f (ext_blk (y) HB0.out))|(go_at_call 68;refine (c4 _ y).mono ?_;clear c4;rintro e w4 ⟨rfl,x4⟩;have y4:=y.trans x4;clear y;have y:=y4;clear y4;clear m0 m1 m2 m3 m4 m5;obtain ⟨m0,m1,m2,m3,m4,m5⟩:=arr6f (ext_blk (y) HB0.out))|(go_at_call 69;refine (c5 _ y).mono ?_;clear c5;rintro e w5 ⟨rfl,x5⟩;have y5:=y.trans x5;clear y;have y:=y5;clear y5;clear m0 m1 m2 m3 m4 m5;obtain ⟨m0,m1,m2,m3,m4,m5⟩:=arr6f (ext_blk (y) HB0.out)))
  go_ret
  exact ⟨by rw [HC.out];rfl,HX0.out.trans y⟩
 rw [decide_eq_true h5] at c5
 have hd:doorP d.fro:=⟨h1,h2,h3,h4,h5⟩
 have hE:chkF d.fro=if 64<d.accs.length∨256<d.auts.length∨128<d.ords.length then 2 else 0:=by
  unfold chkF
  rw [if_neg (by simpa using hd)]
  show (if 64<d.accs.length∨256<d.auts.length∨128<(d.ords.map (·.o)).length then 2 else 0)=_
  rw [List.length_map]
 have HE:=Lib.hid hE
 clear h1 h2 h3 h4 h5 hd hE
 go_upto_region 3 with (first|(go_at_call 66;refine c1.mono ?_;clear c1;rintro e w1 ⟨rfl,x1⟩;have y:=x1;clear m0 m1 m2 m3 m4 m5;obtain ⟨m0,m1,m2,m3,m4,m5⟩:=arr6f (ext_blk (y) HB0.out))|(go_at_call 43;refine (c2 _).mono ?_;clear c2;rintro e w2 ⟨rfl,rfl⟩)|(go_at_call 67;refine (c3 _ y).mono ?_;clear c3;rintro e w3 ⟨rfl,x3⟩;have y3:=y.trans x3;clear y;have y:=y3;clear y3;clear m0 m1 m2 m3 m4 m5;obtain ⟨m0,m1,m2,m3,m4,m5⟩:=arr6f (ext_blk (y) HB0.out))|(go_at_call 68;refine (c4 _ y).mono ?_;clear c4;rintro e w4 ⟨rfl,x4⟩;have y4:=y.trans x4;clear y;have y:=y4;clear y4;clear m0 m1 m2 m3 m4 m5;obtain ⟨m0,m1,m2,m3,m4,m5⟩:=arr6f (ext_blk (y) HB0.out))|(go_at_call 69;refine (c5 _ y).mono ?_;clear c5;rintro e w5 ⟨rfl,x5⟩;have y5:=y.trans x5;clear y;have y:=y5;clear y5;clear m0 m1 m2 m3 m4 m5;obtain ⟨m0,m1,m2,m3,m4,m5⟩:=arr6f (ext_blk (y) HB0.out)))
 have HY:=Lib.hid y
 clear y
 have hrb:(d.ords.length:Int)≤1099511627776:=by have:=HRL.out;omega
 by_cases g1:(64:Int)<(d.accs.length:Int)
 ·have b1:decide ((64:Int)<(d.accs.length:Int))=true:=decide_eq_true g1
  have hE:=HE.out
  rw [if_pos (by omega)] at hE
  have HC:=Lib.hid hE
  clear g1 hE
  go_wp2
  go_ret
  exact ⟨by rw [HC.out];rfl,HX0.out.trans HY.out⟩
 have b1:decide ((64:Int)<(d.accs.length:Int))=false:=decide_eq_false g1
 by_cases g2:(256:Int)<(d.auts.length:Int)
 ·have:=HL.out;omega
 have b2:decide ((256:Int)<(d.auts.length:Int))=false:=decide_eq_false g2
 by_cases g3:(128:Int)<(d.ords.length:Int)
 ·have b3:decide ((128:Int)<(d.ords.length:Int))=true:=decide_eq_true g3
  have hE:=HE.out
  rw [if_pos (by omega)] at hE
  have HC:=Lib.hid hE
  clear hE g1 g2 g3
  go_wp2
  go_ret
  exact ⟨by rw [HC.out];rfl,HX0.out.trans HY.out⟩
 ·have b3:decide ((128:Int)<(d.ords.length:Int))=false:=decide_eq_false g3
  have hE:=HE.out
  rw [if_neg (by omega)] at hE
  have HC:=Lib.hid hE
  clear hE g1 g2 g3
  go_wp2
  go_ret
  exact ⟨by rw [HC.out];rfl,HX0.out.trans HY.out⟩
def autAgg (a:AutR):Value:=.agg #[.int .i64 a.id,.int .i64 a.acc,.string a.name,.string a.tok,.int .i64 a.st,.int .i64 a.fr,.int .i64 a.un]
theorem rholds_any (a:AutR) (now:Int) (w:World):Calls Tryz.prog 119 #[autAgg a,.int .i64 now] w fun e w'=>e=.returned (.bool (holdA now a))∧Ext w w':=by
 have HB:=Lib.hid (Blk.new w 69 #[.int .i64 a.id,.int .i64 a.acc,.string a.name,.string a.tok,.int .i64 a.st,.int .i64 a.fr,.int .i64 a.un])
 have HX:Hid (Ext w (w.alloc (.cells #[.int .i64 a.id,.int .i64 a.acc,.string a.name,.string a.tok,.int .i64 a.st,.int .i64 a.fr,.int .i64 a.un] 69))):=Lib.hid ((Ext.refl w).alloc _)
 unfold autAgg
 go_enter Tryz.func119,Tryz.ntmps119
 by_cases h1:a.st=3
 ·have d1:(a.st==3)=true:=by simp [h1]
  by_cases h2:now≤a.un
  ·have d2:decide (now≤a.un)=true:=decide_eq_true h2
   have HH:Hid (holdA now a=true):=Lib.hid (by simp [holdA,h1,h2])
   clear h1 h2
   go_wp2
   go_ret
   exact ⟨ret_bool HH.out.symm,HX.out⟩
  ·have d2:decide (now≤a.un)=false:=decide_eq_false h2
   have HH:Hid (holdA now a=false):=Lib.hid (by simp [holdA,h2])
   clear h1 h2
   go_wp2
   go_ret
   exact ⟨ret_bool HH.out.symm,HX.out⟩
 ·have d1:(a.st==3)=false:=by simp [h1]
  have HH:Hid (holdA now a=false):=Lib.hid (by simp [holdA,h1])
  clear h1
  go_wp2
  go_ret
  exact ⟨ret_bool HH.out.symm,HX.out⟩
def ordAgg (x:OrdX):Value:=.agg #[.int .i64 x.o.id,.int .i64 x.o.acc,.slice x.nA x.o.names.length x.nc,.int .u64 (x.o.key:Int),.int .i64 x.o.life,.slice x.aA x.o.auths.length x.ac,.int .i64 x.o.st,.int .i64 x.o.ser]
theorem i0_true {n:Nat} (h:n=0):((n:Int)==0)=true:=by subst h;rfl
theorem i0_false {n:Nat} (h:¬ n=0):((n:Int)==0)=false:=by simp [h]
theorem n0_true {n:Nat} (h:n=0):(n==0)=true:=by subst h;rfl
theorem n0_false {n:Nat} (h:¬ n=0):(n==0)=false:=by simp [h]
theorem holdsF_succ {f:List AutR} {l:List Int} {now:Int} {j:Nat} {n:Int} {a:AutR} (hn:l[j]?=some n) (ha:f[n.toNat-1]?=some a) (h:holdsF f (l.take j) now=true) (k:holdA now a=true):holdsF f (l.take (j+1)) now=true:=by
 unfold holdsF at *
 rw [List.take_add_one,hn]
 simp only [Option.toList_some,List.all_append,h,List.all_cons,ha,k,List.all_nil,Bool.and_self]
theorem holdsF_no {f:List AutR} {l:List Int} {now:Int} {j:Nat} {n:Int} {a:AutR} (hn:l[j]?=some n) (ha:f[n.toNat-1]?=some a) (k:holdA now a=false):holdsF f l now=false:=by
 cases e:holdsF f l now with
 | false=>rfl
 | true =>
  unfold holdsF at e
  have:=List.all_eq_true.1 e n (List.mem_of_getElem? hn)
  rw [ha] at this
  simp only at this
  rw [k] at this;cases this
theorem rall_any (d:DoorX) (x:OrdX) (now:Int) (hidx:∀ n∈x.o.auths,1≤n∧n≤d.auts.length) (hu9:d.auts.length<99) (w:World) (hw:DoorW w w.heap.size d) (hx:OrdW w w.heap.size x) :
  Calls Tryz.prog 77 #[frontV d,ordAgg x,.int .i64 now] w fun e w'=>e=.returned (.bool (holdsF d.auts x.o.auths now))∧Ext w w':=by
 obtain ⟨W0,e0,b0,b1,x0,s0⟩:=startP w #[.int .i64 d.next,.slice d.oA d.opn.length d.oc,.slice d.cA d.accs.length d.cc,.slice d.uA d.auts.length d.uc,.slice d.rA d.ords.length d.rc,.int .i64 d.ser] #[.int .i64 x.o.id,.int .i64 x.o.acc,.slice x.nA x.o.names.length x.nc,.int .u64 (x.o.key:Int),.int .i64 x.o.life,.slice x.aA x.o.auths.length x.ac,.int .i64 x.o.st,.int .i64 x.o.ser] 43 78
 have HW:=Lib.hid (hw.ext x0)
 have HXO:=Lib.hid (hx.ext x0)
 have HB0:=Lib.hid b0
 have HB1:=Lib.hid b1
 have HX0:=Lib.hid x0
 have E0:=Lib.hid e0
 have HI:=Lib.hid hidx
 have HU9:=Lib.hid hu9
 unfold frontV ordAgg
 clear e0 b0 b1 x0 s0 hw hx hidx hu9
 go_enter Tryz.func77,Tryz.ntmps77
 go_upto_region 1 with (fail)
 have e0:=E0.out
 rw [e0]
 clear e0 E0
 go_wp2
 go_loopg [7] x.o.auths.length (fun m s7 wr=>∃ j:Nat,j+m=x.o.auths.length∧s7=.int .i64 j∧holdsF d.auts (x.o.auths.take j) now=true∧Ext W0 wr)
 case atStart=>exact ⟨0,by omega,rfl,rfl,Ext.refl W0⟩
 case round =>
  obtain ⟨j,hj,rfl,hok,hx⟩:=hrel
  have hjb:(j:Int)≤1099511627776:=by have:=HXO.out.al;omega
  obtain ⟨k0,k1,k2,k3,k4,k5,k6,k7⟩:=arr8 (ext_blk hx HB1.out)
  have m3:=(ext_blk hx HB0.out).cell 3
  by_cases h:j<x.o.auths.length
  ·obtain ⟨n,hn⟩:∃ s,x.o.auths[j]?=some s:=⟨_,List.getElem?_eq_getElem h⟩
   obtain ⟨hn1,hn2⟩:=HI.out n (List.mem_of_getElem? hn)
   obtain ⟨a,rfl⟩:∃ a:Nat,n=(a:Int)+1:=⟨(n-1).toNat,by omega⟩
   obtain ⟨u,hu⟩:∃ u,d.auts[a]?=some u:=⟨_,List.getElem?_eq_getElem (by omega)⟩
   obtain ⟨ad1,hA1,p1⟩:=reads_id (HXO.out.ext hx).auths hn
   obtain ⟨ad3,hA3,hlt3,r0,r1,r2,r3,r4,r5,r6⟩:=reads_aut (HW.out.ext hx).aut hu
   rw [hA1] at k5
   rw [hA3] at m3
   have hjl:(j:Int)<(x.o.auths.length:Int):=by omega
   have hal:(a:Int)<(d.auts.length:Int):=by omega
   have hab:(a:Int)≤1000:=by have:=HU9.out;omega
   have e1:IntKind.i64.wrap ((a:Int)+1-1)=(a:Int):=by rw [IntKind.wrap_i64];omega
   have HN:=Lib.hid hn
   have HU:=Lib.hid (show d.auts[((a:Int)+1).toNat-1]?=some u by rw [show ((a:Int)+1).toNat-1=a by omega];exact hu)
   have HO:=Lib.hid hok
   have HX:=Lib.hid hx
   have HJ:=Lib.hid hj
   have j0:=fun q:Later wr=>q.cell k5
   have j1:=fun q:Later wr=>q.cell m3
   have j2:=fun q:Later wr=>q.cell p1
   have i0:=fun q:Later wr=>q.cell r0
   have i1:=fun q:Later wr=>q.cell r1
   have i2:=fun q:Later wr=>q.cell r2
   have i3:=fun q:Later wr=>q.cell r3
   have i4:=fun q:Later wr=>q.cell r4
   have i5:=fun q:Later wr=>q.cell r5
   have i6:=fun q:Later wr=>q.cell r6
   have cH:=fun q:Later wr=>rholds_any u now q.W
   unfold autAgg at cH
   clear hj hok hn hu hx hA1 hA3 hlt3 k0 k1 k2 k3 k4 k6 k7 h hn1 hn2
   cases hh:holdA now u
   ·rw [hh] at cH
    have HNO:=Lib.hid (holdsF_no (l:=x.o.auths) HN.out HU.out hh)
    clear hh
    go_wp2
    clear k5 m3 p1 r0 r1 r2 r3 r4 r5 r6
    refine wp_region_later (by kernel_rfl) (by kernel_rfl) ?_
    repeat (go_big_quiet_step ((go_at_call 119;exact Later.calls (cH _))))
    refine wpQuiet_nil ?_
    rintro W2 ⟨q,hq⟩
    have x2:Ext W0 W2:=by rw [hq];exact HX.out.trans q.ext
    clear hq q j0 j1 j2 i0 i1 i2 i3 i4 i5 i6 cH
    go_wp2
    go_ret
    exact ⟨ret_bool HNO.out.symm,HX0.out.trans x2⟩
   ·rw [hh] at cH
    have HYES:=Lib.hid (holdsF_succ HN.out HU.out HO.out hh)
    clear hh
    go_wp2
    clear k5 m3 p1 r0 r1 r2 r3 r4 r5 r6
    refine wp_region_later (by kernel_rfl) (by kernel_rfl) ?_
    repeat (go_big_quiet_step ((go_at_call 119;exact Later.calls (cH _))))
    refine wpQuiet_nil ?_
    rintro W2 ⟨q,hq⟩
    have x2:Ext W0 W2:=by rw [hq];exact HX.out.trans q.ext
    clear hq q j0 j1 j2 i0 i1 i2 i3 i4 i5 i6 cH
    go_wp2
    have hj:=HJ.out
    go_roundg (gk-1)
    case measure=>omega
    case rel=>exact ⟨j+1,by omega,int_congr (by omega),HYES.out,x2⟩
  ·obtain rfl:j=x.o.auths.length:=by omega
   rw [List.take_length] at hok
   have HO:=Lib.hid hok
   have HX:=Lib.hid hx
   clear hj hok hx h
   go_wp2
   go_ret
   exact ⟨ret_bool HO.out.symm,HX0.out.trans HX.out⟩
theorem rfits_any (q:QueR) (A:Option Addr) (c:Nat) (w:World) (hq:QueW w w.heap.size q A c) :
  Calls Tryz.prog 54 #[queV q A c] w fun e w'=>e=.returned (.bool (decide (fitsP q)))∧Ext w w':=by
 obtain ⟨W0,e0,b0,x0⟩:∃ W,w.alloc (.cells #[.int .i64 q.kind,.int .i64 q.acc,.int .i64 q.nonce,.int .u64 (q.key:Int),.slice A q.names.length c,.int .i64 q.life,.int .i64 q.id,.int .u64 (q.e:Int),.int .u64 (q.s:Int)] 27)=W∧Blk W w.heap.size 27 #[.int .i64 q.kind,.int .i64 q.acc,.int .i64 q.nonce,.int .u64 (q.key:Int),.slice A q.names.length c,.int .i64 q.life,.int .i64 q.id,.int .u64 (q.e:Int),.int .u64 (q.s:Int)]∧Ext w W:=⟨_,rfl,Blk.new _ _ _,(Ext.refl w).alloc _⟩
 have cN:=fun W (x:Ext W0 W)=>rNames_any q.names hq.nl hq.ns A c W ((hq.names.below (x0.trans x).out).more (x0.trans x).size)
 have cI:=rIn_any q.key hq.key
 have hnl:=hq.nl
 have HB0:=Lib.hid b0
 have HX0:=Lib.hid x0
 have E0:=Lib.hid e0
 unfold queV
 clear e0 b0 x0 hq
 go_enter Tryz.func54,Tryz.ntmps54
 go_upto_region 1 with (fail)
 have e0:=E0.out
 rw [e0]
 clear e0 E0
 obtain ⟨m0,m1,m2,m3,m4,m5,m6,m7,m8⟩:=arr9 HB0.out
 have hlen:∀ P:Prop,(q.names=[] ↔ q.names.length=0):=fun _=>List.length_eq_zero_iff.symm
 have HLN:Hid (q.names=[] ↔ q.names.length=0):=Lib.hid List.length_eq_zero_iff.symm
 clear hlen
 by_cases k1:q.kind=1
 ·have e1:(q.kind==1)=true:=by simp [k1]
  have HF:Hid (fitsP q ↔ (q.acc=0∧q.names.length=0∧q.life=0∧q.id=0)):=Lib.hid (by unfold fitsP;rw [if_pos k1,HLN.out];constructor <;> rintro ⟨a,b,c,d⟩ <;> exact ⟨by assumption,by assumption,by assumption,by assumption⟩)
  clear k1 cN cI
  by_cases h1:q.acc=0
  case neg =>
   have kk:Hid (¬ fitsP q):=Lib.hid (fun h=>h1 ((HF.out.1 h).1))
   have d1:(q.acc==0)=false:=by simp [h1]
   clear h1
   go_wp2
   go_ret
   exact ⟨ret_bool (decide_eq_false kk.out).symm,HX0.out⟩
  have d1:(q.acc==0)=true:=by simp [h1]
  by_cases h2:q.names.length=0
  case neg =>
   have kk:Hid (¬ fitsP q):=Lib.hid (fun h=>h2 ((HF.out.1 h).2.1))
   have d2:((q.names.length:Int)==0)=false:=i0_false h2
   have dn2:(q.names.length==0)=false:=n0_false h2
   clear h1 h2
   go_wp2
   go_ret
   exact ⟨ret_bool (decide_eq_false kk.out).symm,HX0.out⟩
  have d2:((q.names.length:Int)==0)=true:=i0_true h2
  have dn2:(q.names.length==0)=true:=n0_true h2
  by_cases h3:q.life=0
  case neg =>
   have kk:Hid (¬ fitsP q):=Lib.hid (fun h=>h3 ((HF.out.1 h).2.2.1))
   have d3:(q.life==0)=false:=by simp [h3]
   clear h1 h2 h3
   go_wp2
   go_ret
   exact ⟨ret_bool (decide_eq_false kk.out).symm,HX0.out⟩
  have d3:(q.life==0)=true:=by simp [h3]
  by_cases h4:q.id=0
  case neg =>
   have kk:Hid (¬ fitsP q):=Lib.hid (fun h=>h4 ((HF.out.1 h).2.2.2))
   have d4:(q.id==0)=false:=by simp [h4]
   clear h1 h2 h3 h4
   go_wp2
   go_ret
   exact ⟨ret_bool (decide_eq_false kk.out).symm,HX0.out⟩
  have d4:(q.id==0)=true:=by simp [h4]
  have kk:Hid (fitsP q):=Lib.hid (HF.out.2 ⟨h1,h2,h3,h4⟩)
  clear h1 h2 h3 h4
  go_wp2
  go_ret
  exact ⟨ret_bool (decide_eq_true kk.out).symm,HX0.out⟩
 have e1:(q.kind==1)=false:=by simp [k1]
 by_cases k2:q.kind=2
 ·have e2:(q.kind==2)=true:=by simp [k2]
  have HF:Hid (fitsP q ↔ (q.id=0∧namesP q.names∧inB q.key=true∧1≤q.life∧q.life≤1000)):=Lib.hid (by unfold fitsP;rw [if_neg k1,if_pos k2])
  clear k1 k2
  by_cases h1:q.id=0
  case neg =>
   have kk:Hid (¬ fitsP q):=Lib.hid (fun h=>h1 ((HF.out.1 h).1))
   have d1:(q.id==0)=false:=by simp [h1]
   clear h1 cN cI
   go_wp2
   go_ret
   exact ⟨ret_bool (decide_eq_false kk.out).symm,HX0.out⟩
  have d1:(q.id==0)=true:=by simp [h1]
  by_cases h2:namesP q.names
  case neg =>
   have kk:Hid (¬ fitsP q):=Lib.hid (fun h=>h2 ((HF.out.1 h).2.1))
   rw [decide_eq_false h2] at cN
   clear h1 h2 cI
   go_wp2_with (go_at_call 38;refine (cN _ (Ext.refl W0)).mono ?_;clear cN;rintro e w3 ⟨rfl,y⟩;clear m0 m1 m2 m3 m4 m5 m6 m7 m8;obtain ⟨m0,m1,m2,m3,m4,m5,m6,m7,m8⟩:=arr9 (ext_blk y HB0.out))
   go_ret
   exact ⟨ret_bool (decide_eq_false kk.out).symm,HX0.out.trans y⟩
  rw [decide_eq_true h2] at cN
  by_cases h3:inB q.key=true
  case neg =>
   have kk:Hid (¬ fitsP q):=Lib.hid (fun h=>h3 ((HF.out.1 h).2.2.1))
   rw [show inB q.key=false from by cases e:inB q.key with|false=>(first|rfl|exact absurd e (by simp [h3]))|true=>(first|rfl|exact absurd e h3)] at cI
   clear h1 h2 h3
   go_wp2_with (first|(go_at_call 38;refine (cN _ (Ext.refl W0)).mono ?_;clear cN;rintro e w3 ⟨rfl,y⟩;clear m0 m1 m2 m3 m4 m5 m6 m7 m8;obtain ⟨m0,m1,m2,m3,m4,m5,m6,m7,m8⟩:=arr9 (ext_blk y HB0.out))|(go_at_call 106;refine (cI _).mono ?_;clear cI;rintro e w4 ⟨rfl,rfl⟩))
   go_ret
   exact ⟨ret_bool (decide_eq_false kk.out).symm,HX0.out.trans y⟩
  rw [show inB q.key=true from by cases e:inB q.key with|false=>(first|rfl|exact absurd e (by simp [h3]))|true=>(first|rfl|exact absurd e h3)] at cI
  by_cases h4:1≤q.life
  case neg =>
   have kk:Hid (¬ fitsP q):=Lib.hid (fun h=>h4 ((HF.out.1 h).2.2.2.1))
   have d4:decide ((1:Int)≤q.life)=false:=decide_eq_false (by omega)
   clear h1 h2 h3 h4
   go_wp2_with (first|(go_at_call 38;refine (cN _ (Ext.refl W0)).mono ?_;clear cN;rintro e w3 ⟨rfl,y⟩;clear m0 m1 m2 m3 m4 m5 m6 m7 m8;obtain ⟨m0,m1,m2,m3,m4,m5,m6,m7,m8⟩:=arr9 (ext_blk y HB0.out))|(go_at_call 106;refine (cI _).mono ?_;clear cI;rintro e w4 ⟨rfl,rfl⟩))
   go_ret
   exact ⟨ret_bool (decide_eq_false kk.out).symm,HX0.out.trans y⟩
  have d4:decide ((1:Int)≤q.life)=true:=decide_eq_true (by omega)
  by_cases h5:q.life≤1000
  case neg =>
   have kk:Hid (¬ fitsP q):=Lib.hid (fun h=>h5 ((HF.out.1 h).2.2.2.2))
   have d5:decide (q.life≤1000)=false:=decide_eq_false (by omega)
   clear h1 h2 h3 h4 h5
   go_wp2_with (first|(go_at_call 38;refine (cN _ (Ext.refl W0)).mono ?_;clear cN;rintro e w3 ⟨rfl,y⟩;clear m0 m1 m2 m3 m4 m5 m6 m7 m8;obtain ⟨m0,m1,m2,m3,m4,m5,m6,m7,m8⟩:=arr9 (ext_blk y HB0.out))|(go_at_call 106;refine (cI _).mono ?_;clear cI;rintro e w4 ⟨rfl,rfl⟩))
   go_ret
   exact ⟨ret_bool (decide_eq_false kk.out).symm,HX0.out.trans y⟩
  have d5:decide (q.life≤1000)=true:=decide_eq_true (by omega)
  have kk:Hid (fitsP q):=Lib.hid (HF.out.2 ⟨h1,h2,h3,h4,h5⟩)
  clear h1 h2 h3 h4 h5
  go_wp2_with (first|(go_at_call 38;refine (cN _ (Ext.refl W0)).mono ?_;clear cN;rintro e w3 ⟨rfl,y⟩;clear m0 m1 m2 m3 m4 m5 m6 m7 m8;obtain ⟨m0,m1,m2,m3,m4,m5,m6,m7,m8⟩:=arr9 (ext_blk y HB0.out))|(go_at_call 106;refine (cI _).mono ?_;clear cI;rintro e w4 ⟨rfl,rfl⟩))
  go_ret
  exact ⟨ret_bool (decide_eq_true kk.out).symm,HX0.out.trans y⟩
 ·have e2:(q.kind==2)=false:=by simp [k2]
  have HF:Hid (fitsP q ↔ (q.names.length=0∧q.key=0∧q.life=0)):=Lib.hid (by unfold fitsP;rw [if_neg k1,if_neg k2,HLN.out];constructor <;> rintro ⟨a,b,c⟩ <;> exact ⟨by assumption,by assumption,by assumption⟩)
  clear k1 k2 cN cI
  by_cases h1:q.names.length=0
  case neg =>
   have kk:Hid (¬ fitsP q):=Lib.hid (fun h=>h1 ((HF.out.1 h).1))
   have d1:((q.names.length:Int)==0)=false:=i0_false h1
   have dn1:(q.names.length==0)=false:=n0_false h1
   clear h1
   go_wp2
   go_ret
   exact ⟨ret_bool (decide_eq_false kk.out).symm,HX0.out⟩
  have d1:((q.names.length:Int)==0)=true:=i0_true h1
  have dn1:(q.names.length==0)=true:=n0_true h1
  by_cases h2:q.key=0
  case neg =>
   have kk:Hid (¬ fitsP q):=Lib.hid (fun h=>h2 ((HF.out.1 h).2.1))
   have d2:((q.key:Int)==0)=false:=i0_false h2
   have dk2:(q.key==0)=false:=n0_false h2
   clear h1 h2
   go_wp2
   go_ret
   exact ⟨ret_bool (decide_eq_false kk.out).symm,HX0.out⟩
  have d2:((q.key:Int)==0)=true:=i0_true h2
  have dk2:(q.key==0)=true:=n0_true h2
  by_cases h3:q.life=0
  case neg =>
   have kk:Hid (¬ fitsP q):=Lib.hid (fun h=>h3 ((HF.out.1 h).2.2))
   have d3:(q.life==0)=false:=by simp [h3]
   clear h1 h2 h3
   go_wp2
   go_ret
   exact ⟨ret_bool (decide_eq_false kk.out).symm,HX0.out⟩
  have d3:(q.life==0)=true:=by simp [h3]
  have kk:Hid (fitsP q):=Lib.hid (HF.out.2 ⟨h1,h2,h3⟩)
  clear h1 h2 h3
  go_wp2
  go_ret
  exact ⟨ret_bool (decide_eq_true kk.out).symm,HX0.out⟩
theorem oNew_any (w:World):Calls Tryz.prog 34 #[] w fun e w'=>e=.returned (frontV doorZ)∧Ext w w':=by
 obtain ⟨W0,e0⟩:∃ W,w.alloc (.cells #[.int .i64 0,.slice none 0 0,.slice none 0 0,.slice none 0 0,.slice none 0 0,.int .i64 0] 43)=W:=⟨_,rfl⟩
 have x0:Ext w W0:=by rw [← e0];exact (Ext.refl w).alloc _
 have b0:Blk W0 w.heap.size 43 #[.int .i64 0,.slice none 0 0,.slice none 0 0,.slice none 0 0,.slice none 0 0,.int .i64 0]:=by rw [← e0];exact Blk.new _ _ _
 obtain ⟨q0,q1,q2,q3,q4,q5,f0,f1,f2,f3,f4,f5⟩:=st6 b0
 have BB:=Lib.hid (blk6 b0 (.int .i64 0) (.slice none 0 0) (.slice none 0 0) (.slice none 0 0) (.slice none 0 0) (.int .i64 0))
 clear b0
 go_enter Tryz.func34,Tryz.ntmps34
 go_upto_region 1 with (fail)
 try rw [e0]
 clear e0
 go_wp2
 obtain ⟨r0,r1,r2,r3,r4,r5⟩:=arr6f BB.out
 refine bodyPost_ret (v:=.agg #[.int .i64 0,.slice none 0 0,.slice none 0 0,.slice none 0 0,.slice none 0 0,.int .i64 0]) (by simp [results,Tryz.results34,go_sem,r0,r1,r2,r3,r4,r5]) rfl ⟨rfl,ext6 x0 (Nat.le_refl _) _ _ _ _ _ _⟩
section
variable {W w:World} {g:Nat} {T:TypeId} {x0 x1 x2 x3 x4 x5 x6 x7:Value}
theorem st8 (k:Blk W g T #[x0,x1,x2,x3,x4,x5,x6,x7]):(W.cell? ⟨g,0,none⟩=some x0∧W.cell? ⟨g,1,none⟩=some x1∧W.cell? ⟨g,2,none⟩=some x2∧W.cell? ⟨g,3,none⟩=some x3∧W.cell? ⟨g,4,none⟩=some x4∧W.cell? ⟨g,5,none⟩=some x5∧W.cell? ⟨g,6,none⟩=some x6∧W.cell? ⟨g,7,none⟩=some x7) ∧
  W.frozen? ⟨g,0,none⟩=false∧W.frozen? ⟨g,1,none⟩=false∧W.frozen? ⟨g,2,none⟩=false∧W.frozen? ⟨g,3,none⟩=false∧W.frozen? ⟨g,4,none⟩=false∧W.frozen? ⟨g,5,none⟩=false∧W.frozen? ⟨g,6,none⟩=false∧W.frozen? ⟨g,7,none⟩=false :=
 ⟨⟨k.cell 0,k.cell 1,k.cell 2,k.cell 3,k.cell 4,k.cell 5,k.cell 6,k.cell 7⟩,k.frozen 0,k.frozen 1,k.frozen 2,k.frozen 3,k.frozen 4,k.frozen 5,k.frozen 6,k.frozen 7⟩
end
def askX (d:DoorX) (id:Int):Nat × Option OrdX :=
 if id<1 then (131,none) else match d.ords[id.toNat-1]? with
 | none=>(131,none)
 | some x=>if x.o.st≠2 then (221,none) else (0,some x)
theorem askX_f (d:DoorX) (id:Int):askF d.fro id=((askX d id).1,(askX d id).2.map (·.o)):=by
 unfold askF askX
 split
 ·rfl
 ·rw [dfro_ords,List.getElem?_map]
  cases d.ords[id.toNat-1]? with
  | none=>rfl
  | some x =>
   simp only [Option.map_some]
   split <;> rfl
def ordZ:Value:=.agg #[.int .i64 0,.int .i64 0,.slice none 0 0,.int .u64 0,.int .i64 0,.slice none 0 0,.int .i64 0,.int .i64 0]
def ordXV (x:OrdX):Value:=.agg #[.int .i64 x.o.id,.int .i64 x.o.acc,.slice x.nA x.o.names.length x.nc,.int .u64 (x.o.key:Int),.int .i64 x.o.life,.slice x.aA x.o.auths.length x.ac,.int .i64 x.o.st,.int .i64 x.o.ser]
def askV:Option OrdX→Value
 | none=>ordZ
 | some x=>ordXV x
def askedPost (d:DoorX) (id:Int) (w:World) (e:Ending) (w':World):Prop:=e=.returned (.tuple #[askV (askX d id).2,.int .i64 (((askX d id).1:Nat):Int)])∧Ext w w'
theorem asked_any (b:Nat) (d:DoorX) (now id:Int) (w:World) (hl:d.ords.length≤1099511627776) (h:DoorB w b d now) (hr:Reads w w.heap.size 8 d.rA d.ords.length (ordV d.ords)) :
  Calls Tryz.prog 74 #[.pointer (some ⟨b,0,none⟩),.int .i64 id] w (askedPost d id w):=by
 obtain ⟨W0,e0⟩:∃ W,w.alloc (.cells #[.int .i64 0,.int .i64 0,.slice none 0 0,.int .u64 0,.int .i64 0,.slice none 0 0,.int .i64 0,.int .i64 0] 78)=W:=⟨_,rfl⟩
 have x0:Ext w W0:=by rw [← e0];exact (Ext.refl w).alloc _
 have b0:Blk W0 w.heap.size 78 #[.int .i64 0,.int .i64 0,.slice none 0 0,.int .u64 0,.int .i64 0,.slice none 0 0,.int .i64 0,.int .i64 0]:=by rw [← e0];exact Blk.new _ _ _
 obtain ⟨⟨q0,q1,q2,q3,q4,q5,q6,q7⟩,f0,f1,f2,f3,f4,f5,f6,f7⟩:=st8 b0
 have a4:W0.cell? ⟨b,4,none⟩=some (.slice d.rA d.ords.length d.rc):=(DoorB.ext h x0).cell 4
 have HB:=Lib.hid b0
 have HX:=Lib.hid x0
 have HR:=Lib.hid hr
 have hlb:(d.ords.length:Int)≤1099511627776:=by omega
 clear b0 x0 h hr
 go_enter Tryz.func74,Tryz.ntmps74
 go_upto_region 1 with (fail)
 try rw [e0]
 clear e0
 have hbad:∀ E:Nat,Hid (askX d id=(E,none))→Hid (askedPost d id w (.returned (.tuple #[.agg #[.int .i64 0,.int .i64 0,.slice none 0 0,.int .u64 0,.int .i64 0,.slice none 0 0,.int .i64 0,.int .i64 0],.int .i64 (E:Int)]))
   ((((((((W0.setCell ⟨w.heap.size,0,none⟩ (.int .i64 0)).setCell ⟨w.heap.size,1,none⟩ (.int .i64 0)).setCell ⟨w.heap.size,2,none⟩ (.slice none 0 0)).setCell ⟨w.heap.size,3,none⟩ (.int .u64 0)).setCell ⟨w.heap.size,4,none⟩ (.int .i64 0)).setCell ⟨w.heap.size,5,none⟩ (.slice none 0 0)).setCell ⟨w.heap.size,6,none⟩ (.int .i64 0)).setCell ⟨w.heap.size,7,none⟩ (.int .i64 0))) :=
  fun E hE=>Lib.hid ⟨by rw [hE.out];rfl,set8_ext HX.out (Nat.le_refl _) _ _ _ _ _ _ _ _⟩
 have BB:=Lib.hid (set8_blk HB.out (.int .i64 0) (.int .i64 0) (.slice none 0 0) (.int .u64 0) (.int .i64 0) (.slice none 0 0) (.int .i64 0) (.int .i64 0))
 by_cases g1:id<1
 ·have d1:decide (id<1)=true:=decide_eq_true g1
  have hp:=hbad 131 (Lib.hid (by unfold askX;rw [if_pos g1]))
  clear g1 hbad
  go_wp2
  obtain ⟨⟨r0,r1,r2,r3,r4,r5,r6,r7⟩,-⟩:=st8 BB.out
  refine bodyPost_ret (v:=.tuple #[.agg #[.int .i64 0,.int .i64 0,.slice none 0 0,.int .u64 0,.int .i64 0,.slice none 0 0,.int .i64 0,.int .i64 0],.int .i64 131]) (by simp [results,Tryz.results74,go_sem,r0,r1,r2,r3,r4,r5,r6,r7]) rfl hp.out
 have d1:decide (id<1)=false:=decide_eq_false g1
 obtain ⟨a,rfl⟩:∃ a:Nat,id=(a:Int)+1:=⟨(id-1).toNat,by omega⟩
 by_cases g2:(d.ords.length:Int)<(a:Int)+1
 ·have d2:decide ((d.ords.length:Int)<(a:Int)+1)=true:=decide_eq_true g2
  have hp:=hbad 131 (Lib.hid (by unfold askX;rw [if_neg g1,show ((a:Int)+1).toNat-1=a by omega,List.getElem?_eq_none (by omega)]))
  clear g1 g2 hbad
  go_wp2
  obtain ⟨⟨r0,r1,r2,r3,r4,r5,r6,r7⟩,-⟩:=st8 BB.out
  refine bodyPost_ret (v:=.tuple #[.agg #[.int .i64 0,.int .i64 0,.slice none 0 0,.int .u64 0,.int .i64 0,.slice none 0 0,.int .i64 0,.int .i64 0],.int .i64 131]) (by simp [results,Tryz.results74,go_sem,r0,r1,r2,r3,r4,r5,r6,r7]) rfl hp.out
 have d2:decide ((d.ords.length:Int)<(a:Int)+1)=false:=decide_eq_false g2
 obtain ⟨x,hx⟩:∃ u,d.ords[a]?=some u:=⟨_,List.getElem?_eq_getElem (by omega)⟩
 obtain ⟨ad,hA,hlt,r0,r1,r2,r3,r4,r5,r6,r7⟩:=reads_ord HR.out hx
 rw [hA] at a4
 have c0:=HX.out.cell r0
 have c1:=HX.out.cell r1
 have c2:=HX.out.cell r2
 have c3:=HX.out.cell r3
 have c4:=HX.out.cell r4
 have c5:=HX.out.cell r5
 have c6:=HX.out.cell r6
 have c7:=HX.out.cell r7
 have hal:(a:Int)<(d.ords.length:Int):=by omega
 have hab:(a:Int)≤1099511627776:=by omega
 have e2:IntKind.i64.wrap ((a:Int)+1-1)=(a:Int):=by rw [IntKind.wrap_i64];omega
 by_cases g3:x.o.st=2
 case neg =>
  have d3:(x.o.st != 2)=true:=by simp [g3]
  have hp:=hbad 221 (Lib.hid (by unfold askX;rw [if_neg g1,show ((a:Int)+1).toNat-1=a by omega,hx];simp only;rw [if_pos g3]))
  clear g1 g2 g3 hbad hx r0 r1 r2 r3 r4 r5 r6 r7 hA hlt
  go_wp2
  obtain ⟨⟨r0,r1,r2,r3,r4,r5,r6,r7⟩,-⟩:=st8 BB.out
  refine bodyPost_ret (v:=.tuple #[.agg #[.int .i64 0,.int .i64 0,.slice none 0 0,.int .u64 0,.int .i64 0,.slice none 0 0,.int .i64 0,.int .i64 0],.int .i64 221]) (by simp [results,Tryz.results74,go_sem,r0,r1,r2,r3,r4,r5,r6,r7]) rfl hp.out
 have d3:(x.o.st != 2)=false:=by simp [g3]
 have hp:Hid (askX d ((a:Int)+1)=(0,some x)):=Lib.hid (by unfold askX;rw [if_neg g1,show ((a:Int)+1).toNat-1=a by omega,hx];simp only;rw [if_neg (by simpa using g3)])
 clear BB hbad g1 g2 g3 hx r0 r1 r2 r3 r4 r5 r6 r7 hA hlt
 have BB:=Lib.hid (set8_blk HB.out (.int .i64 x.o.id) (.int .i64 x.o.acc) (.slice x.nA x.o.names.length x.nc) (.int .u64 (x.o.key:Int)) (.int .i64 x.o.life) (.slice x.aA x.o.auths.length x.ac) (.int .i64 x.o.st) (.int .i64 x.o.ser))
 go_wp2
 obtain ⟨⟨r0,r1,r2,r3,r4,r5,r6,r7⟩,-⟩:=st8 BB.out
 refine bodyPost_ret (v:=.tuple #[ordXV x,.int .i64 0]) (by simp [results,Tryz.results74,go_sem,ordXV,r0,r1,r2,r3,r4,r5,r6,r7]) rfl ⟨by rw [hp.out];rfl,set8_ext HX.out (Nat.le_refl _) _ _ _ _ _ _ _ _⟩
section
variable {W w:World} {g:Nat} {T:TypeId} {a b c d a' b' c' d':Value}
theorem st4 (k:Blk W g T #[a,b,c,d]):W.cell? ⟨g,0,none⟩=some a∧W.cell? ⟨g,1,none⟩=some b∧W.cell? ⟨g,2,none⟩=some c∧W.cell? ⟨g,3,none⟩=some d ∧
  W.frozen? ⟨g,0,none⟩=false∧W.frozen? ⟨g,1,none⟩=false∧W.frozen? ⟨g,2,none⟩=false∧W.frozen? ⟨g,3,none⟩=false:=⟨k.cell 0,k.cell 1,k.cell 2,k.cell 3,k.frozen 0,k.frozen 1,k.frozen 2,k.frozen 3⟩
theorem arr4f (k:Blk W g T #[a,b,c,d]):W.cell? ⟨g,0,none⟩=some a∧W.cell? ⟨g,1,none⟩=some b∧W.cell? ⟨g,2,none⟩=some c∧W.cell? ⟨g,3,none⟩=some d:=⟨k.cell 0,k.cell 1,k.cell 2,k.cell 3⟩
theorem blk4 (k:Blk W g T #[a,b,c,d]) (a' b' c' d':Value):Blk ((((W.setCell ⟨g,0,none⟩ a').setCell ⟨g,1,none⟩ b').setCell ⟨g,2,none⟩ c').setCell ⟨g,3,none⟩ d') g T #[a',b',c',d']:=(((k.set_ 0 a').set_ 1 b').set_ 2 c').set_ 3 d'
theorem ext4 (h:Ext w W) (hg:w.heap.size≤g) (a' b' c' d':Value):Ext w ((((W.setCell ⟨g,0,none⟩ a').setCell ⟨g,1,none⟩ b').setCell ⟨g,2,none⟩ c').setCell ⟨g,3,none⟩ d') :=
 (((h.setCell (p:=⟨g,0,none⟩) hg _).setCell (p:=⟨g,1,none⟩) hg _).setCell (p:=⟨g,2,none⟩) hg _).setCell (p:=⟨g,3,none⟩) hg _
end
def wisV (r:WisR) (A:Option Addr) (c:Nat):Value:=.agg #[.int .i64 r.1,.slice A r.2.1.length c,.int .u64 (r.2.2.1:Int),.int .i64 r.2.2.2]
def wisPost (r:WisR × Nat) (w:World) (e:Ending) (w':World):Prop:=∃ A c,e=.returned (.tuple #[wisV r.1 A c,.int .i64 (r.2:Nat)])∧Reads w' w'.heap.size 1 A r.1.2.1.length (tv r.1.2.1)∧r.1.2.1.length≤c∧Ext w w'
theorem wisPost_bad {w w':World} {E:Nat} {e:Ending} (he:e=.returned (.tuple #[.agg #[.int .i64 0,.slice none 0 0,.int .u64 0,.int .i64 0],.int .i64 (E:Int)])) (x:Ext w w'):wisPost ((0,[],0,0),E) w e w':=⟨none,0,he,Reads.none_,Nat.le_refl _,x⟩
theorem wisF_1 {f:FroR} {id now:Int} {E:Nat} (h:chkF f=E) (h0:E≠0):wisF f id now=((0,[],0,0),E):=by unfold wisF;rw [if_pos (by rw [h];exact h0),h]
theorem wisF_2 {f:FroR} {id now:Int} (h:chkF f=0) (h1:¬ numP now):wisF f id now=((0,[],0,0),1):=by unfold wisF;rw [if_neg (by rw [h];simp),if_pos h1]
theorem wisF_3 {f:FroR} {id now:Int} (h:chkF f=0) (h1:numP now) {E:Nat} (h2:askF f id=(E,none)):wisF f id now=((0,[],0,0),E):=by unfold wisF;rw [if_neg (by rw [h];simp),if_neg (by simpa using h1),h2]
theorem wisF_4 {f:FroR} {id now:Int} (h:chkF f=0) (h1:numP now) {o:OrdR} (h2:askF f id=(0,some o)):wisF f id now=if holdsF f.auts o.auths now=false then ((0,[],0,0),221) else ((o.acc,o.names,o.key,o.life),0):=by unfold wisF;rw [if_neg (by rw [h];simp),if_neg (by simpa using h1),h2]
theorem askX_parts {d:DoorX} {id:Int} {E:Nat} {ox:Option OrdX} (h:askX d id=(E,ox)):(ox=none→E≠0)∧∀ x,ox=some x→E=0∧x∈d.ords∧x.o.st=2:=by
 unfold askX at h
 split at h
 ·cases h;exact ⟨fun _=>by decide,fun x e=>by cases e⟩
 ·split at h
  ·cases h;exact ⟨fun _=>by decide,fun x e=>by cases e⟩
  ·next x hx =>
   split at h
   ·cases h;exact ⟨fun _=>by decide,fun x e=>by cases e⟩
   ·next h2=>cases h;exact ⟨fun e=>(by cases e),fun y e=>(by cases e;exact ⟨rfl,List.mem_of_getElem? hx,Decidable.not_not.1 h2⟩)⟩
theorem oWish_any (d:DoorX) (id now:Int) (w:World) (hw:DoorW w w.heap.size d) (hu9:d.auts.length<100) (ha9:d.accs.length<100) :
  Calls Tryz.prog 28 #[frontV d,.int .i64 id,.int .i64 now] w (wisPost (wisF d.fro id now) w):=by
 obtain ⟨W0,e0,b0,b1,x0,s0⟩:=startP w #[.int .i64 d.next,.slice d.oA d.opn.length d.oc,.slice d.cA d.accs.length d.cc,.slice d.uA d.auts.length d.uc,.slice d.rA d.ords.length d.rc,.int .i64 d.ser] #[.int .i64 0,.slice none 0 0,.int .u64 0,.int .i64 0] 43 55
 have cC:=oCheck_any d hu9 ha9 W0 (hw.ext x0)
 have cN:=onum_any now
 obtain ⟨E,hE⟩:∃ E,chkF d.fro=E:=⟨_,rfl⟩
 rw [hE] at cC
 have HW:=Lib.hid hw
 have HB0:=Lib.hid b0
 have HB1:=Lib.hid b1
 have HX0:=Lib.hid x0
 have HS0:=Lib.hid s0
 have HE:=Lib.hid hE
 obtain ⟨m0,m1,m2,m3,m4,m5⟩:=arr6f b0
 unfold frontV at cC ⊢
 clear b0 b1 x0 s0 hw hE hu9 ha9
 go_enter Tryz.func28,Tryz.ntmps28
 go_upto_region 1 with (fail)
 try rw [e0]
 clear e0
 by_cases h0:E=0
 case neg =>
  have HR:=Lib.hid (wisF_1 (id:=id) (now:=now) HE.out h0)
  have k0:=ne_beq h0
  clear h0 cN
  go_wp2_with (go_at_call 21;refine cC.mono ?_;clear cC m0 m1 m2 m3 m4 m5;rintro e w1 ⟨rfl,x1⟩;have b1:=ext_blk (x1) HB1.out;obtain ⟨q0,q1,q2,q3,f0,f1,f2,f3⟩:=st4 b1;have BB:=Lib.hid (blk4 b1 (.int .i64 0) (.slice none 0 0) (.int .u64 0) (.int .i64 0));clear b1)
  rw [HR.out]
  obtain ⟨r0,r1,r2,r3⟩:=arr4f BB.out
  refine bodyPost_ret (v:=.tuple #[.agg #[.int .i64 0,.slice none 0 0,.int .u64 0,.int .i64 0],.int .i64 (E:Int)]) (by simp [results,Tryz.results28,go_sem,r0,r1,r2,r3]) rfl (wisPost_bad rfl (ext4 (HX0.out.trans (x1)) (by omega) _ _ _ _))
 subst h0
 by_cases hn:numP now
 case neg =>
  have HR:=Lib.hid (wisF_2 (id:=id) HE.out hn)
  rw [show decide (numP now)=false from decide_eq_false hn] at cN
  clear hn
  go_wp2_with (first|(go_at_call 21;refine cC.mono ?_;clear cC m0 m1 m2 m3 m4 m5;rintro e w1 ⟨rfl,x1⟩;have b1:=ext_blk (x1) HB1.out;obtain ⟨q0,q1,q2,q3,f0,f1,f2,f3⟩:=st4 b1;have BB:=Lib.hid (blk4 b1 (.int .i64 0) (.slice none 0 0) (.int .u64 0) (.int .i64 0));clear b1)|(go_at_call 42;refine (cN _).mono ?_;clear cN;rintro e w2 ⟨rfl,rfl⟩))
  rw [HR.out]
  obtain ⟨r0,r1,r2,r3⟩:=arr4f BB.out
  refine bodyPost_ret (v:=.tuple #[.agg #[.int .i64 0,.slice none 0 0,.int .u64 0,.int .i64 0],.int .i64 1]) (by simp [results,Tryz.results28,go_sem,r0,r1,r2,r3]) rfl (wisPost_bad rfl (ext4 (HX0.out.trans (x1)) (by omega) _ _ _ _))
 rw [show decide (numP now)=true from decide_eq_true hn] at cN
 have HN:=Lib.hid hn
 clear hn
 go_upto_region 6 with (first|(go_at_call 21;refine cC.mono ?_;clear cC m0 m1 m2 m3 m4 m5;rintro e w1 ⟨rfl,x1⟩)|(go_at_call 42;refine (cN _).mono ?_;clear cN;rintro e w2 ⟨rfl,rfl⟩))
 have HX1:=Lib.hid x1
 obtain ⟨m0,m1,m2,m3,m4,m5⟩:=arr6f (ext_blk x1 HB0.out)
 clear x1
 go_upto_region 7 with (fail)
 clear m0 m1 m2 m3 m4 m5
 obtain ⟨W4,e4⟩:∃ W,w1.alloc (.cells #[.int .i64 d.next,.slice d.oA d.opn.length d.oc,.slice d.cA d.accs.length d.cc,.slice d.uA d.auts.length d.uc,.slice d.rA d.ords.length d.rc,.int .i64 d.ser,.int .i64 now] 92)=W:=⟨_,rfl⟩
 try rw [e4]
 have HX4:Hid (Ext W0 W4):=Lib.hid (by rw [← e4];exact HX1.out.alloc _)
 have HD4:Hid (DoorB W4 w1.heap.size d now):=Lib.hid (by rw [← e4];exact Blk.new _ _ _)
 clear e4
 have cA:=asked_any w1.heap.size d now id W4 HW.out.rl HD4.out (HW.out.ext (HX0.out.trans HX4.out)).ord
 unfold askedPost at cA
 cases hax:askX d id with
 | mk E2 ox =>
 have HAF:=askX_f d id
 rw [hax] at cA HAF
 have HP:=Lib.hid (askX_parts hax)
 cases ox with
 | none =>
  have h2:E2≠0:=HP.out.1 rfl
  have HR:=Lib.hid (wisF_3 HE.out HN.out HAF)
  have k0:=ne_beq h2
  clear h2 hax HAF
  unfold askV ordZ at cA
  simp only at cA
  go_upto_region 8 with (go_at_call 74;refine cA.mono ?_;clear cA;rintro e w5 ⟨rfl,x5⟩)
  obtain ⟨W5,e5⟩:∃ W,w5.alloc (.cells #[.int .i64 0,.int .i64 0,.slice none 0 0,.int .u64 0,.int .i64 0,.slice none 0 0,.int .i64 0,.int .i64 0] 78)=W:=⟨_,rfl⟩
  try rw [e5]
  have x5:Ext W0 W5:=by rw [← e5];exact (HX4.out.trans x5).alloc _
  clear e5
  have b1:=ext_blk (x5) HB1.out;obtain ⟨q0,q1,q2,q3,f0,f1,f2,f3⟩:=st4 b1;have BB:=Lib.hid (blk4 b1 (.int .i64 0) (.slice none 0 0) (.int .u64 0) (.int .i64 0));clear b1
  go_wp2
  rw [HR.out]
  obtain ⟨r0,r1,r2,r3⟩:=arr4f BB.out
  refine bodyPost_ret (v:=.tuple #[.agg #[.int .i64 0,.slice none 0 0,.int .u64 0,.int .i64 0],.int .i64 (E2:Int)]) (by simp [results,Tryz.results28,go_sem,r0,r1,r2,r3]) rfl (wisPost_bad rfl (ext4 (HX0.out.trans (x5)) (by omega) _ _ _ _))
 | some x =>
  obtain ⟨rfl,hxm,hst⟩:=HP.out.2 x rfl
  have HXM:=Lib.hid hxm
  have HR0:=Lib.hid (wisF_4 HE.out HN.out HAF)
  clear hax HAF HP hxm hst
  unfold askV ordXV at cA
  simp only at cA
  go_upto_region 8 with (go_at_call 74;refine cA.mono ?_;clear cA;rintro e w5 ⟨rfl,x5⟩)
  obtain ⟨W5,e5⟩:∃ W,w5.alloc (.cells #[.int .i64 x.o.id,.int .i64 x.o.acc,.slice x.nA x.o.names.length x.nc,.int .u64 (x.o.key:Int),.int .i64 x.o.life,.slice x.aA x.o.auths.length x.ac,.int .i64 x.o.st,.int .i64 x.o.ser] 78)=W:=⟨_,rfl⟩
  try rw [e5]
  have HX5:Hid (Ext W0 W5):=Lib.hid (by rw [← e5];exact (HX4.out.trans x5).alloc _)
  have HB5:Hid (Blk W5 w5.heap.size 78 #[.int .i64 x.o.id,.int .i64 x.o.acc,.slice x.nA x.o.names.length x.nc,.int .u64 (x.o.key:Int),.int .i64 x.o.life,.slice x.aA x.o.auths.length x.ac,.int .i64 x.o.st,.int .i64 x.o.ser]):=Lib.hid (by rw [← e5];exact Blk.new _ _ _)
  have HD5:Hid (DoorB W5 w1.heap.size d now):=Lib.hid (by rw [← e5];exact DoorB.ext HD4.out (x5.alloc _))
  have HS5:Hid (W0.heap.size≤w5.heap.size):=Lib.hid (HX4.out.trans x5).size
  clear e5 x5
  have hwx:=HW.out.rw x HXM.out
  have cH:=holds_any w1.heap.size d now x.o.auths (auths_in HE.out x HXM.out) hwx.al HW.out.ul x.aA x.ac W5 HD5.out ((HW.out.ext (HX0.out.trans HX5.out)).rw x HXM.out).auths (HW.out.ext (HX0.out.trans HX5.out)).aut
  have c5:=HB5.out.cell 5
  cases hh:holdsF d.auts x.o.auths now with
  | false =>
   rw [hh] at cH
   have HR:=HR0.out
   rw [dfro_auts,if_pos hh] at HR
   have HR1:=Lib.hid HR
   clear HR HR0 hh hwx
   go_wp2_with (go_at_call 75;refine cH.mono ?_;clear cH;rintro e w6 ⟨rfl,x6⟩;have b1:=ext_blk (HX5.out.trans x6) HB1.out;obtain ⟨q0,q1,q2,q3,f0,f1,f2,f3⟩:=st4 b1;have BB:=Lib.hid (blk4 b1 (.int .i64 0) (.slice none 0 0) (.int .u64 0) (.int .i64 0));clear b1)
   rw [HR1.out]
   obtain ⟨r0,r1,r2,r3⟩:=arr4f BB.out
   refine bodyPost_ret (v:=.tuple #[.agg #[.int .i64 0,.slice none 0 0,.int .u64 0,.int .i64 0],.int .i64 221]) (by simp [results,Tryz.results28,go_sem,r0,r1,r2,r3]) rfl (wisPost_bad rfl (ext4 (HX0.out.trans (HX5.out.trans x6)) (by omega) _ _ _ _))
  | true =>
   rw [hh] at cH
   have HR:=HR0.out
   rw [dfro_auts,if_neg (by rw [hh];simp)] at HR
   have HR1:=Lib.hid HR
   clear HR HR0 hh hwx
   go_upto_region 12 with (go_at_call 75;refine cH.mono ?_;clear cH;rintro e w6 ⟨rfl,x6⟩)
   have HX6:=Lib.hid (HX5.out.trans x6)
   have HB6:=Lib.hid (ext_blk x6 HB5.out)
   have HC12:Hid (∀ W,Ext w6 W→(W.cell? ⟨w5.heap.size,1,none⟩=some (.int .i64 x.o.acc)∧W.cell? ⟨w5.heap.size,2,none⟩=some (.slice x.nA x.o.names.length x.nc)∧W.cell? ⟨w5.heap.size,3,none⟩=some (.int .u64 (x.o.key:Int))∧W.cell? ⟨w5.heap.size,4,none⟩=some (.int .i64 x.o.life))):=Lib.hid fun W y =>
    ⟨(ext_blk y HB6.out).cell 1,(ext_blk y HB6.out).cell 2,(ext_blk y HB6.out).cell 3,(ext_blk y HB6.out).cell 4⟩
   have cT:=cloneT_any x.nA x.o.names.length x.nc (tv x.o.names) (tv_one _) (HW.out.rw x HXM.out).nl w6.drew ((HW.out.ext (HX0.out.trans (HX6.out.drew))).rw x HXM.out).names
   clear x6 c5
   refine E_start (n:=13) (ls:=#[false,false,false,false,false,false,false,false,false,false,false,false,false]) (fun w'=>w'.cell? ⟨w5.heap.size,1,none⟩=some (.int .i64 x.o.acc)∧w'.cell? ⟨w5.heap.size,2,none⟩=some (.slice x.nA x.o.names.length x.nc)∧w'.cell? ⟨w5.heap.size,3,none⟩=some (.int .u64 (x.o.key:Int))∧w'.cell? ⟨w5.heap.size,4,none⟩=some (.int .i64 x.o.life)) 12 (by kernel_rfl) (by kernel_rfl) (by kernel_rfl) (HC12.out _ (Ext.refl w6).drew) (fun hHeld=>?_)
   refine E_tk (i:=0) (some 42) (v:=?_) rfl rfl (by kernel_rfl) hHeld (fun w hSw=>?_) ?_;rotate_left 1
   ·(try dsimp only at hSw);go_simp;try with_reducible rfl
   try simp only [Act.put,zpA,zpB,zpC]
   refine E_tk (i:=1) (some 43) (v:=?_) rfl rfl (by kernel_rfl) hHeld (fun w hSw=>?_) ?_;rotate_left 1
   ·(try dsimp only at hSw);go_simp;try with_reducible rfl
   try simp only [Act.put,zpA,zpB,zpC]
   refine E_tk (i:=2) (some 44) (v:=?_) rfl rfl (by kernel_rfl) hHeld (fun w hSw=>?_) ?_;rotate_left 1
   ·(try dsimp only at hSw);go_simp;try with_reducible rfl
   try simp only [Act.put,zpA,zpB,zpC]
   refine E_tk (i:=3) (some 45) (v:=?_) rfl rfl (by kernel_rfl) hHeld (fun w hSw=>?_) ?_;rotate_left 1
   ·(try dsimp only at hSw);go_simp;try with_reducible rfl
   try simp only [Act.put,zpA,zpB,zpC]
   refine E_tk (i:=5) (some 47) (v:=?_) rfl rfl (by kernel_rfl) hHeld (fun w hSw=>?_) ?_;rotate_left 1
   ·(try dsimp only at hSw);go_simp;try with_reducible rfl
   try simp only [Act.put,zpA,zpB,zpC]
   refine E_tk (i:=6) (some 48) (v:=?_) rfl rfl (by kernel_rfl) hHeld (fun w hSw=>?_) ?_;rotate_left 1
   ·(try dsimp only at hSw);go_simp;try with_reducible rfl
   try simp only [Act.put,zpA,zpB,zpC]
   refine E_tk (i:=7) (some 49) (v:=?_) rfl rfl (by kernel_rfl) hHeld (fun w hSw=>?_) ?_;rotate_left 1
   ·(try dsimp only at hSw);go_simp;try with_reducible rfl
   try simp only [Act.put,zpA,zpB,zpC]
   refine E_tk (i:=8) (some 50) (v:=?_) rfl rfl (by kernel_rfl) hHeld (fun w hSw=>?_) ?_;rotate_left 1
   ·(try dsimp only at hSw);go_simp;try with_reducible rfl
   try simp only [Act.put,zpA,zpB,zpC]
   refine E_tk (i:=10) (some 52) (v:=?_) rfl rfl (by kernel_rfl) hHeld (fun w hSw=>?_) ?_;rotate_left 1
   ·(try dsimp only at hSw);go_simp;try with_reducible rfl
   try simp only [Act.put,zpA,zpB,zpC]
   refine E_on (i:=4) rfl (by kernel_rfl) (by kernel_rfl) (fun K hK=>?_)
   go_simp
   go_at_call 76
   refine cT.mono ?_
   clear cT
   rintro e w7 ⟨v7,rfl,ho7,x7⟩
   have X7:Ext w6 w7:=(Ext.refl w6).drew.trans x7
   obtain ⟨A7,c7,rfl,hc7,-⟩:=own_slice ho7
   have HO7:=Lib.hid ho7
   have HX7:=Lib.hid (HX6.out.trans X7)
   have HB7:=Lib.hid (ext_blk X7 HB6.out)
   have b1:=ext_blk HX7.out HB1.out
   obtain ⟨q0,q1,q2,q3,f0,f1,f2,f3⟩:=st4 b1
   have BB:=Lib.hid (blk4 b1 (.int .i64 x.o.acc) (.slice A7 x.o.names.length c7) (.int .u64 (x.o.key:Int)) (.int .i64 x.o.life))
   have hne:w5.heap.size≠w.heap.size+1:=by have:=HS5.out;have:=HS0.out;omega
   have HB8:=Lib.hid ((((HB7.out.far (p:=⟨w.heap.size+1,0,none⟩) hne (.int .i64 x.o.acc)).far (p:=⟨w.heap.size+1,1,none⟩) hne (.slice A7 x.o.names.length c7)).far (p:=⟨w.heap.size+1,2,none⟩) hne (.int .u64 (x.o.key:Int))).far (p:=⟨w.heap.size+1,3,none⟩) hne (.int .i64 x.o.life))
   clear b1 hne
   replace hHeld:=HC12.out _ X7
   refine hK _ _ (fun _=>hHeld) ?_
   clear hK K
   try simp only [Act.put,zpA,zpB,zpC]
   refine E_tk (i:=9) (some 51) (v:=?_) rfl rfl (by kernel_rfl) hHeld (fun w hSw=>?_) ?_;rotate_left 1
   ·(try dsimp only at hSw);go_simp;try with_reducible rfl
   try simp only [Act.put,zpA,zpB,zpC]
   refine E_on (i:=11) rfl (by kernel_rfl) (by kernel_rfl) (fun K hK=>?_)
   go_simp
   replace hHeld:=(show _∧_∧_∧_ from ⟨HB8.out.cell 1,HB8.out.cell 2,HB8.out.cell 3,HB8.out.cell 4⟩)
   refine hK _ _ (fun _=>hHeld) ?_
   clear hK K
   try simp only [Act.put,zpA,zpB,zpC]
   refine E_on (i:=12) rfl (by kernel_rfl) (by kernel_rfl) (fun K hK=>?_)
   go_simp
   refine hK _ _ (fun h=>absurd rfl h) ?_
   clear hK K
   try simp only [Act.put,zpA,zpB,zpC]
   refine E_done (by kernel_rfl) ?_
   clear hHeld HC12
   have hs0:=HS0.out
   have hw7:W0.heap.size≤w6.drew.heap.size:=HX6.out.size
   go_wp2
   rw [HR1.out]
   obtain ⟨r0,r1,r2,r3⟩:=arr4f BB.out
   refine bodyPost_ret (v:=.tuple #[.agg #[.int .i64 x.o.acc,.slice A7 x.o.names.length c7,.int .u64 (x.o.key:Int),.int .i64 x.o.life],.int .i64 0]) (by simp [results,Tryz.results28,go_sem,r0,r1,r2,r3]) rfl ⟨A7,c7,rfl,?_,hc7,ext4 (HX0.out.trans HX7.out) (by omega) _ _ _ _⟩
   exact Reads.of_own (own_far (own_far (own_far (own_far HO7.out (g:=w.heap.size+1) (by omega) 0 (.int .i64 x.o.acc)) (g:=w.heap.size+1) (by omega) 1 (.slice A7 x.o.names.length c7)) (g:=w.heap.size+1) (by omega) 2 (.int .u64 (x.o.key:Int))) (g:=w.heap.size+1) (by omega) 3 (.int .i64 x.o.life))
