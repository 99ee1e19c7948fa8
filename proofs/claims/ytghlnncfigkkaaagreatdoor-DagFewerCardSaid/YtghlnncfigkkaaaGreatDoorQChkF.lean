/-
 Walks of the shape of an expression that is made of such ones.
-/
import Derived.Test.YtghlnncfigkkaaaGreatDoorQChkD
import Derived.BigQuiet
import Derived.Deep.RegionWith
set_option maxRecDepth 100000
set_option maxHeartbeats 4000000
open Go.Lib (hid)
namespace Go.Proofs.YtghlnncfigkkaaaGreatDoor
set_option linter.unusedVariables false
set_option linter.unusedSimpArgs false
open Go.RowKit
def ShL (X:Nat→Prop) (w:World) (A:Option Addr) (xs:List (List Int)):Prop:=∃ vs:List Value,vs.length=xs.length∧Rd w w.heap.size A vs∧∀ (j:Nat) (v:Value) (l:List Int),vs[j]?=some v→xs[j]?=some l→ShV X w v l
theorem ShL.cells {X:Nat→Prop} {w:World} {A:Option Addr} {xs:List (List Int)} (h:ShL X w A xs) (hl:0<xs.length):∃ b o,A=some ⟨b,o,none⟩∧b<w.heap.size∧∀ (j:Nat) (l:List Int),xs[j]?=some l→∃ v,w.cell? ⟨b,o+j,none⟩=some v∧ShV X w v l:=by
 obtain ⟨vs,h1,h2,h3⟩:=h
 rcases h2 with h2 | ⟨b,o,hA,hb,hc⟩
 ·subst h2
  simp at h1
  omega
 ·refine ⟨b,o,hA,hb,fun j l hj => ?_⟩
  have hlt:j<vs.length:=by rw [h1];exact (Kaf.1 hj).1
  exact ⟨vs[j],hc j _ (Kad hlt),h3 j _ _ (Kad hlt) hj⟩
theorem ShL.keep {X:Nat→Prop} {w w':World} {A:Option Addr} {xs:List (List Int)} (h:ShL X w A xs) (hb:Below w.heap.size w w'):ShL X w' A xs:=by
 obtain ⟨vs,h1,h2,h3⟩:=h
 exact ⟨vs,h1,h2.next hb,fun j v l hv hl=>(h3 j v l hv hl).next hb⟩
theorem ZlY (X:Nat→Prop) (nm:ByteArray) (num:Nat) (av:Value) (pos:Int) (XA:Option Addr) (xc:Nat) (w:World) (hX:∀ k,X k→k<w.heap.size) (hL:ShL X w XA ([]:List (List Int))):
  Calls Tryz.prog 152 #[.agg #[.int .i64 1,.string nm,.int .u64 (num:Int),av,.int .i64 pos],.slice XA 0 xc] w fun e w'=>∃ v,e=.returned (.tuple #[v,.bool (Zab 1 num []).2])∧ShV X w' v (Zab 1 num []).1∧Below w.heap.size w w':=by
 obtain ⟨w2,hw2⟩:∃ w2,w2=w.alloc (.cells #[.int .i64 1,.string nm,.int .u64 (num:Int),av,.int .i64 pos] 90):=⟨_,rfl⟩
 have hb2:Below w.heap.size w w2:=by rw [hw2];exact (Kai _ _).alloc (Kag _) _
 have hE:w2.heap[w.heap.size]?=some (.cells #[.int .i64 1,.string nm,.int .u64 (num:Int),av,.int .i64 pos] 90 (0,0)):=by rw [hw2];exact Kac w _
 have HW2:=hid hw2
 have HB2:=hid hb2
 have HXX:=hid (fun k hk=>Kae (hX k hk) hb2.size)
 have e0:=Kaa _ _ 0 _ _ _ hE
 have e2:=Kaa _ _ 2 _ _ _ hE
 clear hL hX
 have HQ:=hid (show Zab 1 num []=([],true) from rfl)
 clear hw2 hb2 hE
 go_enter Tryz.func152,Tryz.ntmps152
 go_wp2_with fail
 rw [←HW2.out]
 go_wp2
 go_ret2
 exact ⟨_,by rw [HQ.out];rfl,by rw [HQ.out];exact ShV.nil _ _,HB2.out⟩
theorem ZlZ (X:Nat→Prop) (nm:ByteArray) (num:Nat) (av:Value) (pos:Int) (XA:Option Addr) (xc:Nat) (w:World) (hX:∀ k,X k→k<w.heap.size) (hL:ShL X w XA ([]:List (List Int))):
  Calls Tryz.prog 152 #[.agg #[.int .i64 2,.string nm,.int .u64 (num:Int),av,.int .i64 pos],.slice XA 0 xc] w fun e w'=>∃ v,e=.returned (.tuple #[v,.bool (Zab 2 num []).2])∧ShV X w' v (Zab 2 num []).1∧Below w.heap.size w w':=by
 obtain ⟨w2,hw2⟩:∃ w2,w2=w.alloc (.cells #[.int .i64 2,.string nm,.int .u64 (num:Int),av,.int .i64 pos] 90):=⟨_,rfl⟩
 have hb2:Below w.heap.size w w2:=by rw [hw2];exact (Kai _ _).alloc (Kag _) _
 have hE:w2.heap[w.heap.size]?=some (.cells #[.int .i64 2,.string nm,.int .u64 (num:Int),av,.int .i64 pos] 90 (0,0)):=by rw [hw2];exact Kac w _
 have HW2:=hid hw2
 have HB2:=hid hb2
 have HXX:=hid (fun k hk=>Kae (hX k hk) hb2.size)
 have e0:=Kaa _ _ 0 _ _ _ hE
 have e2:=Kaa _ _ 2 _ _ _ hE
 clear hL hX
 have HQ:=hid (show Zab 2 num []=([],true) from rfl)
 clear hw2 hb2 hE
 go_enter Tryz.func152,Tryz.ntmps152
 go_wp2_with fail
 rw [←HW2.out]
 go_wp2
 go_ret2
 exact ⟨_,by rw [HQ.out];rfl,by rw [HQ.out];exact ShV.nil _ _,HB2.out⟩
theorem Zki (X:Nat→Prop) (nm:ByteArray) (num:Nat) (av:Value) (pos:Int) (x0:List Int) (XA:Option Addr) (xc:Nat) (w:World) (hX:∀ k,X k→k<w.heap.size) (hL:ShL X w XA [x0]):
  Calls Tryz.prog 152 #[.agg #[.int .i64 11,.string nm,.int .u64 (num:Int),av,.int .i64 pos],.slice XA 1 xc] w fun e w'=>∃ v,e=.returned (.tuple #[v,.bool (Zab 11 num [x0]).2])∧ShV X w' v (Zab 11 num [x0]).1∧Below w.heap.size w w':=by
 obtain ⟨w2,hw2⟩:∃ w2,w2=w.alloc (.cells #[.int .i64 11,.string nm,.int .u64 (num:Int),av,.int .i64 pos] 90):=⟨_,rfl⟩
 have hb2:Below w.heap.size w w2:=by rw [hw2];exact (Kai _ _).alloc (Kag _) _
 have hE:w2.heap[w.heap.size]?=some (.cells #[.int .i64 11,.string nm,.int .u64 (num:Int),av,.int .i64 pos] 90 (0,0)):=by rw [hw2];exact Kac w _
 have HW2:=hid hw2
 have HB2:=hid hb2
 have HXX:=hid (fun k hk=>Kae (hX k hk) hb2.size)
 have e0:=Kaa _ _ 0 _ _ _ hE
 have e2:=Kaa _ _ 2 _ _ _ hE
 obtain ⟨b,o,rfl,hb,hc⟩:=(hL.keep hb2).cells (by simp)
 obtain ⟨v0,c0,s0⟩:=hc 0 x0 rfl
 have HS0:=hid s0
 obtain ⟨A0,k0,rfl,p0,pp0,l0,r0⟩:=s0
 have c0:w2.cell? ⟨b,o,none⟩=_:=c0
 obtain ⟨n0,hn0⟩:∃ n,n=x0.length:=⟨_,rfl⟩
 have HR0:=hid r0.rd
 rw [←hn0] at c0 p0 l0 HS0
 have HN0:=hid hn0
 have cu0:=c0
 rw [hw2] at cu0
 have HC:=hid hc
 clear hc hL hX r0
 have HQ:=hid (show Zab 11 num [x0]=([],true) from rfl)
 clear hw2 hb2 hE hn0
 go_enter Tryz.func152,Tryz.ntmps152
 go_wp2_with fail
 rw [←HW2.out]
 go_wp2
 go_ret2
 exact ⟨_,by rw [HQ.out];rfl,by rw [HQ.out];exact ShV.nil _ _,HB2.out⟩
theorem Zma (X:Nat→Prop) (nm:ByteArray) (num:Nat) (av:Value) (pos:Int) (x0:List Int) (XA:Option Addr) (xc:Nat) (w:World) (hX:∀ k,X k→k<w.heap.size) (hL:ShL X w XA [x0]):
  Calls Tryz.prog 152 #[.agg #[.int .i64 3,.string nm,.int .u64 (num:Int),av,.int .i64 pos],.slice XA 1 xc] w fun e w'=>∃ v,e=.returned (.tuple #[v,.bool (Zab 3 num [x0]).2])∧ShV X w' v (Zab 3 num [x0]).1∧Below w.heap.size w w':=by
 obtain ⟨w2,hw2⟩:∃ w2,w2=w.alloc (.cells #[.int .i64 3,.string nm,.int .u64 (num:Int),av,.int .i64 pos] 90):=⟨_,rfl⟩
 have hb2:Below w.heap.size w w2:=by rw [hw2];exact (Kai _ _).alloc (Kag _) _
 have hE:w2.heap[w.heap.size]?=some (.cells #[.int .i64 3,.string nm,.int .u64 (num:Int),av,.int .i64 pos] 90 (0,0)):=by rw [hw2];exact Kac w _
 have HW2:=hid hw2
 have HB2:=hid hb2
 have HXX:=hid (fun k hk=>Kae (hX k hk) hb2.size)
 have e0:=Kaa _ _ 0 _ _ _ hE
 have e2:=Kaa _ _ 2 _ _ _ hE
 obtain ⟨b,o,rfl,hb,hc⟩:=(hL.keep hb2).cells (by simp)
 obtain ⟨v0,c0,s0⟩:=hc 0 x0 rfl
 have HS0:=hid s0
 obtain ⟨A0,k0,rfl,p0,pp0,l0,r0⟩:=s0
 have c0:w2.cell? ⟨b,o,none⟩=_:=c0
 obtain ⟨n0,hn0⟩:∃ n,n=x0.length:=⟨_,rfl⟩
 have HR0:=hid r0.rd
 rw [←hn0] at c0 p0 l0 HS0
 have HN0:=hid hn0
 have cu0:=c0
 rw [hw2] at cu0
 have HC:=hid hc
 clear hc hL hX r0
 have HQ:=hid (show Zab 3 num [x0]=(x0,true) from rfl)
 clear hw2 hb2 hE hn0
 go_enter Tryz.func152,Tryz.ntmps152
 go_wp2_with fail
 rw [←HW2.out]
 go_wp2
 go_ret2
 exact ⟨_,by rw [HQ.out];rfl,by rw [HQ.out];exact HS0.out,HB2.out⟩
theorem Zkj (X:Nat→Prop) (nm:ByteArray) (num:Nat) (av:Value) (pos:Int) (x0:List Int) (XA:Option Addr) (xc:Nat) (w:World) (hX:∀ k,X k→k<w.heap.size) (hL:ShL X w XA [x0]):
  Calls Tryz.prog 152 #[.agg #[.int .i64 10,.string nm,.int .u64 (num:Int),av,.int .i64 pos],.slice XA 1 xc] w fun e w'=>∃ v,e=.returned (.tuple #[v,.bool (Zab 10 num [x0]).2])∧ShV X w' v (Zab 10 num [x0]).1∧Below w.heap.size w w':=by
 obtain ⟨w2,hw2⟩:∃ w2,w2=w.alloc (.cells #[.int .i64 10,.string nm,.int .u64 (num:Int),av,.int .i64 pos] 90):=⟨_,rfl⟩
 have hb2:Below w.heap.size w w2:=by rw [hw2];exact (Kai _ _).alloc (Kag _) _
 have hE:w2.heap[w.heap.size]?=some (.cells #[.int .i64 10,.string nm,.int .u64 (num:Int),av,.int .i64 pos] 90 (0,0)):=by rw [hw2];exact Kac w _
 have HW2:=hid hw2
 have HB2:=hid hb2
 have HXX:=hid (fun k hk=>Kae (hX k hk) hb2.size)
 have e0:=Kaa _ _ 0 _ _ _ hE
 have e2:=Kaa _ _ 2 _ _ _ hE
 obtain ⟨b,o,rfl,hb,hc⟩:=(hL.keep hb2).cells (by simp)
 obtain ⟨v0,c0,s0⟩:=hc 0 x0 rfl
 have HS0:=hid s0
 obtain ⟨A0,k0,rfl,p0,pp0,l0,r0⟩:=s0
 have c0:w2.cell? ⟨b,o,none⟩=_:=c0
 obtain ⟨n0,hn0⟩:∃ n,n=x0.length:=⟨_,rfl⟩
 have HR0:=hid r0.rd
 rw [←hn0] at c0 p0 l0 HS0
 have HN0:=hid hn0
 have cu0:=c0
 rw [hw2] at cu0
 have HC:=hid hc
 clear hc hL hX r0
 have HQ:=hid (show Zab 10 num [x0]=(x0,true) from rfl)
 clear hw2 hb2 hE hn0
 go_enter Tryz.func152,Tryz.ntmps152
 go_wp2_with fail
 rw [←HW2.out]
 go_wp2
 go_ret2
 exact ⟨_,by rw [HQ.out];rfl,by rw [HQ.out];exact HS0.out,HB2.out⟩
theorem Zmb (X:Nat→Prop) (nm:ByteArray) (num:Nat) (av:Value) (pos:Int) (x0:List Int) (XA:Option Addr) (xc:Nat) (w:World) (hX:∀ k,X k→k<w.heap.size) (hL:ShL X w XA [x0]):
  Calls Tryz.prog 152 #[.agg #[.int .i64 9,.string nm,.int .u64 (num:Int),av,.int .i64 pos],.slice XA 1 xc] w fun e w'=>∃ v,e=.returned (.tuple #[v,.bool (Zab 9 num [x0]).2])∧ShV X w' v (Zab 9 num [x0]).1∧Below w.heap.size w w':=by
 obtain ⟨w2,hw2⟩:∃ w2,w2=w.alloc (.cells #[.int .i64 9,.string nm,.int .u64 (num:Int),av,.int .i64 pos] 90):=⟨_,rfl⟩
 have hb2:Below w.heap.size w w2:=by rw [hw2];exact (Kai _ _).alloc (Kag _) _
 have hE:w2.heap[w.heap.size]?=some (.cells #[.int .i64 9,.string nm,.int .u64 (num:Int),av,.int .i64 pos] 90 (0,0)):=by rw [hw2];exact Kac w _
 have HW2:=hid hw2
 have HB2:=hid hb2
 have HXX:=hid (fun k hk=>Kae (hX k hk) hb2.size)
 have e0:=Kaa _ _ 0 _ _ _ hE
 have e2:=Kaa _ _ 2 _ _ _ hE
 obtain ⟨b,o,rfl,hb,hc⟩:=(hL.keep hb2).cells (by simp)
 obtain ⟨v0,c0,s0⟩:=hc 0 x0 rfl
 have HS0:=hid s0
 obtain ⟨A0,k0,rfl,p0,pp0,l0,r0⟩:=s0
 have c0:w2.cell? ⟨b,o,none⟩=_:=c0
 obtain ⟨n0,hn0⟩:∃ n,n=x0.length:=⟨_,rfl⟩
 have HR0:=hid r0.rd
 rw [←hn0] at c0 p0 l0 HS0
 have HN0:=hid hn0
 have cu0:=c0
 rw [hw2] at cu0
 have HC:=hid hc
 clear hc hL hX r0
 have HQ:=hid (show Zab 9 num [x0]=(x0,decide (num≤63)) from rfl)
 have HD:=hid (show decide (num≤63)=decide ((num:Int)≤63) from by simp;omega)
 clear hw2 hb2 hE hn0
 go_enter Tryz.func152,Tryz.ntmps152
 go_wp2_with fail
 rw [←HW2.out]
 go_wp2_with fail
 go_quiet (fail)
 go_wp2
 go_ret2
 exact ⟨_,by rw [HQ.out,HD.out];rfl,by rw [HQ.out];exact HS0.out.keep (Zag _ _ _),Zaa HB2.out _⟩
theorem Zkk (X:Nat→Prop) (nm:ByteArray) (num:Nat) (av:Value) (pos:Int) (x0:List Int) (XA:Option Addr) (xc:Nat) (w:World) (hX:∀ k,X k→k<w.heap.size) (hL:ShL X w XA [x0]):
  Calls Tryz.prog 152 #[.agg #[.int .i64 12,.string nm,.int .u64 (num:Int),av,.int .i64 pos],.slice XA 1 xc] w fun e w'=>∃ v,e=.returned (.tuple #[v,.bool (Zab 12 num [x0]).2])∧ShV X w' v (Zab 12 num [x0]).1∧Below w.heap.size w w':=by
 obtain ⟨w2,hw2⟩:∃ w2,w2=w.alloc (.cells #[.int .i64 12,.string nm,.int .u64 (num:Int),av,.int .i64 pos] 90):=⟨_,rfl⟩
 have hb2:Below w.heap.size w w2:=by rw [hw2];exact (Kai _ _).alloc (Kag _) _
 have hE:w2.heap[w.heap.size]?=some (.cells #[.int .i64 12,.string nm,.int .u64 (num:Int),av,.int .i64 pos] 90 (0,0)):=by rw [hw2];exact Kac w _
 have HW2:=hid hw2
 have HB2:=hid hb2
 have HXX:=hid (fun k hk=>Kae (hX k hk) hb2.size)
 have e0:=Kaa _ _ 0 _ _ _ hE
 have e2:=Kaa _ _ 2 _ _ _ hE
 obtain ⟨b,o,rfl,hb,hc⟩:=(hL.keep hb2).cells (by simp)
 obtain ⟨v0,c0,s0⟩:=hc 0 x0 rfl
 have HS0:=hid s0
 obtain ⟨A0,k0,rfl,p0,pp0,l0,r0⟩:=s0
 have c0:w2.cell? ⟨b,o,none⟩=_:=c0
 obtain ⟨n0,hn0⟩:∃ n,n=x0.length:=⟨_,rfl⟩
 have HR0:=hid r0.rd
 rw [←hn0] at c0 p0 l0 HS0
 have HN0:=hid hn0
 have cu0:=c0
 rw [hw2] at cu0
 have HC:=hid hc
 clear hc hL hX r0
 have HQ:=hid (show Zab 12 num [x0]=([],x0.length==1) from rfl)
 have HD:=hid (show (x0.length==1)=((n0:Int)==1) from by
  rw [←hn0]
  by_cases h:n0=1
  ·subst h;rfl
  ·rw [Kaj.2 h,Kaj.2 (by omega)])
 clear hw2 hb2 hE hn0
 go_enter Tryz.func152,Tryz.ntmps152
 go_wp2_with fail
 rw [←HW2.out]
 go_wp2_with fail
 go_quiet (fail)
 go_wp2
 go_ret2
 exact ⟨_,by rw [HQ.out,HD.out];rfl,by rw [HQ.out];exact ShV.nil _ _,Zaa HB2.out _⟩
theorem Zmc (X:Nat→Prop) (nm:ByteArray) (num:Nat) (av:Value) (pos:Int) (x0 x1:List Int) (XA:Option Addr) (xc:Nat) (w:World) (hX:∀ k,X k→k<w.heap.size) (hL:ShL X w XA [x0,x1]):
  Calls Tryz.prog 152 #[.agg #[.int .i64 4,.string nm,.int .u64 (num:Int),av,.int .i64 pos],.slice XA 2 xc] w fun e w'=>∃ v,e=.returned (.tuple #[v,.bool (Zab 4 num [x0,x1]).2])∧ShV X w' v (Zab 4 num [x0,x1]).1∧Below w.heap.size w w':=by
 obtain ⟨w2,hw2⟩:∃ w2,w2=w.alloc (.cells #[.int .i64 4,.string nm,.int .u64 (num:Int),av,.int .i64 pos] 90):=⟨_,rfl⟩
 have hb2:Below w.heap.size w w2:=by rw [hw2];exact (Kai _ _).alloc (Kag _) _
 have hE:w2.heap[w.heap.size]?=some (.cells #[.int .i64 4,.string nm,.int .u64 (num:Int),av,.int .i64 pos] 90 (0,0)):=by rw [hw2];exact Kac w _
 have HW2:=hid hw2
 have HB2:=hid hb2
 have HXX:=hid (fun k hk=>Kae (hX k hk) hb2.size)
 have e0:=Kaa _ _ 0 _ _ _ hE
 have e2:=Kaa _ _ 2 _ _ _ hE
 obtain ⟨b,o,rfl,hb,hc⟩:=(hL.keep hb2).cells (by simp)
 obtain ⟨v0,c0,s0⟩:=hc 0 x0 rfl
 have HS0:=hid s0
 obtain ⟨A0,k0,rfl,p0,pp0,l0,r0⟩:=s0
 obtain ⟨v1,c1,s1⟩:=hc 1 x1 rfl
 have HS1:=hid s1
 obtain ⟨A1,k1,rfl,p1,pp1,l1,r1⟩:=s1
 have c0:w2.cell? ⟨b,o,none⟩=_:=c0
 obtain ⟨n0,hn0⟩:∃ n,n=x0.length:=⟨_,rfl⟩
 have HR0:=hid r0.rd
 obtain ⟨n1,hn1⟩:∃ n,n=x1.length:=⟨_,rfl⟩
 have HR1:=hid r1.rd
 rw [←hn0] at c0 p0 l0 HS0
 have HN0:=hid hn0
 rw [←hn1] at c1 p1 l1 HS1
 have HN1:=hid hn1
 have cu0:=c0
 rw [hw2] at cu0
 have cu1:=c1
 rw [hw2] at cu1
 have HC:=hid hc
 clear hc hL hX r0 r1
 have HQ:=hid (show Zab 4 num [x0,x1]=wideP x0 x1 from rfl)
 have HWD:=hid (fun q=>ZcD X _ _ x0 x1 (w2.drewN q) (HS0.out.keep (Zag _ _ _)) (HS1.out.keep (Zag _ _ _)))
 obtain ⟨bo,hbo⟩:∃ bo,bo=(wideP x0 x1).2:=⟨_,rfl⟩
 obtain ⟨wv,hwv⟩:∃ wv,wv=wideV x0 (.slice A0 n0 k0) (.slice A1 n1 k1):=⟨_,rfl⟩
 rw [←hbo,←hwv] at HWD
 have HBO:=hid hbo
 have HWV:=hid hwv
 clear hbo hwv
 clear hw2 hb2 hE hn0 hn1
 go_enter Tryz.func152,Tryz.ntmps152
 go_wp2_with fail
 rw [←HW2.out]
 go_wp2_with fail
 go_quiet ((go_at_call 180;exact Calls.quiet_of (HWD.out _)))
 go_wp2
 go_ret2
 exact ⟨_,by rw [HQ.out,←HBO.out];rfl,by rw [HQ.out];show ShV X _ wv _;rw [HWV.out];exact (ZcC HS0.out HS1.out).keep (Zag _ _ _),Zaa HB2.out _⟩
theorem Zmd (X:Nat→Prop) (nm:ByteArray) (num:Nat) (av:Value) (pos:Int) (x0 x1:List Int) (XA:Option Addr) (xc:Nat) (w:World) (hX:∀ k,X k→k<w.heap.size) (hL:ShL X w XA [x0,x1]):
  Calls Tryz.prog 152 #[.agg #[.int .i64 5,.string nm,.int .u64 (num:Int),av,.int .i64 pos],.slice XA 2 xc] w fun e w'=>∃ v,e=.returned (.tuple #[v,.bool (Zab 5 num [x0,x1]).2])∧ShV X w' v (Zab 5 num [x0,x1]).1∧Below w.heap.size w w':=by
 obtain ⟨w2,hw2⟩:∃ w2,w2=w.alloc (.cells #[.int .i64 5,.string nm,.int .u64 (num:Int),av,.int .i64 pos] 90):=⟨_,rfl⟩
 have hb2:Below w.heap.size w w2:=by rw [hw2];exact (Kai _ _).alloc (Kag _) _
 have hE:w2.heap[w.heap.size]?=some (.cells #[.int .i64 5,.string nm,.int .u64 (num:Int),av,.int .i64 pos] 90 (0,0)):=by rw [hw2];exact Kac w _
 have HW2:=hid hw2
 have HB2:=hid hb2
 have HXX:=hid (fun k hk=>Kae (hX k hk) hb2.size)
 have e0:=Kaa _ _ 0 _ _ _ hE
 have e2:=Kaa _ _ 2 _ _ _ hE
 obtain ⟨b,o,rfl,hb,hc⟩:=(hL.keep hb2).cells (by simp)
 obtain ⟨v0,c0,s0⟩:=hc 0 x0 rfl
 have HS0:=hid s0
 obtain ⟨A0,k0,rfl,p0,pp0,l0,r0⟩:=s0
 obtain ⟨v1,c1,s1⟩:=hc 1 x1 rfl
 have HS1:=hid s1
 obtain ⟨A1,k1,rfl,p1,pp1,l1,r1⟩:=s1
 have c0:w2.cell? ⟨b,o,none⟩=_:=c0
 obtain ⟨n0,hn0⟩:∃ n,n=x0.length:=⟨_,rfl⟩
 have HR0:=hid r0.rd
 obtain ⟨n1,hn1⟩:∃ n,n=x1.length:=⟨_,rfl⟩
 have HR1:=hid r1.rd
 rw [←hn0] at c0 p0 l0 HS0
 have HN0:=hid hn0
 rw [←hn1] at c1 p1 l1 HS1
 have HN1:=hid hn1
 have cu0:=c0
 rw [hw2] at cu0
 have cu1:=c1
 rw [hw2] at cu1
 have HC:=hid hc
 clear hc hL hX r0 r1
 have HQ:=hid (show Zab 5 num [x0,x1]=wideP x0 x1 from rfl)
 have HWD:=hid (fun q=>ZcD X _ _ x0 x1 (w2.drewN q) (HS0.out.keep (Zag _ _ _)) (HS1.out.keep (Zag _ _ _)))
 obtain ⟨bo,hbo⟩:∃ bo,bo=(wideP x0 x1).2:=⟨_,rfl⟩
 obtain ⟨wv,hwv⟩:∃ wv,wv=wideV x0 (.slice A0 n0 k0) (.slice A1 n1 k1):=⟨_,rfl⟩
 rw [←hbo,←hwv] at HWD
 have HBO:=hid hbo
 have HWV:=hid hwv
 clear hbo hwv
 clear hw2 hb2 hE hn0 hn1
 go_enter Tryz.func152,Tryz.ntmps152
 go_wp2_with fail
 rw [←HW2.out]
 go_wp2_with fail
 go_quiet ((go_at_call 180;exact Calls.quiet_of (HWD.out _)))
 go_wp2
 go_ret2
 exact ⟨_,by rw [HQ.out,←HBO.out];rfl,by rw [HQ.out];show ShV X _ wv _;rw [HWV.out];exact (ZcC HS0.out HS1.out).keep (Zag _ _ _),Zaa HB2.out _⟩
theorem Zme (X:Nat→Prop) (nm:ByteArray) (num:Nat) (av:Value) (pos:Int) (x0 x1:List Int) (XA:Option Addr) (xc:Nat) (w:World) (hX:∀ k,X k→k<w.heap.size) (hL:ShL X w XA [x0,x1]):
  Calls Tryz.prog 152 #[.agg #[.int .i64 6,.string nm,.int .u64 (num:Int),av,.int .i64 pos],.slice XA 2 xc] w fun e w'=>∃ v,e=.returned (.tuple #[v,.bool (Zab 6 num [x0,x1]).2])∧ShV X w' v (Zab 6 num [x0,x1]).1∧Below w.heap.size w w':=by
 obtain ⟨w2,hw2⟩:∃ w2,w2=w.alloc (.cells #[.int .i64 6,.string nm,.int .u64 (num:Int),av,.int .i64 pos] 90):=⟨_,rfl⟩
 have hb2:Below w.heap.size w w2:=by rw [hw2];exact (Kai _ _).alloc (Kag _) _
 have hE:w2.heap[w.heap.size]?=some (.cells #[.int .i64 6,.string nm,.int .u64 (num:Int),av,.int .i64 pos] 90 (0,0)):=by rw [hw2];exact Kac w _
 have HW2:=hid hw2
 have HB2:=hid hb2
 have HXX:=hid (fun k hk=>Kae (hX k hk) hb2.size)
 have e0:=Kaa _ _ 0 _ _ _ hE
 have e2:=Kaa _ _ 2 _ _ _ hE
 obtain ⟨b,o,rfl,hb,hc⟩:=(hL.keep hb2).cells (by simp)
 obtain ⟨v0,c0,s0⟩:=hc 0 x0 rfl
 have HS0:=hid s0
 obtain ⟨A0,k0,rfl,p0,pp0,l0,r0⟩:=s0
 obtain ⟨v1,c1,s1⟩:=hc 1 x1 rfl
 have HS1:=hid s1
 obtain ⟨A1,k1,rfl,p1,pp1,l1,r1⟩:=s1
 have c0:w2.cell? ⟨b,o,none⟩=_:=c0
 obtain ⟨n0,hn0⟩:∃ n,n=x0.length:=⟨_,rfl⟩
 have HR0:=hid r0.rd
 obtain ⟨n1,hn1⟩:∃ n,n=x1.length:=⟨_,rfl⟩
 have HR1:=hid r1.rd
 rw [←hn0] at c0 p0 l0 HS0
 have HN0:=hid hn0
 rw [←hn1] at c1 p1 l1 HS1
 have HN1:=hid hn1
 have cu0:=c0
 rw [hw2] at cu0
 have cu1:=c1
 rw [hw2] at cu1
 have HC:=hid hc
 clear hc hL hX r0 r1
 have HQ:=hid (show Zab 6 num [x0,x1]=wideP x0 x1 from rfl)
 have HWD:=hid (fun q=>ZcD X _ _ x0 x1 (w2.drewN q) (HS0.out.keep (Zag _ _ _)) (HS1.out.keep (Zag _ _ _)))
 obtain ⟨bo,hbo⟩:∃ bo,bo=(wideP x0 x1).2:=⟨_,rfl⟩
 obtain ⟨wv,hwv⟩:∃ wv,wv=wideV x0 (.slice A0 n0 k0) (.slice A1 n1 k1):=⟨_,rfl⟩
 rw [←hbo,←hwv] at HWD
 have HBO:=hid hbo
 have HWV:=hid hwv
 clear hbo hwv
 clear hw2 hb2 hE hn0 hn1
 go_enter Tryz.func152,Tryz.ntmps152
 go_wp2_with fail
 rw [←HW2.out]
 go_wp2_with fail
 go_quiet ((go_at_call 180;exact Calls.quiet_of (HWD.out _)))
 go_wp2
 go_ret2
 exact ⟨_,by rw [HQ.out,←HBO.out];rfl,by rw [HQ.out];show ShV X _ wv _;rw [HWV.out];exact (ZcC HS0.out HS1.out).keep (Zag _ _ _),Zaa HB2.out _⟩
theorem Zmf (X:Nat→Prop) (nm:ByteArray) (num:Nat) (av:Value) (pos:Int) (x0 x1:List Int) (XA:Option Addr) (xc:Nat) (w:World) (hX:∀ k,X k→k<w.heap.size) (hL:ShL X w XA [x0,x1]):
  Calls Tryz.prog 152 #[.agg #[.int .i64 8,.string nm,.int .u64 (num:Int),av,.int .i64 pos],.slice XA 2 xc] w fun e w'=>∃ v,e=.returned (.tuple #[v,.bool (Zab 8 num [x0,x1]).2])∧ShV X w' v (Zab 8 num [x0,x1]).1∧Below w.heap.size w w':=by
 obtain ⟨w2,hw2⟩:∃ w2,w2=w.alloc (.cells #[.int .i64 8,.string nm,.int .u64 (num:Int),av,.int .i64 pos] 90):=⟨_,rfl⟩
 have hb2:Below w.heap.size w w2:=by rw [hw2];exact (Kai _ _).alloc (Kag _) _
 have hE:w2.heap[w.heap.size]?=some (.cells #[.int .i64 8,.string nm,.int .u64 (num:Int),av,.int .i64 pos] 90 (0,0)):=by rw [hw2];exact Kac w _
 have HW2:=hid hw2
 have HB2:=hid hb2
 have HXX:=hid (fun k hk=>Kae (hX k hk) hb2.size)
 have e0:=Kaa _ _ 0 _ _ _ hE
 have e2:=Kaa _ _ 2 _ _ _ hE
 obtain ⟨b,o,rfl,hb,hc⟩:=(hL.keep hb2).cells (by simp)
 obtain ⟨v0,c0,s0⟩:=hc 0 x0 rfl
 have HS0:=hid s0
 obtain ⟨A0,k0,rfl,p0,pp0,l0,r0⟩:=s0
 obtain ⟨v1,c1,s1⟩:=hc 1 x1 rfl
 have HS1:=hid s1
 obtain ⟨A1,k1,rfl,p1,pp1,l1,r1⟩:=s1
 have c0:w2.cell? ⟨b,o,none⟩=_:=c0
 obtain ⟨n0,hn0⟩:∃ n,n=x0.length:=⟨_,rfl⟩
 have HR0:=hid r0.rd
 obtain ⟨n1,hn1⟩:∃ n,n=x1.length:=⟨_,rfl⟩
 have HR1:=hid r1.rd
 rw [←hn0] at c0 p0 l0 HS0
 have HN0:=hid hn0
 rw [←hn1] at c1 p1 l1 HS1
 have HN1:=hid hn1
 have cu0:=c0
 rw [hw2] at cu0
 have cu1:=c1
 rw [hw2] at cu1
 have HC:=hid hc
 clear hc hL hX r0 r1
 have HQ:=hid (show Zab 8 num [x0,x1]=wideP x0 x1 from rfl)
 have HWD:=hid (fun q=>ZcD X _ _ x0 x1 (w2.drewN q) (HS0.out.keep (Zag _ _ _)) (HS1.out.keep (Zag _ _ _)))
 obtain ⟨bo,hbo⟩:∃ bo,bo=(wideP x0 x1).2:=⟨_,rfl⟩
 obtain ⟨wv,hwv⟩:∃ wv,wv=wideV x0 (.slice A0 n0 k0) (.slice A1 n1 k1):=⟨_,rfl⟩
 rw [←hbo,←hwv] at HWD
 have HBO:=hid hbo
 have HWV:=hid hwv
 clear hbo hwv
 clear hw2 hb2 hE hn0 hn1
 go_enter Tryz.func152,Tryz.ntmps152
 go_wp2_with fail
 rw [←HW2.out]
 go_wp2_with fail
 go_quiet ((go_at_call 180;exact Calls.quiet_of (HWD.out _)))
 go_wp2
 go_ret2
 exact ⟨_,by rw [HQ.out,←HBO.out];rfl,by rw [HQ.out];show ShV X _ wv _;rw [HWV.out];exact (ZcC HS0.out HS1.out).keep (Zag _ _ _),Zaa HB2.out _⟩
theorem Zkl (X:Nat→Prop) (nm:ByteArray) (num:Nat) (av:Value) (pos:Int) (x0 x1:List Int) (XA:Option Addr) (xc:Nat) (w:World) (hX:∀ k,X k→k<w.heap.size) (hL:ShL X w XA [x0,x1]):
  Calls Tryz.prog 152 #[.agg #[.int .i64 13,.string nm,.int .u64 (num:Int),av,.int .i64 pos],.slice XA 2 xc] w fun e w'=>∃ v,e=.returned (.tuple #[v,.bool (Zab 13 num [x0,x1]).2])∧ShV X w' v (Zab 13 num [x0,x1]).1∧Below w.heap.size w w':=by
 obtain ⟨w2,hw2⟩:∃ w2,w2=w.alloc (.cells #[.int .i64 13,.string nm,.int .u64 (num:Int),av,.int .i64 pos] 90):=⟨_,rfl⟩
 have hb2:Below w.heap.size w w2:=by rw [hw2];exact (Kai _ _).alloc (Kag _) _
 have hE:w2.heap[w.heap.size]?=some (.cells #[.int .i64 13,.string nm,.int .u64 (num:Int),av,.int .i64 pos] 90 (0,0)):=by rw [hw2];exact Kac w _
 have HW2:=hid hw2
 have HB2:=hid hb2
 have HXX:=hid (fun k hk=>Kae (hX k hk) hb2.size)
 have e0:=Kaa _ _ 0 _ _ _ hE
 have e2:=Kaa _ _ 2 _ _ _ hE
 obtain ⟨b,o,rfl,hb,hc⟩:=(hL.keep hb2).cells (by simp)
 obtain ⟨v0,c0,s0⟩:=hc 0 x0 rfl
 have HS0:=hid s0
 obtain ⟨A0,k0,rfl,p0,pp0,l0,r0⟩:=s0
 obtain ⟨v1,c1,s1⟩:=hc 1 x1 rfl
 have HS1:=hid s1
 obtain ⟨A1,k1,rfl,p1,pp1,l1,r1⟩:=s1
 have c0:w2.cell? ⟨b,o,none⟩=_:=c0
 obtain ⟨n0,hn0⟩:∃ n,n=x0.length:=⟨_,rfl⟩
 have HR0:=hid r0.rd
 obtain ⟨n1,hn1⟩:∃ n,n=x1.length:=⟨_,rfl⟩
 have HR1:=hid r1.rd
 rw [←hn0] at c0 p0 l0 HS0
 have HN0:=hid hn0
 rw [←hn1] at c1 p1 l1 HS1
 have HN1:=hid hn1
 have cu0:=c0
 rw [hw2] at cu0
 have cu1:=c1
 rw [hw2] at cu1
 have HC:=hid hc
 clear hc hL hX r0 r1
 have HQ:=hid (show Zab 13 num [x0,x1]=wideP x0 x1 from rfl)
 have HWD:=hid (fun q=>ZcD X _ _ x0 x1 (w2.drewN q) (HS0.out.keep (Zag _ _ _)) (HS1.out.keep (Zag _ _ _)))
 obtain ⟨bo,hbo⟩:∃ bo,bo=(wideP x0 x1).2:=⟨_,rfl⟩
 obtain ⟨wv,hwv⟩:∃ wv,wv=wideV x0 (.slice A0 n0 k0) (.slice A1 n1 k1):=⟨_,rfl⟩
 rw [←hbo,←hwv] at HWD
 have HBO:=hid hbo
 have HWV:=hid hwv
 clear hbo hwv
 clear hw2 hb2 hE hn0 hn1
 go_enter Tryz.func152,Tryz.ntmps152
 go_wp2_with fail
 rw [←HW2.out]
 go_wp2_with fail
 go_quiet ((go_at_call 180;exact Calls.quiet_of (HWD.out _)))
 go_wp2
 go_ret2
 exact ⟨_,by rw [HQ.out,←HBO.out];rfl,by rw [HQ.out];show ShV X _ wv _;rw [HWV.out];exact (ZcC HS0.out HS1.out).keep (Zag _ _ _),Zaa HB2.out _⟩
theorem Zmg (X:Nat→Prop) (nm:ByteArray) (num:Nat) (av:Value) (pos:Int) (x0 x1:List Int) (XA:Option Addr) (xc:Nat) (w:World) (hX:∀ k,X k→k<w.heap.size) (hL:ShL X w XA [x0,x1]):
  Calls Tryz.prog 152 #[.agg #[.int .i64 7,.string nm,.int .u64 (num:Int),av,.int .i64 pos],.slice XA 2 xc] w fun e w'=>∃ v,e=.returned (.tuple #[v,.bool (Zab 7 num [x0,x1]).2])∧ShV X w' v (Zab 7 num [x0,x1]).1∧Below w.heap.size w w':=by
 obtain ⟨w2,hw2⟩:∃ w2,w2=w.alloc (.cells #[.int .i64 7,.string nm,.int .u64 (num:Int),av,.int .i64 pos] 90):=⟨_,rfl⟩
 have hb2:Below w.heap.size w w2:=by rw [hw2];exact (Kai _ _).alloc (Kag _) _
 have hE:w2.heap[w.heap.size]?=some (.cells #[.int .i64 7,.string nm,.int .u64 (num:Int),av,.int .i64 pos] 90 (0,0)):=by rw [hw2];exact Kac w _
 have HW2:=hid hw2
 have HB2:=hid hb2
 have HXX:=hid (fun k hk=>Kae (hX k hk) hb2.size)
 have e0:=Kaa _ _ 0 _ _ _ hE
 have e2:=Kaa _ _ 2 _ _ _ hE
 obtain ⟨b,o,rfl,hb,hc⟩:=(hL.keep hb2).cells (by simp)
 obtain ⟨v0,c0,s0⟩:=hc 0 x0 rfl
 have HS0:=hid s0
 obtain ⟨A0,k0,rfl,p0,pp0,l0,r0⟩:=s0
 obtain ⟨v1,c1,s1⟩:=hc 1 x1 rfl
 have HS1:=hid s1
 obtain ⟨A1,k1,rfl,p1,pp1,l1,r1⟩:=s1
 have c0:w2.cell? ⟨b,o,none⟩=_:=c0
 obtain ⟨n0,hn0⟩:∃ n,n=x0.length:=⟨_,rfl⟩
 have HR0:=hid r0.rd
 obtain ⟨n1,hn1⟩:∃ n,n=x1.length:=⟨_,rfl⟩
 have HR1:=hid r1.rd
 rw [←hn0] at c0 p0 l0 HS0
 have HN0:=hid hn0
 rw [←hn1] at c1 p1 l1 HS1
 have HN1:=hid hn1
 have cu0:=c0
 rw [hw2] at cu0
 have cu1:=c1
 rw [hw2] at cu1
 have HC:=hid hc
 clear hc hL hX r0 r1
 have HQ:=hid (show Zab 7 num [x0,x1]=matP x0 x1 from rfl)
 have HMT:=hid (fun (W:World) (hW:Below w2.heap.size w2 W)=>ZlX X _ _ x0 x1 W (fun k hk=>Kae (HXX.out k hk) hW.size) (HS0.out.next hW) (HS1.out.next hW))
 clear hw2 hb2 hE hn0 hn1
 go_enter Tryz.func152,Tryz.ntmps152
 go_wp2_with fail
 rw [←HW2.out]
 go_wp2_with fail
 go_region_with (first
  | (go_at_call 181;refine (HMT.out _ ?_).mono ?_;exact ⟨rfl,rfl,rfl,Kag _,fun _ _=>rfl⟩;rintro e w' ⟨v,rfl,hv,hb'⟩))
 all_goals
  go_wp2
  go_ret2
  exact ⟨_,by rw [HQ.out];rfl,by rw [HQ.out];exact hv,HB2.out.trans (Below.mono ⟨hb'.os,hb'.tape,hb'.output,hb'.size,hb'.block⟩ HB2.out.size)⟩
theorem Zkm (X:Nat→Prop) (nm:ByteArray) (num:Nat) (av:Value) (pos:Int) (x0 x1 x2:List Int) (XA:Option Addr) (xc:Nat) (w:World) (hX:∀ k,X k→k<w.heap.size) (hL:ShL X w XA [x0,x1,x2]):
  Calls Tryz.prog 152 #[.agg #[.int .i64 14,.string nm,.int .u64 (num:Int),av,.int .i64 pos],.slice XA 3 xc] w fun e w'=>∃ v,e=.returned (.tuple #[v,.bool (Zab 14 num [x0,x1,x2]).2])∧ShV X w' v (Zab 14 num [x0,x1,x2]).1∧Below w.heap.size w w':=by
 obtain ⟨w2,hw2⟩:∃ w2,w2=w.alloc (.cells #[.int .i64 14,.string nm,.int .u64 (num:Int),av,.int .i64 pos] 90):=⟨_,rfl⟩
 have hb2:Below w.heap.size w w2:=by rw [hw2];exact (Kai _ _).alloc (Kag _) _
 have hE:w2.heap[w.heap.size]?=some (.cells #[.int .i64 14,.string nm,.int .u64 (num:Int),av,.int .i64 pos] 90 (0,0)):=by rw [hw2];exact Kac w _
 have HW2:=hid hw2
 have HB2:=hid hb2
 have HXX:=hid (fun k hk=>Kae (hX k hk) hb2.size)
 have e0:=Kaa _ _ 0 _ _ _ hE
 have e2:=Kaa _ _ 2 _ _ _ hE
 obtain ⟨b,o,rfl,hb,hc⟩:=(hL.keep hb2).cells (by simp)
 obtain ⟨v0,c0,s0⟩:=hc 0 x0 rfl
 have HS0:=hid s0
 obtain ⟨A0,k0,rfl,p0,pp0,l0,r0⟩:=s0
 obtain ⟨v1,c1,s1⟩:=hc 1 x1 rfl
 have HS1:=hid s1
 obtain ⟨A1,k1,rfl,p1,pp1,l1,r1⟩:=s1
 obtain ⟨v2,c2,s2⟩:=hc 2 x2 rfl
 have HS2:=hid s2
 obtain ⟨A2,k2,rfl,p2,pp2,l2,r2⟩:=s2
 have c0:w2.cell? ⟨b,o,none⟩=_:=c0
 obtain ⟨n0,hn0⟩:∃ n,n=x0.length:=⟨_,rfl⟩
 have HR0:=hid r0.rd
 obtain ⟨n1,hn1⟩:∃ n,n=x1.length:=⟨_,rfl⟩
 have HR1:=hid r1.rd
 obtain ⟨n2,hn2⟩:∃ n,n=x2.length:=⟨_,rfl⟩
 have HR2:=hid r2.rd
 rw [←hn0] at c0 p0 l0 HS0
 have HN0:=hid hn0
 rw [←hn1] at c1 p1 l1 HS1
 have HN1:=hid hn1
 rw [←hn2] at c2 p2 l2 HS2
 have HN2:=hid hn2
 have cu0:=c0
 rw [hw2] at cu0
 have cu1:=c1
 rw [hw2] at cu1
 have cu2:=c2
 rw [hw2] at cu2
 have HC:=hid hc
 clear hc hL hX r0 r1 r2
 have HQ:=hid (show Zab 14 num [x0,x1,x2]=(x1,(x1==x2)&&(x0.length==0||x0==x1)) from rfl)
 have HE1:=hid (fun q=>ZcA A1 A2 n1 n2 k1 k2 x1 x2 (w2.drewN q) hn1 hn2 (by omega) (by omega) (HR1.out.drewN q) (HR2.out.drewN q))
 have HE2:=hid (fun q=>ZcA A0 A1 n0 n1 k0 k1 x0 x1 (w2.drewN q) hn0 hn1 (by omega) (by omega) (HR0.out.drewN q) (HR1.out.drewN q))
 cases h1:(x1==x2) with
 | false=>
  rw [h1] at HE1
  have HZ:=hid (show ((x1==x2)&&(x0.length==0||x0==x1))=false from by rw [h1];rfl)
  clear h1 HE2
  clear hw2 hb2 hE hn0 hn1 hn2
  go_enter Tryz.func152,Tryz.ntmps152
  go_wp2_with fail
  rw [←HW2.out]
  go_wp2_with fail
  go_quiet ((go_at_call 79;exact Calls.quiet_of (HE1.out _)))
  go_wp2
  go_ret2
  exact ⟨_,by rw [HQ.out,HZ.out];rfl,by rw [HQ.out];exact HS1.out.keep (Zag _ _ _),Zaa HB2.out _⟩
 | true=>
  rw [h1] at HE1
  by_cases h0:n0=0
  ·have HZ:=hid (show ((x1==x2)&&(x0.length==0||x0==x1))=true from by rw [h1,←hn0,h0];rfl)
   subst h0
   clear h1 HE2
   clear hw2 hb2 hE hn0 hn1 hn2
   go_enter Tryz.func152,Tryz.ntmps152
   go_wp2_with fail
   rw [←HW2.out]
   go_wp2_with fail
   go_quiet ((go_at_call 79;exact Calls.quiet_of (HE1.out _)))
   go_wp2
   go_ret2
   exact ⟨_,by rw [HQ.out,HZ.out];rfl,by rw [HQ.out];exact HS1.out.keep (Zag _ _ _),Zaa HB2.out _⟩
  ·have q0:((n0:Int)==0)=false:=by rw [Kaj];omega
   obtain ⟨bo,hbo⟩:∃ bo,bo=(x0==x1):=⟨_,rfl⟩
   rw [←hbo] at HE2
   have HZ:=hid (show ((x1==x2)&&(x0.length==0||x0==x1))=bo from by
    rw [h1,←hn0,←hbo,Kaj.2 h0]
    cases bo <;> rfl)
   clear h1 h0 hbo
   clear hw2 hb2 hE hn0 hn1 hn2
   go_enter Tryz.func152,Tryz.ntmps152
   go_wp2_with fail
   rw [←HW2.out]
   go_wp2_with fail
   go_quiet (first
    | (go_at_call_of 79 A2;exact Calls.quiet_of (HE1.out _))
    | (go_at_call_of 79 A0;exact Calls.quiet_of (HE2.out _)))
   go_wp2
   go_ret2
   exact ⟨_,by rw [HQ.out,HZ.out];rfl,by rw [HQ.out];exact HS1.out.keep (Zag _ _ _),Zaa HB2.out _⟩
theorem Zip (X:Nat→Prop) (k:Int) (nm:ByteArray) (num:Nat) (av:Value) (pos:Int) (xs:List (List Int)) (XA:Option Addr) (n xc:Nat) (w:World) (hn:n=xs.length) (hm:madeP k=(xs.length:Int)) (hX:∀ k,X k→k<w.heap.size) (hL:ShL X w XA xs):
  Calls Tryz.prog 152 #[.agg #[.int .i64 k,.string nm,.int .u64 (num:Int),av,.int .i64 pos],.slice XA n xc] w fun e w'=>∃ v,e=.returned (.tuple #[v,.bool (Zab k num xs).2])∧ShV X w' v (Zab k num xs).1∧Below w.heap.size w w':=by
 subst hn
 have h1:∀ {ys:List (List Int)},(1:Int)=(ys.length:Int)→∃ x,ys=[x]:=fun {ys} h=>by
  match ys,h with
  | [x],_=>exact ⟨x,rfl⟩
  | [],h=>simp at h
  | _::_::_,h=>simp at h;omega
 have h2:∀ {ys:List (List Int)},(2:Int)=(ys.length:Int)→∃ x y,ys=[x,y]:=fun {ys} h=>by
  match ys,h with
  | [x,y],_=>exact ⟨x,y,rfl⟩
  | [],h=>simp at h
  | [_],h=>simp at h
  | _::_::_::_,h=>simp at h;omega
 have h3:∀ {ys:List (List Int)},(3:Int)=(ys.length:Int)→∃ x y z,ys=[x,y,z]:=fun {ys} h=>by
  match ys,h with
  | [x,y,z],_=>exact ⟨x,y,z,rfl⟩
  | [],h=>simp at h
  | [_],h=>simp at h
  | [_,_],h=>simp at h
  | _::_::_::_::_,h=>simp at h;omega
 have h0:∀ {ys:List (List Int)},(0:Int)=(ys.length:Int)→ys=[]:=fun {ys} h=>by
  match ys,h with
  | [],_=>rfl
  | _::_,h=>simp at h;omega
 rcases ZbF k with rfl | rfl | rfl | rfl | rfl | rfl | rfl | rfl | rfl | rfl | rfl | rfl | rfl | rfl | ⟨q1,q2,q3,q4,q5,q6,q7,q8,q9,q10,q11,q12,q13,q14⟩
 ·obtain rfl:=h0 hm
  exact ZlY X nm num av pos XA xc w hX hL
 ·obtain rfl:=h0 hm
  exact ZlZ X nm num av pos XA xc w hX hL
 ·obtain ⟨x0,rfl⟩:=h1 hm
  exact Zma X nm num av pos x0 XA xc w hX hL
 ·obtain ⟨x0,x1,rfl⟩:=h2 hm
  exact Zmc X nm num av pos x0 x1 XA xc w hX hL
 ·obtain ⟨x0,x1,rfl⟩:=h2 hm
  exact Zmd X nm num av pos x0 x1 XA xc w hX hL
 ·obtain ⟨x0,x1,rfl⟩:=h2 hm
  exact Zme X nm num av pos x0 x1 XA xc w hX hL
 ·obtain ⟨x0,x1,rfl⟩:=h2 hm
  exact Zmg X nm num av pos x0 x1 XA xc w hX hL
 ·obtain ⟨x0,x1,rfl⟩:=h2 hm
  exact Zmf X nm num av pos x0 x1 XA xc w hX hL
 ·obtain ⟨x0,rfl⟩:=h1 hm
  exact Zmb X nm num av pos x0 XA xc w hX hL
 ·obtain ⟨x0,rfl⟩:=h1 hm
  exact Zkj X nm num av pos x0 XA xc w hX hL
 ·obtain ⟨x0,rfl⟩:=h1 hm
  exact Zki X nm num av pos x0 XA xc w hX hL
 ·obtain ⟨x0,rfl⟩:=h1 hm
  exact Zkk X nm num av pos x0 XA xc w hX hL
 ·obtain ⟨x0,x1,rfl⟩:=h2 hm
  exact Zkl X nm num av pos x0 x1 XA xc w hX hL
 ·obtain ⟨x0,x1,x2,rfl⟩:=h3 hm
  exact Zkm X nm num av pos x0 x1 x2 XA xc w hX hL
 ·exfalso
  have:madeP k = -1:=by
   unfold madeP
   rw [if_neg (by omega),if_neg (by omega),if_neg (by omega),if_neg q14]
  omega
end Go.Proofs.YtghlnncfigkkaaaGreatDoor
