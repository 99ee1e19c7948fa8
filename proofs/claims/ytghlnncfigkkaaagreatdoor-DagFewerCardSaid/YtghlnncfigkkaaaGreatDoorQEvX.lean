/-
 Walks of the evaluator's expr, kind by kind.
-/
import Derived.Test.YtghlnncfigkkaaaGreatDoorQEvS
import Derived.Test.YtghlnncfigkkaaaGreatDoorQEvE
import Derived.Deep.RegionHeld3
set_option maxRecDepth 100000
set_option maxHeartbeats 4000000
open Go.Lib (hid)
namespace Go.Proofs.YtghlnncfigkkaaaGreatDoor
set_option linter.unusedVariables false
set_option linter.unusedSimpArgs false
open Go.RowKit
attribute [local go_sem ↓] ZbA Zch
theorem ZeX {X:Nat→Prop} {w w':World} {gg q:Nat} {L:List UInt64} (h:BlkW w' 39 gg L) (hg:w.heap.size≤gg) (hX:∀ k,X k→k<w.heap.size) (hq:q=L.length) (hl:q≤1048576):WoV X w' (.slice (some ⟨gg,0,none⟩) q q) L:=by
 subst hq
 refine ⟨some ⟨gg,0,none⟩,L.length,rfl,Kag _,by omega,.inr ⟨gg,0,rfl,h.lt,fun hx=>by have:=hX _ hx;omega,fun j v hv => ?_⟩⟩
 rw [Kal,Option.map_eq_some_iff] at hv
 obtain ⟨u,hu,rfl⟩:=hv
 obtain ⟨hj,hu'⟩:=Kaf.1 hu
 rw [Nat.zero_add,h.cell hj,Zbo,List.getD_eq_getElem?_getD,hu]
 rfl
theorem Zgo {X:Nat→Prop} {w:World} {W:World} {x:UInt64} (hX:∀ k,X k→k<w.heap.size) (hb:w.heap.size≤W.heap.size):WoV X (W.alloc (.cells #[U x] 39)) (.slice (some ⟨W.heap.size,0,none⟩) 1 1) [x]:=
 ZeX (show BlkW _ 39 W.heap.size [x] from Kac W _) hb hX rfl (by decide)
theorem ZiO (A A':Option Addr) (n c m k:Nat) (w:World):(Instr.field 43 (.agg #[.slice A n c,.slice A' m k]) 1).run Tryz.prog w=.ok (.slice A' m k) w:=by kernel_rfl
theorem ZiP (A A':Option Addr) (n c m k:Nat) (w:World):(Instr.field 43 (.agg #[.slice A n c,.slice A' m k]) 0).run Tryz.prog w=.ok (.slice A n c) w:=by kernel_rfl
attribute [local go_sem] ZiO ZiP
def ExOut (X:Nat→Prop) (w:World) (L:List UInt64) (e:Ending) (w':World):Prop:=Below w.heap.size w w'∧∃ v,e=.returned v∧WoV X w' v L
def ZiQ (X:Nat→Prop) (W:World) (q:Nat) (L:List UInt64) (e:Ending) (w':World):Prop:=∃ gg,e=.returned (.slice (some ⟨gg,0,none⟩) q q)∧WoV X w' (.slice (some ⟨gg,0,none⟩) q q) L∧Below W.heap.size W w'
theorem Zcv {X:Nat→Prop} (F:FuncId) (f:UInt64→UInt64→UInt64) (hE:∀ (ys:Array Value) (W:World),(callFunc F ys).run Tryz.prog W=.ok (.enter F ys) W) (hF:∀ (a b:UInt64) (W:World),Calls Tryz.prog F #[U a,U b] W fun e w'=>e=.returned (U (f a b))∧W=w')
  (A A':Option Addr) (n m c c' q:Nat) (x y:List UInt64) (w:World) (hX:∀ k,X k→k<w.heap.size) (hq:q=max n m) (hn:n=x.length) (hm:m=y.length) (hn1:1≤n) (hm1:1≤m) (hn2:n≤1000) (hm2:m≤1000) (h:RdX X w A (x.map U)) (h':RdX X w A' (y.map U)):
  Calls Tryz.prog 156 #[.slice A n c,.slice A' m c',.func (.func F) #[] #[]] w (ZiQ X w q (eachP f x y)):=by
 refine (ZiH F f A A' n m c c' x y w hn hm hn1 hm1 hn2 hm2 hE (fun a b W _=>hF a b W) h.rd h'.rd).mono ?_
 rintro e w' ⟨rfl,hk,hb⟩
 refine ⟨w.heap.size,by rw [hq],ZeX hk (Kag _) hX (by rw [hq,ZbH,hn,hm]) (by omega),hb⟩
theorem Znw {X:Nat→Prop} (F:FuncId) (eb:Nat) (f:UInt64→UInt64→UInt64) (hE:∀ (ys:Array Value) (W:World),(callFunc F ys).run Tryz.prog W=.ok (.enter F ys) W) (w:World) (hF:∀ (a b:UInt64) (W:World),Below w.heap.size w W→Calls Tryz.prog F #[U a,U b,.pointer (some ⟨eb,0,none⟩)] W fun e w'=>e=.returned (U (f a b))∧W=w')
  (A A':Option Addr) (n m c c' q:Nat) (x y:List UInt64) (hX:∀ k,X k→k<w.heap.size) (hq:q=max n m) (hn:n=x.length) (hm:m=y.length) (hn1:1≤n) (hm1:1≤m) (hn2:n≤1000) (hm2:m≤1000) (h:RdX X w A (x.map U)) (h':RdX X w A' (y.map U)):
  Calls Tryz.prog 156 #[.slice A n c,.slice A' m c',.func (.func F) #[] #[.pointer (some ⟨eb,0,none⟩)]] w (ZiQ X w q (eachP f x y)):=by
 refine (ZiI F eb f A A' n m c c' x y w hn hm hn1 hm1 hn2 hm2 hE hF h.rd h'.rd).mono ?_
 rintro e w' ⟨rfl,hk,hb⟩
 refine ⟨w.heap.size,by rw [hq],ZeX hk (Kag _) hX (by rw [hq,ZbH,hn,hm]) (by omega),hb⟩
theorem ZiR {wr W W':World} {g b o:Nat} {v v0 v1 v2 v3 v4:Value} (h:W.cell? ⟨g,o,none⟩=some v∧W.cell? ⟨b,0,none⟩=some v0∧W.cell? ⟨b,1,none⟩=some v1∧W.cell? ⟨b,2,none⟩=some v2∧W.cell? ⟨b,3,none⟩=some v3∧W.cell? ⟨b,4,none⟩=some v4∧g<W.heap.size∧b<W.heap.size∧Below wr.heap.size wr W) (hb:Below W.heap.size W W'):
  W'.cell? ⟨g,o,none⟩=some v∧W'.cell? ⟨b,0,none⟩=some v0∧W'.cell? ⟨b,1,none⟩=some v1∧W'.cell? ⟨b,2,none⟩=some v2∧W'.cell? ⟨b,3,none⟩=some v3∧W'.cell? ⟨b,4,none⟩=some v4∧g<W'.heap.size∧b<W'.heap.size∧Below wr.heap.size wr W':=by
 obtain ⟨h0,h1,h2,h3,h4,h5,h6,h7,h8⟩:=h
 exact ⟨(hb.cell (p:=⟨g,o,none⟩) h6).trans h0,(hb.cell (p:=⟨b,0,none⟩) h7).trans h1,(hb.cell (p:=⟨b,1,none⟩) h7).trans h2,(hb.cell (p:=⟨b,2,none⟩) h7).trans h3,(hb.cell (p:=⟨b,3,none⟩) h7).trans h4,(hb.cell (p:=⟨b,4,none⟩) h7).trans h5,Kae h6 hb.size,Kae h7 hb.size,bnext h8 hb⟩
theorem ZfA {wr W W':World} {g b o o':Nat} {v v' v0 v1 v2 v3 v4:Value} (h:W.cell? ⟨g,o,none⟩=some v∧W.cell? ⟨g,o',none⟩=some v'∧W.cell? ⟨b,0,none⟩=some v0∧W.cell? ⟨b,1,none⟩=some v1∧W.cell? ⟨b,2,none⟩=some v2∧W.cell? ⟨b,3,none⟩=some v3∧W.cell? ⟨b,4,none⟩=some v4∧g<W.heap.size∧b<W.heap.size∧Below wr.heap.size wr W) (hb:Below W.heap.size W W'):
  W'.cell? ⟨g,o,none⟩=some v∧W'.cell? ⟨g,o',none⟩=some v'∧W'.cell? ⟨b,0,none⟩=some v0∧W'.cell? ⟨b,1,none⟩=some v1∧W'.cell? ⟨b,2,none⟩=some v2∧W'.cell? ⟨b,3,none⟩=some v3∧W'.cell? ⟨b,4,none⟩=some v4∧g<W'.heap.size∧b<W'.heap.size∧Below wr.heap.size wr W':=by
 obtain ⟨h9,h0,h1,h2,h3,h4,h5,h6,h7,h8⟩:=h
 exact ⟨(hb.cell (p:=⟨g,o,none⟩) h6).trans h9,(hb.cell (p:=⟨g,o',none⟩) h6).trans h0,(hb.cell (p:=⟨b,0,none⟩) h7).trans h1,(hb.cell (p:=⟨b,1,none⟩) h7).trans h2,(hb.cell (p:=⟨b,2,none⟩) h7).trans h3,(hb.cell (p:=⟨b,3,none⟩) h7).trans h4,(hb.cell (p:=⟨b,4,none⟩) h7).trans h5,Kae h6 hb.size,Kae h7 hb.size,bnext h8 hb⟩
theorem Znx {wr W W':World} {g o0 o1 o2 o3:Nat} {v0 v1 v2 v3:Value} (h:W.cell? ⟨g,o0,none⟩=some v0∧W.cell? ⟨g,o1,none⟩=some v1∧W.cell? ⟨g,o2,none⟩=some v2∧W.cell? ⟨g,o3,none⟩=some v3∧g<W.heap.size∧Below wr.heap.size wr W) (hb:Below W.heap.size W W'):
  W'.cell? ⟨g,o0,none⟩=some v0∧W'.cell? ⟨g,o1,none⟩=some v1∧W'.cell? ⟨g,o2,none⟩=some v2∧W'.cell? ⟨g,o3,none⟩=some v3∧g<W'.heap.size∧Below wr.heap.size wr W':=by
 obtain ⟨h0,h1,h2,h3,h6,h8⟩:=h
 exact ⟨(hb.cell (p:=⟨g,o0,none⟩) h6).trans h0,(hb.cell (p:=⟨g,o1,none⟩) h6).trans h1,(hb.cell (p:=⟨g,o2,none⟩) h6).trans h2,(hb.cell (p:=⟨g,o3,none⟩) h6).trans h3,Kae h6 hb.size,bnext h8 hb⟩
theorem last9 {a b c d e f g h i:Prop} (x:a∧b∧c∧d∧e∧f∧g∧h∧i):i:=x.2.2.2.2.2.2.2.2
theorem Zcw {a b c d e f g h i j:Prop} (x:a∧b∧c∧d∧e∧f∧g∧h∧i∧j):j:=x.2.2.2.2.2.2.2.2.2
theorem last6 {a b c d e f:Prop} (x:a∧b∧c∧d∧e∧f):f:=x.2.2.2.2.2
theorem WoV.rdx {X:Nat→Prop} {w:World} {A:Option Addr} {n c:Nat} {l:List UInt64} (h:WoV X w (.slice A n c) l):RdX X w A (l.map U)∧n=l.length:=by
 obtain ⟨A9,c9,e9,_,_,r9⟩:=h
 injection e9 with e9 e8 _
 subst e9
 exact ⟨r9,e8⟩
theorem Zny {wr W W':World} {g o0 o1:Nat} {v0 v1:Value} (h:W.cell? ⟨g,o0,none⟩=some v0∧W.cell? ⟨g,o1,none⟩=some v1∧g<W.heap.size∧Below wr.heap.size wr W) (hb:Below W.heap.size W W'):
  W'.cell? ⟨g,o0,none⟩=some v0∧W'.cell? ⟨g,o1,none⟩=some v1∧g<W'.heap.size∧Below wr.heap.size wr W':=by
 obtain ⟨h0,h1,h6,h8⟩:=h
 exact ⟨(hb.cell (p:=⟨g,o0,none⟩) h6).trans h0,(hb.cell (p:=⟨g,o1,none⟩) h6).trans h1,Kae h6 hb.size,bnext h8 hb⟩
theorem last4 {a b c d:Prop} (x:a∧b∧c∧d):d:=x.2.2.2
theorem Zmn (B cb g vg:Nat) (Z:List Nat) (SA EA HA:Option Addr) (ns sc ne ec:Nat) (names:Zah) (V:Nat→TN) (shF:List (List Int)) (dn:ByteArray) (du:Nat) (dp:Int) (A':Option Addr) (c':Nat) (w:World)
  (hS:EvSt w B cb g vg Z SA EA HA ns sc ne ec names V shF) (hr:Rd w w.heap.size A' (([]:List Int).map VI)) (hdu:du≤18446744073709551615):
  Calls Tryz.prog 98 #[.pointer (some ⟨cb,0,none⟩),.agg #[.int .i64 1,.string dn,.int .u64 (du:Int),.slice A' 0 c',.int .i64 dp]] w (ExOut (evX cb g vg Z) w ([UInt64.ofNat du])):=by
 obtain ⟨w2,hw2⟩:∃ w2,w2=w.alloc (.cells #[.int .i64 1,.string dn,.int .u64 (du:Int),.slice A' 0 c',.int .i64 dp] 90):=⟨_,rfl⟩
 have hb2:Below w.heap.size w w2:=by rw [hw2];exact (Kai _ _).alloc (Kag _) _
 have hE:w2.heap[w.heap.size]?=some (.cells #[.int .i64 1,.string dn,.int .u64 (du:Int),.slice A' 0 c',.int .i64 dp] 90 (0,0)):=by rw [hw2];exact Kac w _
 have HW2:=hid hw2
 have HB2:=hid hb2
 have HS2:=hid (hS.next hb2)
 have HXL:=hid hS.lt
 have HR2:=hid (hr.next hb2)
 have e3:=Kaa _ _ 3 _ _ _ hE
 have HE:=hid (fun W (hW:Below w2.heap.size w2 W)=>(hW.block w.heap.size (Kab.1 hE).1).trans hE)
 have hlt2:w.heap.size<w2.heap.size:=(Kab.1 hE).1
 have HLT:=hid hlt2
 have HALL:=hid (show ∀ a∈([]:List Nat),a<ne from by simp)
 clear hw2 hb2 hE hS hr hlt2
 go_enter Tryz.func98,Tryz.ntmps98
 go_wp2_with fail
 rw [←HW2.out]
 go_wp2_with fail
 clear e3
 go_loopw [5,13] (fun xv kv wr=>∃ (k:Nat) (A:Option Addr) (c:Nat),k≤0∧kv=.int .i64 k∧xv=.slice A k c∧OwnTn (evX cb g vg Z) w2 wr w2.heap.size A k c ((([]:List Nat).take k).map V)∧Below w2.heap.size w2 wr) (fun _ kv _=>0-(intOf kv).toNat)
 case atStart=>exact ⟨0,none,0,by omega,rfl,rfl,OwnTn.nil _ _ _ _,Kai _ _⟩
 case round=>
  obtain ⟨k,A,c,hk,rfl,rfl,hO,hb⟩:=hrel
  have HO:=hid hO
  have HB:=hid hb
  have hE3:=HE.out _ hb
  have hS3:=HS2.out.next hb
  clear hO hb
  by_cases hlk:k<0
  ·exact absurd hlk (by omega)
  ·obtain rfl:k=0:=by omega
   have e0:=Kaa _ _ 0 _ _ _ hE3
   have e1:=Kaa _ _ 1 _ _ _ hE3
   have e2:=Kaa _ _ 2 _ _ _ hE3
   have e3:=Kaa _ _ 3 _ _ _ hE3
   have e4:=Kaa _ _ 4 _ _ _ hE3
   have HB9:=hid (HB2.out.trans (HB.out.mono (Nat.le_of_lt HLT.out)))
   have hU:Value.int .u64 (du:Int)=U (UInt64.ofNat du):=by
    have:=UInt64.toNat_ofNat' (n:=du)
    show _=Value.int .u64 ((UInt64.ofNat du).toNat:Int)
    rw [this,Nat.mod_eq_of_lt (by omega)]
   have HU:=hid hU
   clear e1 e3 e4 hE3 hS3 hU
   go_wp2
   go_ret
   refine ⟨HB9.out.alloc (Kah HB2.out.size HB.out.size) _,_,rfl,?_⟩
   rw [HU.out]
   exact Zgo HXL.out (Kah HB2.out.size HB.out.size)
theorem Zmo (B cb g vg:Nat) (Z:List Nat) (SA EA HA:Option Addr) (ns sc ne ec:Nat) (names:Zah) (V:Nat→TN) (shF:List (List Int)) (dn:ByteArray) (du:Nat) (dp:Int) (A':Option Addr) (c':Nat) (w:World)
  (hS:EvSt w B cb g vg Z SA EA HA ns sc ne ec names V shF) (hr:Rd w w.heap.size A' (([]:List Int).map VI)) (hfd:(findN (shN names) dn).isSome=true):
  Calls Tryz.prog 98 #[.pointer (some ⟨cb,0,none⟩),.agg #[.int .i64 2,.string dn,.int .u64 (du:Int),.slice A' 0 c',.int .i64 dp]] w (ExOut (evX cb g vg Z) w ((findT names dn).el)):=by
 obtain ⟨w2,hw2⟩:∃ w2,w2=w.alloc (.cells #[.int .i64 2,.string dn,.int .u64 (du:Int),.slice A' 0 c',.int .i64 dp] 90):=⟨_,rfl⟩
 have hb2:Below w.heap.size w w2:=by rw [hw2];exact (Kai _ _).alloc (Kag _) _
 have hE:w2.heap[w.heap.size]?=some (.cells #[.int .i64 2,.string dn,.int .u64 (du:Int),.slice A' 0 c',.int .i64 dp] 90 (0,0)):=by rw [hw2];exact Kac w _
 have HW2:=hid hw2
 have HB2:=hid hb2
 have HS2:=hid (hS.next hb2)
 have HXL:=hid hS.lt
 have HR2:=hid (hr.next hb2)
 have e3:=Kaa _ _ 3 _ _ _ hE
 have HE:=hid (fun W (hW:Below w2.heap.size w2 W)=>(hW.block w.heap.size (Kab.1 hE).1).trans hE)
 have hlt2:w.heap.size<w2.heap.size:=(Kab.1 hE).1
 have HLT:=hid hlt2
 have HALL:=hid (show ∀ a∈([]:List Nat),a<ne from by simp)
 clear hw2 hb2 hE hS hr hlt2
 go_enter Tryz.func98,Tryz.ntmps98
 go_wp2_with fail
 rw [←HW2.out]
 go_wp2_with fail
 clear e3
 go_loopw [5,13] (fun xv kv wr=>∃ (k:Nat) (A:Option Addr) (c:Nat),k≤0∧kv=.int .i64 k∧xv=.slice A k c∧OwnTn (evX cb g vg Z) w2 wr w2.heap.size A k c ((([]:List Nat).take k).map V)∧Below w2.heap.size w2 wr) (fun _ kv _=>0-(intOf kv).toNat)
 case atStart=>exact ⟨0,none,0,by omega,rfl,rfl,OwnTn.nil _ _ _ _,Kai _ _⟩
 case round=>
  obtain ⟨k,A,c,hk,rfl,rfl,hO,hb⟩:=hrel
  have HO:=hid hO
  have HB:=hid hb
  have hE3:=HE.out _ hb
  have hS3:=HS2.out.next hb
  clear hO hb
  by_cases hlk:k<0
  ·exact absurd hlk (by omega)
  ·obtain rfl:k=0:=by omega
   have e0:=Kaa _ _ 0 _ _ _ hE3
   have e1:=Kaa _ _ 1 _ _ _ hE3
   have e2:=Kaa _ _ 2 _ _ _ hE3
   have e3:=Kaa _ _ 3 _ _ _ hE3
   have e4:=Kaa _ _ 4 _ _ _ hE3
   have HB9:=hid (HB2.out.trans (HB.out.mono (Nat.le_of_lt HLT.out)))
   obtain ⟨nv,hnm,hnt⟩:=hS3.hn
   rcases hnt.find dn with ⟨_,h2⟩ | ⟨sv,ev,h1,h2,h3,h4⟩
   ·rw [h2] at hfd;cases hfd
   ·have h5:=h3
    obtain ⟨⟨A1,k1,rfl,-⟩,A2,k2,rfl,-⟩:=h5
    have hlk:=fun q=>ZbS (w:=wr.drewN q) (show NamM (wr.drewN q) g nv from hnm) dn h1
    have z2:=Kaa _ _ 2 _ _ _ hS3.hc
    have HT:=hid h3
    clear e2 e3 e4 hE3 hS3 hnm hnt h1 h2 h3 h4 hfd
    go_wp2_with fail
    go_quiet (fail)
    go_wp2
    go_ret
    exact ⟨Zaa HB9.out _,_,rfl,HT.out.2.next (Zaa (Kai _ _) _)⟩
theorem Zmp (B cb g vg:Nat) (Z:List Nat) (SA EA HA:Option Addr) (ns sc ne ec:Nat) (names:Zah) (V:Nat→TN) (shF:List (List Int)) (dn:ByteArray) (du:Nat) (dp:Int) (a0:Nat) (A':Option Addr) (c':Nat) (w:World)
  (hS:EvSt w B cb g vg Z SA EA HA ns sc ne ec names V shF) (hr:Rd w w.heap.size A' (([(a0:Int)]:List Int).map VI)) (ha0:a0<ne) (hz0:1≤(V a0).el.length∧(V a0).el.length≤32):
  Calls Tryz.prog 98 #[.pointer (some ⟨cb,0,none⟩),.agg #[.int .i64 3,.string dn,.int .u64 (du:Int),.slice A' 1 c',.int .i64 dp]] w (ExOut (evX cb g vg Z) w (eachP (fun a b=>negW a) (V a0).el (V a0).el)):=by
 obtain ⟨w2,hw2⟩:∃ w2,w2=w.alloc (.cells #[.int .i64 3,.string dn,.int .u64 (du:Int),.slice A' 1 c',.int .i64 dp] 90):=⟨_,rfl⟩
 have hb2:Below w.heap.size w w2:=by rw [hw2];exact (Kai _ _).alloc (Kag _) _
 have hE:w2.heap[w.heap.size]?=some (.cells #[.int .i64 3,.string dn,.int .u64 (du:Int),.slice A' 1 c',.int .i64 dp] 90 (0,0)):=by rw [hw2];exact Kac w _
 have HW2:=hid hw2
 have HB2:=hid hb2
 have HS2:=hid (hS.next hb2)
 have HXL:=hid hS.lt
 have HR2:=hid (hr.next hb2)
 have e3:=Kaa _ _ 3 _ _ _ hE
 have HE:=hid (fun W (hW:Below w2.heap.size w2 W)=>(hW.block w.heap.size (Kab.1 hE).1).trans hE)
 have hlt2:w.heap.size<w2.heap.size:=(Kab.1 hE).1
 have HLT:=hid hlt2
 have HALL:=hid (show ∀ a∈([a0]:List Nat),a<ne from by simp;omega)
 have HZ0:=hid hz0
 clear hw2 hb2 hE hS hr hlt2
 go_enter Tryz.func98,Tryz.ntmps98
 go_wp2_with fail
 rw [←HW2.out]
 go_wp2_with fail
 clear e3
 go_loopw [5,13] (fun xv kv wr=>∃ (k:Nat) (A:Option Addr) (c:Nat),k≤1∧kv=.int .i64 k∧xv=.slice A k c∧OwnTn (evX cb g vg Z) w2 wr w2.heap.size A k c ((([a0]:List Nat).take k).map V)∧Below w2.heap.size w2 wr) (fun _ kv _=>1-(intOf kv).toNat)
 case atStart=>exact ⟨0,none,0,by omega,rfl,rfl,OwnTn.nil _ _ _ _,Kai _ _⟩
 case round=>
  obtain ⟨k,A,c,hk,rfl,rfl,hO,hb⟩:=hrel
  have HO:=hid hO
  have HB:=hid hb
  have hE3:=HE.out _ hb
  have hS3:=HS2.out.next hb
  clear hO hb
  by_cases hlk:k<1
  ·have ht:([a0]:List Nat)[k]?=some (([a0]:List Nat)[k]'hlk):=Kad _
   obtain ⟨a,hax⟩:∃ d,d=([a0]:List Nat)[k]'hlk:=⟨_,rfl⟩
   rw [←hax] at ht
   have ha:a<ne:=HALL.out a (Kam ht)
   obtain ⟨b2,o2,rfl,hbl2,d0⟩:=(HR2.out.next HB.out).at_ (show (([(a0:Int)]:List Int).map VI)[k]?=some (VI (a:Int)) by
    rw [show (([(a0:Int)]:List Int):List Int)=([a0]:List Nat).map Int.ofNat from rfl,Kal,Kal,ht];rfl)
   unfold VI at d0
   obtain ⟨A1,c1,A2,c2,v0,v1,htn⟩:=HS2.out.val ha
   have v0':=(HB.out.cell (p:=⟨vg,a*2,none⟩) (HS2.out.lt _ (.inr (.inr (.inl rfl))))).trans v0
   have v1':=(HB.out.cell (p:=⟨vg,a*2+1,none⟩) (HS2.out.lt _ (.inr (.inr (.inl rfl))))).trans v1
   have k0:(0:Int)≤(k:Int):=by omega
   have k1:(k:Int)<((1:Nat):Int):=by omega
   have ba0:(0:Int)≤(a:Int):=by omega
   have ba1:(a:Int)<(ne:Int):=by omega
   have z2:=Kaa _ _ 2 _ _ _ hS3.hc
   have z3:=Kaa _ _ 3 _ _ _ hS3.hc
   have HTN:=hid htn
   have HAP:=hid (show (([a0]:List Nat).take (k+1)).map V=(([a0]:List Nat).take k).map V++[V a] from by
    rw [List.take_add_one,ht,List.map_append];rfl)
   clear ht hax v0 v1 htn hbl2 hE3 hS3
   go_wp2_with (at_builtin;(refine appTn rfl (.tmp 17) (.tmp 25) rfl w2.heap.size A c k ((([a0]:List Nat).take k).map V) rfl (HO.out.next ((Kai _ _).alloc (Kag _) _)) wr.heap.size rfl (.slice A1 (V a).sh.length c1,.slice A2 (V a).el.length c2) (V a) (Kac wr _) HTN.out (by omega) (by have:=HB.out.size;simp;omega) ?_);intro A5 c5 w5 o5 b5;have O5:=hid o5;have B5:=hid ((HB.out.alloc HB.out.size _).trans b5);clear o5 b5)
   exact ⟨⟨k+1,A5,c5,by omega,rfl,rfl,by rw [HAP.out];exact O5.out,B5.out⟩,by simp [intOf];omega⟩
  ·obtain rfl:k=1:=by omega
   have e0:=Kaa _ _ 0 _ _ _ hE3
   have e1:=Kaa _ _ 1 _ _ _ hE3
   have e2:=Kaa _ _ 2 _ _ _ hE3
   have e3:=Kaa _ _ 3 _ _ _ hE3
   have e4:=Kaa _ _ 4 _ _ _ hE3
   have HB9:=hid (HB2.out.trans (HB.out.mono (Nat.le_of_lt HLT.out)))
   obtain ⟨g0,p0,q0,r0,t0,hA0,x0a,x0b,ht0⟩:=HO.out.at_ (j:=0) (x:=V a0) rfl
   subst hA0
   simp only [Nat.reduceMul,Nat.reduceAdd] at x0a x0b
   have HT0:=hid ht0
   clear ht0
   have hg0:=World.block_lt_of_cell? wr _ x0b
   obtain ⟨n0,hn0⟩:∃ n,n=(V a0).el.length:=⟨_,rfl⟩
   rw [←hn0] at x0b
   have HN0:=hid hn0
   have HL0:=hid (show 1≤n0∧n0≤1000 from by have:=HZ0.out;rw [←hn0] at this;omega)
   clear hn0
   obtain ⟨q,hq⟩:∃ q,q=max n0 n0:=⟨_,rfl⟩
   have HQ:=hid hq
   have hwl:=(Kab.1 hE3).1
   have HEA:=hid (fun W (hW:Below w2.heap.size w2 W)=>Zcv (X:=evX cb g vg Z) 184 (fun a b=>negW a) ent_3 (fun a b W=>ZkU a b W) r0 r0 n0 n0 t0 t0 q (V a0).el (V a0).el W (fun k hk=>Kae (HXL.out k hk) (HB2.out.trans (hW.mono HB2.out.size)).size) HQ.out HN0.out HN0.out HL0.out.1 HL0.out.1 HL0.out.2 HL0.out.2 (show RdX (evX cb g vg Z) W r0 ((V a0).el.map U) from by obtain ⟨_,A9,c9,e9,_,_,r9⟩:=HT0.out;injection e9 with e9 _ _;subst e9;exact r9.keep (KeepX.of hW)) (show RdX (evX cb g vg Z) W r0 ((V a0).el.map U) from by obtain ⟨_,A9,c9,e9,_,_,r9⟩:=HT0.out;injection e9 with e9 _ _;subst e9;exact r9.keep (KeepX.of hW)))
   have S0:=hid (show wr.drew.cell? ⟨g0,1,none⟩=some (.slice r0 n0 t0)∧wr.drew.cell? ⟨w.heap.size,0,none⟩=some (.int .i64 3)∧wr.drew.cell? ⟨w.heap.size,1,none⟩=some (.string dn)∧wr.drew.cell? ⟨w.heap.size,2,none⟩=some (.int .u64 (du:Int))∧wr.drew.cell? ⟨w.heap.size,3,none⟩=some (.slice A' 1 c')∧wr.drew.cell? ⟨w.heap.size,4,none⟩=some (.int .i64 dp)∧g0<wr.drew.heap.size∧w.heap.size<wr.drew.heap.size∧Below wr.heap.size wr wr.drew from ⟨x0b,e0,e1,e2,e3,e4,hg0,hwl,(Kai _ _).drew⟩)
   clear x0a x0b hq e1 e2 e3 e4 hE3 hS3 hwl hg0
   go_wp2_with fail
   go_region_held3 (fun w'=>w'.cell? ⟨g0,1,none⟩=some (.slice r0 n0 t0)∧w'.cell? ⟨w.heap.size,0,none⟩=some (.int .i64 3)∧w'.cell? ⟨w.heap.size,1,none⟩=some (.string dn)∧w'.cell? ⟨w.heap.size,2,none⟩=some (.int .u64 (du:Int))∧w'.cell? ⟨w.heap.size,3,none⟩=some (.slice A' 1 c')∧w'.cell? ⟨w.heap.size,4,none⟩=some (.int .i64 dp)∧g0<w'.heap.size∧w.heap.size<w'.heap.size∧Below wr.heap.size wr w') (first | with_reducible exact S0.out | assumption | exact ZiR (by assumption) (by assumption))
    (first
     | (go_at_call 161;refine (two_3 dn du _ dp _).mono ?_;rintro e w4 ⟨rfl,b4⟩)
     | (go_at_call 156;refine (HEA.out _ ?_).mono ?_;(refine bnext HB.out ?_;apply last9;assumption);rintro e w6 ⟨gg,rfl,k6,b6⟩))
   all_goals
    go_wp2
    go_ret
    refine ⟨bnext HB9.out ?_,_,rfl,k6⟩
    apply last9
    assumption
theorem Zmq (B cb g vg:Nat) (Z:List Nat) (SA EA HA:Option Addr) (ns sc ne ec:Nat) (names:Zah) (V:Nat→TN) (shF:List (List Int)) (dn:ByteArray) (du:Nat) (dp:Int) (a0 a1:Nat) (A':Option Addr) (c':Nat) (w:World)
  (hS:EvSt w B cb g vg Z SA EA HA ns sc ne ec names V shF) (hr:Rd w w.heap.size A' (([(a0:Int),(a1:Int)]:List Int).map VI)) (ha0:a0<ne) (ha1:a1<ne) (hz0:1≤(V a0).el.length∧(V a0).el.length≤32) (hz1:1≤(V a1).el.length∧(V a1).el.length≤32):
  Calls Tryz.prog 98 #[.pointer (some ⟨cb,0,none⟩),.agg #[.int .i64 4,.string dn,.int .u64 (du:Int),.slice A' 2 c',.int .i64 dp]] w (ExOut (evX cb g vg Z) w (eachP (fun a b=>addW a b) (V a0).el (V a1).el)):=by
 obtain ⟨w2,hw2⟩:∃ w2,w2=w.alloc (.cells #[.int .i64 4,.string dn,.int .u64 (du:Int),.slice A' 2 c',.int .i64 dp] 90):=⟨_,rfl⟩
 have hb2:Below w.heap.size w w2:=by rw [hw2];exact (Kai _ _).alloc (Kag _) _
 have hE:w2.heap[w.heap.size]?=some (.cells #[.int .i64 4,.string dn,.int .u64 (du:Int),.slice A' 2 c',.int .i64 dp] 90 (0,0)):=by rw [hw2];exact Kac w _
 have HW2:=hid hw2
 have HB2:=hid hb2
 have HS2:=hid (hS.next hb2)
 have HXL:=hid hS.lt
 have HR2:=hid (hr.next hb2)
 have e3:=Kaa _ _ 3 _ _ _ hE
 have HE:=hid (fun W (hW:Below w2.heap.size w2 W)=>(hW.block w.heap.size (Kab.1 hE).1).trans hE)
 have hlt2:w.heap.size<w2.heap.size:=(Kab.1 hE).1
 have HLT:=hid hlt2
 have HALL:=hid (show ∀ a∈([a0,a1]:List Nat),a<ne from by simp;omega)
 have HZ0:=hid hz0
 have HZ1:=hid hz1
 clear hw2 hb2 hE hS hr hlt2
 go_enter Tryz.func98,Tryz.ntmps98
 go_wp2_with fail
 rw [←HW2.out]
 go_wp2_with fail
 clear e3
 go_loopw [5,13] (fun xv kv wr=>∃ (k:Nat) (A:Option Addr) (c:Nat),k≤2∧kv=.int .i64 k∧xv=.slice A k c∧OwnTn (evX cb g vg Z) w2 wr w2.heap.size A k c ((([a0,a1]:List Nat).take k).map V)∧Below w2.heap.size w2 wr) (fun _ kv _=>2-(intOf kv).toNat)
 case atStart=>exact ⟨0,none,0,by omega,rfl,rfl,OwnTn.nil _ _ _ _,Kai _ _⟩
 case round=>
  obtain ⟨k,A,c,hk,rfl,rfl,hO,hb⟩:=hrel
  have HO:=hid hO
  have HB:=hid hb
  have hE3:=HE.out _ hb
  have hS3:=HS2.out.next hb
  clear hO hb
  by_cases hlk:k<2
  ·have ht:([a0,a1]:List Nat)[k]?=some (([a0,a1]:List Nat)[k]'hlk):=Kad _
   obtain ⟨a,hax⟩:∃ d,d=([a0,a1]:List Nat)[k]'hlk:=⟨_,rfl⟩
   rw [←hax] at ht
   have ha:a<ne:=HALL.out a (Kam ht)
   obtain ⟨b2,o2,rfl,hbl2,d0⟩:=(HR2.out.next HB.out).at_ (show (([(a0:Int),(a1:Int)]:List Int).map VI)[k]?=some (VI (a:Int)) by
    rw [show (([(a0:Int),(a1:Int)]:List Int):List Int)=([a0,a1]:List Nat).map Int.ofNat from rfl,Kal,Kal,ht];rfl)
   unfold VI at d0
   obtain ⟨A1,c1,A2,c2,v0,v1,htn⟩:=HS2.out.val ha
   have v0':=(HB.out.cell (p:=⟨vg,a*2,none⟩) (HS2.out.lt _ (.inr (.inr (.inl rfl))))).trans v0
   have v1':=(HB.out.cell (p:=⟨vg,a*2+1,none⟩) (HS2.out.lt _ (.inr (.inr (.inl rfl))))).trans v1
   have k0:(0:Int)≤(k:Int):=by omega
   have k1:(k:Int)<((2:Nat):Int):=by omega
   have ba0:(0:Int)≤(a:Int):=by omega
   have ba1:(a:Int)<(ne:Int):=by omega
   have z2:=Kaa _ _ 2 _ _ _ hS3.hc
   have z3:=Kaa _ _ 3 _ _ _ hS3.hc
   have HTN:=hid htn
   have HAP:=hid (show (([a0,a1]:List Nat).take (k+1)).map V=(([a0,a1]:List Nat).take k).map V++[V a] from by
    rw [List.take_add_one,ht,List.map_append];rfl)
   clear ht hax v0 v1 htn hbl2 hE3 hS3
   go_wp2_with (at_builtin;(refine appTn rfl (.tmp 17) (.tmp 25) rfl w2.heap.size A c k ((([a0,a1]:List Nat).take k).map V) rfl (HO.out.next ((Kai _ _).alloc (Kag _) _)) wr.heap.size rfl (.slice A1 (V a).sh.length c1,.slice A2 (V a).el.length c2) (V a) (Kac wr _) HTN.out (by omega) (by have:=HB.out.size;simp;omega) ?_);intro A5 c5 w5 o5 b5;have O5:=hid o5;have B5:=hid ((HB.out.alloc HB.out.size _).trans b5);clear o5 b5)
   exact ⟨⟨k+1,A5,c5,by omega,rfl,rfl,by rw [HAP.out];exact O5.out,B5.out⟩,by simp [intOf];omega⟩
  ·obtain rfl:k=2:=by omega
   have e0:=Kaa _ _ 0 _ _ _ hE3
   have e1:=Kaa _ _ 1 _ _ _ hE3
   have e2:=Kaa _ _ 2 _ _ _ hE3
   have e3:=Kaa _ _ 3 _ _ _ hE3
   have e4:=Kaa _ _ 4 _ _ _ hE3
   have HB9:=hid (HB2.out.trans (HB.out.mono (Nat.le_of_lt HLT.out)))
   obtain ⟨g0,p0,q0,r0,t0,hA0,x0a,x0b,ht0⟩:=HO.out.at_ (j:=0) (x:=V a0) rfl
   subst hA0
   obtain ⟨g1,p1,q1,r1,t1,hA1,x1a,x1b,ht1⟩:=HO.out.at_ (j:=1) (x:=V a1) rfl
   injection hA1 with hA1
   injection hA1 with hA1 _ _
   subst hA1
   simp only [Nat.reduceMul,Nat.reduceAdd] at x0a x0b
   simp only [Nat.reduceMul,Nat.reduceAdd] at x1a x1b
   have HT0:=hid ht0
   clear ht0
   have HT1:=hid ht1
   clear ht1
   have hg0:=World.block_lt_of_cell? wr _ x0b
   obtain ⟨n0,hn0⟩:∃ n,n=(V a0).el.length:=⟨_,rfl⟩
   rw [←hn0] at x0b
   have HN0:=hid hn0
   have HL0:=hid (show 1≤n0∧n0≤1000 from by have:=HZ0.out;rw [←hn0] at this;omega)
   clear hn0
   obtain ⟨n1,hn1⟩:∃ n,n=(V a1).el.length:=⟨_,rfl⟩
   rw [←hn1] at x1b
   have HN1:=hid hn1
   have HL1:=hid (show 1≤n1∧n1≤1000 from by have:=HZ1.out;rw [←hn1] at this;omega)
   clear hn1
   obtain ⟨q,hq⟩:∃ q,q=max n0 n1:=⟨_,rfl⟩
   have HQ:=hid hq
   have hwl:=(Kab.1 hE3).1
   have HEA:=hid (fun W (hW:Below w2.heap.size w2 W)=>Zcv (X:=evX cb g vg Z) 185 (fun a b=>addW a b) ent_4 (fun a b W=>ZkV a b W) r0 r1 n0 n1 t0 t1 q (V a0).el (V a1).el W (fun k hk=>Kae (HXL.out k hk) (HB2.out.trans (hW.mono HB2.out.size)).size) HQ.out HN0.out HN1.out HL0.out.1 HL1.out.1 HL0.out.2 HL1.out.2 (show RdX (evX cb g vg Z) W r0 ((V a0).el.map U) from by obtain ⟨_,A9,c9,e9,_,_,r9⟩:=HT0.out;injection e9 with e9 _ _;subst e9;exact r9.keep (KeepX.of hW)) (show RdX (evX cb g vg Z) W r1 ((V a1).el.map U) from by obtain ⟨_,A9,c9,e9,_,_,r9⟩:=HT1.out;injection e9 with e9 _ _;subst e9;exact r9.keep (KeepX.of hW)))
   have S0:=hid (show wr.drew.cell? ⟨g0,1,none⟩=some (.slice r0 n0 t0)∧wr.drew.cell? ⟨g0,3,none⟩=some (.slice r1 n1 t1)∧wr.drew.cell? ⟨w.heap.size,0,none⟩=some (.int .i64 4)∧wr.drew.cell? ⟨w.heap.size,1,none⟩=some (.string dn)∧wr.drew.cell? ⟨w.heap.size,2,none⟩=some (.int .u64 (du:Int))∧wr.drew.cell? ⟨w.heap.size,3,none⟩=some (.slice A' 2 c')∧wr.drew.cell? ⟨w.heap.size,4,none⟩=some (.int .i64 dp)∧g0<wr.drew.heap.size∧w.heap.size<wr.drew.heap.size∧Below wr.heap.size wr wr.drew from ⟨x0b,x1b,e0,e1,e2,e3,e4,hg0,hwl,(Kai _ _).drew⟩)
   clear x0a x0b x1a x1b hq e1 e2 e3 e4 hE3 hS3 hwl hg0
   go_wp2_with fail
   go_region_held3 (fun w'=>w'.cell? ⟨g0,1,none⟩=some (.slice r0 n0 t0)∧w'.cell? ⟨g0,3,none⟩=some (.slice r1 n1 t1)∧w'.cell? ⟨w.heap.size,0,none⟩=some (.int .i64 4)∧w'.cell? ⟨w.heap.size,1,none⟩=some (.string dn)∧w'.cell? ⟨w.heap.size,2,none⟩=some (.int .u64 (du:Int))∧w'.cell? ⟨w.heap.size,3,none⟩=some (.slice A' 2 c')∧w'.cell? ⟨w.heap.size,4,none⟩=some (.int .i64 dp)∧g0<w'.heap.size∧w.heap.size<w'.heap.size∧Below wr.heap.size wr w') (first | with_reducible exact S0.out | assumption | exact ZfA (by assumption) (by assumption))
    (first
     | (go_at_call 161;refine (two_4 dn du _ dp _).mono ?_;rintro e w4 ⟨rfl,b4⟩)
     | (go_at_call 156;refine (HEA.out _ ?_).mono ?_;(refine bnext HB.out ?_;apply Zcw;assumption);rintro e w6 ⟨gg,rfl,k6,b6⟩))
   all_goals
    go_wp2
    go_ret
    refine ⟨bnext HB9.out ?_,_,rfl,k6⟩
    apply Zcw
    assumption
theorem Zmr (B cb g vg:Nat) (Z:List Nat) (SA EA HA:Option Addr) (ns sc ne ec:Nat) (names:Zah) (V:Nat→TN) (shF:List (List Int)) (dn:ByteArray) (du:Nat) (dp:Int) (a0 a1:Nat) (A':Option Addr) (c':Nat) (w:World)
  (hS:EvSt w B cb g vg Z SA EA HA ns sc ne ec names V shF) (hr:Rd w w.heap.size A' (([(a0:Int),(a1:Int)]:List Int).map VI)) (ha0:a0<ne) (ha1:a1<ne) (hz0:1≤(V a0).el.length∧(V a0).el.length≤32) (hz1:1≤(V a1).el.length∧(V a1).el.length≤32):
  Calls Tryz.prog 98 #[.pointer (some ⟨cb,0,none⟩),.agg #[.int .i64 5,.string dn,.int .u64 (du:Int),.slice A' 2 c',.int .i64 dp]] w (ExOut (evX cb g vg Z) w (eachP (fun a b=>subW a b) (V a0).el (V a1).el)):=by
 obtain ⟨w2,hw2⟩:∃ w2,w2=w.alloc (.cells #[.int .i64 5,.string dn,.int .u64 (du:Int),.slice A' 2 c',.int .i64 dp] 90):=⟨_,rfl⟩
 have hb2:Below w.heap.size w w2:=by rw [hw2];exact (Kai _ _).alloc (Kag _) _
 have hE:w2.heap[w.heap.size]?=some (.cells #[.int .i64 5,.string dn,.int .u64 (du:Int),.slice A' 2 c',.int .i64 dp] 90 (0,0)):=by rw [hw2];exact Kac w _
 have HW2:=hid hw2
 have HB2:=hid hb2
 have HS2:=hid (hS.next hb2)
 have HXL:=hid hS.lt
 have HR2:=hid (hr.next hb2)
 have e3:=Kaa _ _ 3 _ _ _ hE
 have HE:=hid (fun W (hW:Below w2.heap.size w2 W)=>(hW.block w.heap.size (Kab.1 hE).1).trans hE)
 have hlt2:w.heap.size<w2.heap.size:=(Kab.1 hE).1
 have HLT:=hid hlt2
 have HALL:=hid (show ∀ a∈([a0,a1]:List Nat),a<ne from by simp;omega)
 have HZ0:=hid hz0
 have HZ1:=hid hz1
 clear hw2 hb2 hE hS hr hlt2
 go_enter Tryz.func98,Tryz.ntmps98
 go_wp2_with fail
 rw [←HW2.out]
 go_wp2_with fail
 clear e3
 go_loopw [5,13] (fun xv kv wr=>∃ (k:Nat) (A:Option Addr) (c:Nat),k≤2∧kv=.int .i64 k∧xv=.slice A k c∧OwnTn (evX cb g vg Z) w2 wr w2.heap.size A k c ((([a0,a1]:List Nat).take k).map V)∧Below w2.heap.size w2 wr) (fun _ kv _=>2-(intOf kv).toNat)
 case atStart=>exact ⟨0,none,0,by omega,rfl,rfl,OwnTn.nil _ _ _ _,Kai _ _⟩
 case round=>
  obtain ⟨k,A,c,hk,rfl,rfl,hO,hb⟩:=hrel
  have HO:=hid hO
  have HB:=hid hb
  have hE3:=HE.out _ hb
  have hS3:=HS2.out.next hb
  clear hO hb
  by_cases hlk:k<2
  ·have ht:([a0,a1]:List Nat)[k]?=some (([a0,a1]:List Nat)[k]'hlk):=Kad _
   obtain ⟨a,hax⟩:∃ d,d=([a0,a1]:List Nat)[k]'hlk:=⟨_,rfl⟩
   rw [←hax] at ht
   have ha:a<ne:=HALL.out a (Kam ht)
   obtain ⟨b2,o2,rfl,hbl2,d0⟩:=(HR2.out.next HB.out).at_ (show (([(a0:Int),(a1:Int)]:List Int).map VI)[k]?=some (VI (a:Int)) by
    rw [show (([(a0:Int),(a1:Int)]:List Int):List Int)=([a0,a1]:List Nat).map Int.ofNat from rfl,Kal,Kal,ht];rfl)
   unfold VI at d0
   obtain ⟨A1,c1,A2,c2,v0,v1,htn⟩:=HS2.out.val ha
   have v0':=(HB.out.cell (p:=⟨vg,a*2,none⟩) (HS2.out.lt _ (.inr (.inr (.inl rfl))))).trans v0
   have v1':=(HB.out.cell (p:=⟨vg,a*2+1,none⟩) (HS2.out.lt _ (.inr (.inr (.inl rfl))))).trans v1
   have k0:(0:Int)≤(k:Int):=by omega
   have k1:(k:Int)<((2:Nat):Int):=by omega
   have ba0:(0:Int)≤(a:Int):=by omega
   have ba1:(a:Int)<(ne:Int):=by omega
   have z2:=Kaa _ _ 2 _ _ _ hS3.hc
   have z3:=Kaa _ _ 3 _ _ _ hS3.hc
   have HTN:=hid htn
   have HAP:=hid (show (([a0,a1]:List Nat).take (k+1)).map V=(([a0,a1]:List Nat).take k).map V++[V a] from by
    rw [List.take_add_one,ht,List.map_append];rfl)
   clear ht hax v0 v1 htn hbl2 hE3 hS3
   go_wp2_with (at_builtin;(refine appTn rfl (.tmp 17) (.tmp 25) rfl w2.heap.size A c k ((([a0,a1]:List Nat).take k).map V) rfl (HO.out.next ((Kai _ _).alloc (Kag _) _)) wr.heap.size rfl (.slice A1 (V a).sh.length c1,.slice A2 (V a).el.length c2) (V a) (Kac wr _) HTN.out (by omega) (by have:=HB.out.size;simp;omega) ?_);intro A5 c5 w5 o5 b5;have O5:=hid o5;have B5:=hid ((HB.out.alloc HB.out.size _).trans b5);clear o5 b5)
   exact ⟨⟨k+1,A5,c5,by omega,rfl,rfl,by rw [HAP.out];exact O5.out,B5.out⟩,by simp [intOf];omega⟩
  ·obtain rfl:k=2:=by omega
   have e0:=Kaa _ _ 0 _ _ _ hE3
   have e1:=Kaa _ _ 1 _ _ _ hE3
   have e2:=Kaa _ _ 2 _ _ _ hE3
   have e3:=Kaa _ _ 3 _ _ _ hE3
   have e4:=Kaa _ _ 4 _ _ _ hE3
   have HB9:=hid (HB2.out.trans (HB.out.mono (Nat.le_of_lt HLT.out)))
   obtain ⟨g0,p0,q0,r0,t0,hA0,x0a,x0b,ht0⟩:=HO.out.at_ (j:=0) (x:=V a0) rfl
   subst hA0
   obtain ⟨g1,p1,q1,r1,t1,hA1,x1a,x1b,ht1⟩:=HO.out.at_ (j:=1) (x:=V a1) rfl
   injection hA1 with hA1
   injection hA1 with hA1 _ _
   subst hA1
   simp only [Nat.reduceMul,Nat.reduceAdd] at x0a x0b
   simp only [Nat.reduceMul,Nat.reduceAdd] at x1a x1b
   have HT0:=hid ht0
   clear ht0
   have HT1:=hid ht1
   clear ht1
   have hg0:=World.block_lt_of_cell? wr _ x0b
   obtain ⟨n0,hn0⟩:∃ n,n=(V a0).el.length:=⟨_,rfl⟩
   rw [←hn0] at x0b
   have HN0:=hid hn0
   have HL0:=hid (show 1≤n0∧n0≤1000 from by have:=HZ0.out;rw [←hn0] at this;omega)
   clear hn0
   obtain ⟨n1,hn1⟩:∃ n,n=(V a1).el.length:=⟨_,rfl⟩
   rw [←hn1] at x1b
   have HN1:=hid hn1
   have HL1:=hid (show 1≤n1∧n1≤1000 from by have:=HZ1.out;rw [←hn1] at this;omega)
   clear hn1
   obtain ⟨q,hq⟩:∃ q,q=max n0 n1:=⟨_,rfl⟩
   have HQ:=hid hq
   have hwl:=(Kab.1 hE3).1
   have HEA:=hid (fun W (hW:Below w2.heap.size w2 W)=>Zcv (X:=evX cb g vg Z) 186 (fun a b=>subW a b) ent_5 (fun a b W=>ZkW a b W) r0 r1 n0 n1 t0 t1 q (V a0).el (V a1).el W (fun k hk=>Kae (HXL.out k hk) (HB2.out.trans (hW.mono HB2.out.size)).size) HQ.out HN0.out HN1.out HL0.out.1 HL1.out.1 HL0.out.2 HL1.out.2 (show RdX (evX cb g vg Z) W r0 ((V a0).el.map U) from by obtain ⟨_,A9,c9,e9,_,_,r9⟩:=HT0.out;injection e9 with e9 _ _;subst e9;exact r9.keep (KeepX.of hW)) (show RdX (evX cb g vg Z) W r1 ((V a1).el.map U) from by obtain ⟨_,A9,c9,e9,_,_,r9⟩:=HT1.out;injection e9 with e9 _ _;subst e9;exact r9.keep (KeepX.of hW)))
   have S0:=hid (show wr.drew.cell? ⟨g0,1,none⟩=some (.slice r0 n0 t0)∧wr.drew.cell? ⟨g0,3,none⟩=some (.slice r1 n1 t1)∧wr.drew.cell? ⟨w.heap.size,0,none⟩=some (.int .i64 5)∧wr.drew.cell? ⟨w.heap.size,1,none⟩=some (.string dn)∧wr.drew.cell? ⟨w.heap.size,2,none⟩=some (.int .u64 (du:Int))∧wr.drew.cell? ⟨w.heap.size,3,none⟩=some (.slice A' 2 c')∧wr.drew.cell? ⟨w.heap.size,4,none⟩=some (.int .i64 dp)∧g0<wr.drew.heap.size∧w.heap.size<wr.drew.heap.size∧Below wr.heap.size wr wr.drew from ⟨x0b,x1b,e0,e1,e2,e3,e4,hg0,hwl,(Kai _ _).drew⟩)
   clear x0a x0b x1a x1b hq e1 e2 e3 e4 hE3 hS3 hwl hg0
   go_wp2_with fail
   go_region_held3 (fun w'=>w'.cell? ⟨g0,1,none⟩=some (.slice r0 n0 t0)∧w'.cell? ⟨g0,3,none⟩=some (.slice r1 n1 t1)∧w'.cell? ⟨w.heap.size,0,none⟩=some (.int .i64 5)∧w'.cell? ⟨w.heap.size,1,none⟩=some (.string dn)∧w'.cell? ⟨w.heap.size,2,none⟩=some (.int .u64 (du:Int))∧w'.cell? ⟨w.heap.size,3,none⟩=some (.slice A' 2 c')∧w'.cell? ⟨w.heap.size,4,none⟩=some (.int .i64 dp)∧g0<w'.heap.size∧w.heap.size<w'.heap.size∧Below wr.heap.size wr w') (first | with_reducible exact S0.out | assumption | exact ZfA (by assumption) (by assumption))
    (first
     | (go_at_call 161;refine (two_5 dn du _ dp _).mono ?_;rintro e w4 ⟨rfl,b4⟩)
     | (go_at_call 156;refine (HEA.out _ ?_).mono ?_;(refine bnext HB.out ?_;apply Zcw;assumption);rintro e w6 ⟨gg,rfl,k6,b6⟩))
   all_goals
    go_wp2
    go_ret
    refine ⟨bnext HB9.out ?_,_,rfl,k6⟩
    apply Zcw
    assumption
theorem Zms (B cb g vg:Nat) (Z:List Nat) (SA EA HA:Option Addr) (ns sc ne ec:Nat) (names:Zah) (V:Nat→TN) (shF:List (List Int)) (dn:ByteArray) (du:Nat) (dp:Int) (a0 a1:Nat) (A':Option Addr) (c':Nat) (w:World)
  (hS:EvSt w B cb g vg Z SA EA HA ns sc ne ec names V shF) (hr:Rd w w.heap.size A' (([(a0:Int),(a1:Int)]:List Int).map VI)) (ha0:a0<ne) (ha1:a1<ne) (hz0:1≤(V a0).el.length∧(V a0).el.length≤32) (hz1:1≤(V a1).el.length∧(V a1).el.length≤32):
  Calls Tryz.prog 98 #[.pointer (some ⟨cb,0,none⟩),.agg #[.int .i64 6,.string dn,.int .u64 (du:Int),.slice A' 2 c',.int .i64 dp]] w (ExOut (evX cb g vg Z) w (eachP (fun a b=>mulW a b) (V a0).el (V a1).el)):=by
 obtain ⟨w2,hw2⟩:∃ w2,w2=w.alloc (.cells #[.int .i64 6,.string dn,.int .u64 (du:Int),.slice A' 2 c',.int .i64 dp] 90):=⟨_,rfl⟩
 have hb2:Below w.heap.size w w2:=by rw [hw2];exact (Kai _ _).alloc (Kag _) _
 have hE:w2.heap[w.heap.size]?=some (.cells #[.int .i64 6,.string dn,.int .u64 (du:Int),.slice A' 2 c',.int .i64 dp] 90 (0,0)):=by rw [hw2];exact Kac w _
 have HW2:=hid hw2
 have HB2:=hid hb2
 have HS2:=hid (hS.next hb2)
 have HXL:=hid hS.lt
 have HR2:=hid (hr.next hb2)
 have e3:=Kaa _ _ 3 _ _ _ hE
 have HE:=hid (fun W (hW:Below w2.heap.size w2 W)=>(hW.block w.heap.size (Kab.1 hE).1).trans hE)
 have hlt2:w.heap.size<w2.heap.size:=(Kab.1 hE).1
 have HLT:=hid hlt2
 have HALL:=hid (show ∀ a∈([a0,a1]:List Nat),a<ne from by simp;omega)
 have HZ0:=hid hz0
 have HZ1:=hid hz1
 clear hw2 hb2 hE hS hr hlt2
 go_enter Tryz.func98,Tryz.ntmps98
 go_wp2_with fail
 rw [←HW2.out]
 go_wp2_with fail
 clear e3
 go_loopw [5,13] (fun xv kv wr=>∃ (k:Nat) (A:Option Addr) (c:Nat),k≤2∧kv=.int .i64 k∧xv=.slice A k c∧OwnTn (evX cb g vg Z) w2 wr w2.heap.size A k c ((([a0,a1]:List Nat).take k).map V)∧Below w2.heap.size w2 wr) (fun _ kv _=>2-(intOf kv).toNat)
 case atStart=>exact ⟨0,none,0,by omega,rfl,rfl,OwnTn.nil _ _ _ _,Kai _ _⟩
 case round=>
  obtain ⟨k,A,c,hk,rfl,rfl,hO,hb⟩:=hrel
  have HO:=hid hO
  have HB:=hid hb
  have hE3:=HE.out _ hb
  have hS3:=HS2.out.next hb
  clear hO hb
  by_cases hlk:k<2
  ·have ht:([a0,a1]:List Nat)[k]?=some (([a0,a1]:List Nat)[k]'hlk):=Kad _
   obtain ⟨a,hax⟩:∃ d,d=([a0,a1]:List Nat)[k]'hlk:=⟨_,rfl⟩
   rw [←hax] at ht
   have ha:a<ne:=HALL.out a (Kam ht)
   obtain ⟨b2,o2,rfl,hbl2,d0⟩:=(HR2.out.next HB.out).at_ (show (([(a0:Int),(a1:Int)]:List Int).map VI)[k]?=some (VI (a:Int)) by
    rw [show (([(a0:Int),(a1:Int)]:List Int):List Int)=([a0,a1]:List Nat).map Int.ofNat from rfl,Kal,Kal,ht];rfl)
   unfold VI at d0
   obtain ⟨A1,c1,A2,c2,v0,v1,htn⟩:=HS2.out.val ha
   have v0':=(HB.out.cell (p:=⟨vg,a*2,none⟩) (HS2.out.lt _ (.inr (.inr (.inl rfl))))).trans v0
   have v1':=(HB.out.cell (p:=⟨vg,a*2+1,none⟩) (HS2.out.lt _ (.inr (.inr (.inl rfl))))).trans v1
   have k0:(0:Int)≤(k:Int):=by omega
   have k1:(k:Int)<((2:Nat):Int):=by omega
   have ba0:(0:Int)≤(a:Int):=by omega
   have ba1:(a:Int)<(ne:Int):=by omega
   have z2:=Kaa _ _ 2 _ _ _ hS3.hc
   have z3:=Kaa _ _ 3 _ _ _ hS3.hc
   have HTN:=hid htn
   have HAP:=hid (show (([a0,a1]:List Nat).take (k+1)).map V=(([a0,a1]:List Nat).take k).map V++[V a] from by
    rw [List.take_add_one,ht,List.map_append];rfl)
   clear ht hax v0 v1 htn hbl2 hE3 hS3
   go_wp2_with (at_builtin;(refine appTn rfl (.tmp 17) (.tmp 25) rfl w2.heap.size A c k ((([a0,a1]:List Nat).take k).map V) rfl (HO.out.next ((Kai _ _).alloc (Kag _) _)) wr.heap.size rfl (.slice A1 (V a).sh.length c1,.slice A2 (V a).el.length c2) (V a) (Kac wr _) HTN.out (by omega) (by have:=HB.out.size;simp;omega) ?_);intro A5 c5 w5 o5 b5;have O5:=hid o5;have B5:=hid ((HB.out.alloc HB.out.size _).trans b5);clear o5 b5)
   exact ⟨⟨k+1,A5,c5,by omega,rfl,rfl,by rw [HAP.out];exact O5.out,B5.out⟩,by simp [intOf];omega⟩
  ·obtain rfl:k=2:=by omega
   have e0:=Kaa _ _ 0 _ _ _ hE3
   have e1:=Kaa _ _ 1 _ _ _ hE3
   have e2:=Kaa _ _ 2 _ _ _ hE3
   have e3:=Kaa _ _ 3 _ _ _ hE3
   have e4:=Kaa _ _ 4 _ _ _ hE3
   have HB9:=hid (HB2.out.trans (HB.out.mono (Nat.le_of_lt HLT.out)))
   obtain ⟨g0,p0,q0,r0,t0,hA0,x0a,x0b,ht0⟩:=HO.out.at_ (j:=0) (x:=V a0) rfl
   subst hA0
   obtain ⟨g1,p1,q1,r1,t1,hA1,x1a,x1b,ht1⟩:=HO.out.at_ (j:=1) (x:=V a1) rfl
   injection hA1 with hA1
   injection hA1 with hA1 _ _
   subst hA1
   simp only [Nat.reduceMul,Nat.reduceAdd] at x0a x0b
   simp only [Nat.reduceMul,Nat.reduceAdd] at x1a x1b
   have HT0:=hid ht0
   clear ht0
   have HT1:=hid ht1
   clear ht1
   have hg0:=World.block_lt_of_cell? wr _ x0b
   obtain ⟨n0,hn0⟩:∃ n,n=(V a0).el.length:=⟨_,rfl⟩
   rw [←hn0] at x0b
   have HN0:=hid hn0
   have HL0:=hid (show 1≤n0∧n0≤1000 from by have:=HZ0.out;rw [←hn0] at this;omega)
   clear hn0
   obtain ⟨n1,hn1⟩:∃ n,n=(V a1).el.length:=⟨_,rfl⟩
   rw [←hn1] at x1b
   have HN1:=hid hn1
   have HL1:=hid (show 1≤n1∧n1≤1000 from by have:=HZ1.out;rw [←hn1] at this;omega)
   clear hn1
   obtain ⟨q,hq⟩:∃ q,q=max n0 n1:=⟨_,rfl⟩
   have HQ:=hid hq
   have hwl:=(Kab.1 hE3).1
   have HEA:=hid (fun W (hW:Below w2.heap.size w2 W)=>Zcv (X:=evX cb g vg Z) 187 (fun a b=>mulW a b) ent_6 (fun a b W=>ZkX a b W) r0 r1 n0 n1 t0 t1 q (V a0).el (V a1).el W (fun k hk=>Kae (HXL.out k hk) (HB2.out.trans (hW.mono HB2.out.size)).size) HQ.out HN0.out HN1.out HL0.out.1 HL1.out.1 HL0.out.2 HL1.out.2 (show RdX (evX cb g vg Z) W r0 ((V a0).el.map U) from by obtain ⟨_,A9,c9,e9,_,_,r9⟩:=HT0.out;injection e9 with e9 _ _;subst e9;exact r9.keep (KeepX.of hW)) (show RdX (evX cb g vg Z) W r1 ((V a1).el.map U) from by obtain ⟨_,A9,c9,e9,_,_,r9⟩:=HT1.out;injection e9 with e9 _ _;subst e9;exact r9.keep (KeepX.of hW)))
   have S0:=hid (show wr.drew.cell? ⟨g0,1,none⟩=some (.slice r0 n0 t0)∧wr.drew.cell? ⟨g0,3,none⟩=some (.slice r1 n1 t1)∧wr.drew.cell? ⟨w.heap.size,0,none⟩=some (.int .i64 6)∧wr.drew.cell? ⟨w.heap.size,1,none⟩=some (.string dn)∧wr.drew.cell? ⟨w.heap.size,2,none⟩=some (.int .u64 (du:Int))∧wr.drew.cell? ⟨w.heap.size,3,none⟩=some (.slice A' 2 c')∧wr.drew.cell? ⟨w.heap.size,4,none⟩=some (.int .i64 dp)∧g0<wr.drew.heap.size∧w.heap.size<wr.drew.heap.size∧Below wr.heap.size wr wr.drew from ⟨x0b,x1b,e0,e1,e2,e3,e4,hg0,hwl,(Kai _ _).drew⟩)
   clear x0a x0b x1a x1b hq e1 e2 e3 e4 hE3 hS3 hwl hg0
   go_wp2_with fail
   go_region_held3 (fun w'=>w'.cell? ⟨g0,1,none⟩=some (.slice r0 n0 t0)∧w'.cell? ⟨g0,3,none⟩=some (.slice r1 n1 t1)∧w'.cell? ⟨w.heap.size,0,none⟩=some (.int .i64 6)∧w'.cell? ⟨w.heap.size,1,none⟩=some (.string dn)∧w'.cell? ⟨w.heap.size,2,none⟩=some (.int .u64 (du:Int))∧w'.cell? ⟨w.heap.size,3,none⟩=some (.slice A' 2 c')∧w'.cell? ⟨w.heap.size,4,none⟩=some (.int .i64 dp)∧g0<w'.heap.size∧w.heap.size<w'.heap.size∧Below wr.heap.size wr w') (first | with_reducible exact S0.out | assumption | exact ZfA (by assumption) (by assumption))
    (first
     | (go_at_call 161;refine (two_6 dn du _ dp _).mono ?_;rintro e w4 ⟨rfl,b4⟩)
     | (go_at_call 156;refine (HEA.out _ ?_).mono ?_;(refine bnext HB.out ?_;apply Zcw;assumption);rintro e w6 ⟨gg,rfl,k6,b6⟩))
   all_goals
    go_wp2
    go_ret
    refine ⟨bnext HB9.out ?_,_,rfl,k6⟩
    apply Zcw
    assumption
theorem Zmt (B cb g vg:Nat) (Z:List Nat) (SA EA HA:Option Addr) (ns sc ne ec:Nat) (names:Zah) (V:Nat→TN) (shF:List (List Int)) (dn:ByteArray) (du:Nat) (dp:Int) (a0 a1:Nat) (A':Option Addr) (c':Nat) (w:World)
  (hS:EvSt w B cb g vg Z SA EA HA ns sc ne ec names V shF) (hr:Rd w w.heap.size A' (([(a0:Int),(a1:Int)]:List Int).map VI)) (ha0:a0<ne) (ha1:a1<ne) (hz0:1≤(V a0).el.length∧(V a0).el.length≤32) (hz1:1≤(V a1).el.length∧(V a1).el.length≤32) (mm kk nn:Nat) (hsz:1≤mm∧mm≤32∧1≤kk∧kk≤32∧1≤nn∧nn≤32) (hx1:(V a0).el.length=mm*kk) (hx2:(V a1).el.length=kk*nn) (hys:(V a1).sh[0]?=some (kk:Int)) (hd1:(V a0).el.length / kk=mm) (hd2:(V a1).el.length / kk=nn):
  Calls Tryz.prog 98 #[.pointer (some ⟨cb,0,none⟩),.agg #[.int .i64 7,.string dn,.int .u64 (du:Int),.slice A' 2 c',.int .i64 dp]] w (ExOut (evX cb g vg Z) w (matW (V a0).el (V a1).el mm kk nn)):=by
 obtain ⟨w2,hw2⟩:∃ w2,w2=w.alloc (.cells #[.int .i64 7,.string dn,.int .u64 (du:Int),.slice A' 2 c',.int .i64 dp] 90):=⟨_,rfl⟩
 have hb2:Below w.heap.size w w2:=by rw [hw2];exact (Kai _ _).alloc (Kag _) _
 have hE:w2.heap[w.heap.size]?=some (.cells #[.int .i64 7,.string dn,.int .u64 (du:Int),.slice A' 2 c',.int .i64 dp] 90 (0,0)):=by rw [hw2];exact Kac w _
 have HW2:=hid hw2
 have HB2:=hid hb2
 have HS2:=hid (hS.next hb2)
 have HXL:=hid hS.lt
 have HR2:=hid (hr.next hb2)
 have e3:=Kaa _ _ 3 _ _ _ hE
 have HE:=hid (fun W (hW:Below w2.heap.size w2 W)=>(hW.block w.heap.size (Kab.1 hE).1).trans hE)
 have hlt2:w.heap.size<w2.heap.size:=(Kab.1 hE).1
 have HLT:=hid hlt2
 have HALL:=hid (show ∀ a∈([a0,a1]:List Nat),a<ne from by simp;omega)
 have HZ0:=hid hz0
 have HZ1:=hid hz1
 have HMN:=hid (show mm*nn≤1048576 from Kah (Nat.mul_le_mul hsz.2.1 hsz.2.2.2.2.2) (by decide))
 have HSZ:=hid hsz
 have HX1:=hid hx1
 have HX2:=hid hx2
 have HYS:=hid hys
 have HD1:=hid hd1
 have HD2:=hid hd2
 clear hx1 hx2 hys hd1 hd2
 clear hw2 hb2 hE hS hr hlt2
 go_enter Tryz.func98,Tryz.ntmps98
 go_wp2_with fail
 rw [←HW2.out]
 go_wp2_with fail
 clear e3
 go_loopw [5,13] (fun xv kv wr=>∃ (k:Nat) (A:Option Addr) (c:Nat),k≤2∧kv=.int .i64 k∧xv=.slice A k c∧OwnTn (evX cb g vg Z) w2 wr w2.heap.size A k c ((([a0,a1]:List Nat).take k).map V)∧Below w2.heap.size w2 wr) (fun _ kv _=>2-(intOf kv).toNat)
 case atStart=>exact ⟨0,none,0,by omega,rfl,rfl,OwnTn.nil _ _ _ _,Kai _ _⟩
 case round=>
  obtain ⟨k,A,c,hk,rfl,rfl,hO,hb⟩:=hrel
  have HO:=hid hO
  have HB:=hid hb
  have hE3:=HE.out _ hb
  have hS3:=HS2.out.next hb
  clear hO hb
  by_cases hlk:k<2
  ·have ht:([a0,a1]:List Nat)[k]?=some (([a0,a1]:List Nat)[k]'hlk):=Kad _
   obtain ⟨a,hax⟩:∃ d,d=([a0,a1]:List Nat)[k]'hlk:=⟨_,rfl⟩
   rw [←hax] at ht
   have ha:a<ne:=HALL.out a (Kam ht)
   obtain ⟨b2,o2,rfl,hbl2,d0⟩:=(HR2.out.next HB.out).at_ (show (([(a0:Int),(a1:Int)]:List Int).map VI)[k]?=some (VI (a:Int)) by
    rw [show (([(a0:Int),(a1:Int)]:List Int):List Int)=([a0,a1]:List Nat).map Int.ofNat from rfl,Kal,Kal,ht];rfl)
   unfold VI at d0
   obtain ⟨A1,c1,A2,c2,v0,v1,htn⟩:=HS2.out.val ha
   have v0':=(HB.out.cell (p:=⟨vg,a*2,none⟩) (HS2.out.lt _ (.inr (.inr (.inl rfl))))).trans v0
   have v1':=(HB.out.cell (p:=⟨vg,a*2+1,none⟩) (HS2.out.lt _ (.inr (.inr (.inl rfl))))).trans v1
   have k0:(0:Int)≤(k:Int):=by omega
   have k1:(k:Int)<((2:Nat):Int):=by omega
   have ba0:(0:Int)≤(a:Int):=by omega
   have ba1:(a:Int)<(ne:Int):=by omega
   have z2:=Kaa _ _ 2 _ _ _ hS3.hc
   have z3:=Kaa _ _ 3 _ _ _ hS3.hc
   have HTN:=hid htn
   have HAP:=hid (show (([a0,a1]:List Nat).take (k+1)).map V=(([a0,a1]:List Nat).take k).map V++[V a] from by
    rw [List.take_add_one,ht,List.map_append];rfl)
   clear ht hax v0 v1 htn hbl2 hE3 hS3
   go_wp2_with (at_builtin;(refine appTn rfl (.tmp 17) (.tmp 25) rfl w2.heap.size A c k ((([a0,a1]:List Nat).take k).map V) rfl (HO.out.next ((Kai _ _).alloc (Kag _) _)) wr.heap.size rfl (.slice A1 (V a).sh.length c1,.slice A2 (V a).el.length c2) (V a) (Kac wr _) HTN.out (by omega) (by have:=HB.out.size;simp;omega) ?_);intro A5 c5 w5 o5 b5;have O5:=hid o5;have B5:=hid ((HB.out.alloc HB.out.size _).trans b5);clear o5 b5)
   exact ⟨⟨k+1,A5,c5,by omega,rfl,rfl,by rw [HAP.out];exact O5.out,B5.out⟩,by simp [intOf];omega⟩
  ·obtain rfl:k=2:=by omega
   have e0:=Kaa _ _ 0 _ _ _ hE3
   have e1:=Kaa _ _ 1 _ _ _ hE3
   have e2:=Kaa _ _ 2 _ _ _ hE3
   have e3:=Kaa _ _ 3 _ _ _ hE3
   have e4:=Kaa _ _ 4 _ _ _ hE3
   have HB9:=hid (HB2.out.trans (HB.out.mono (Nat.le_of_lt HLT.out)))
   obtain ⟨g0,p0,q0,r0,t0,hA0,x0a,x0b,ht0⟩:=HO.out.at_ (j:=0) (x:=V a0) rfl
   subst hA0
   obtain ⟨g1,p1,q1,r1,t1,hA1,x1a,x1b,ht1⟩:=HO.out.at_ (j:=1) (x:=V a1) rfl
   injection hA1 with hA1
   injection hA1 with hA1 _ _
   subst hA1
   simp only [Nat.reduceMul,Nat.reduceAdd] at x0a x0b
   simp only [Nat.reduceMul,Nat.reduceAdd] at x1a x1b
   have HT0:=hid ht0
   clear ht0
   have HT1:=hid ht1
   clear ht1
   have hg0:=World.block_lt_of_cell? wr _ x0b
   obtain ⟨n0,hn0⟩:∃ n,n=(V a0).el.length:=⟨_,rfl⟩
   rw [←hn0] at x0b
   have HN0:=hid hn0
   have HL0:=hid (show 1≤n0∧n0≤1000 from by have:=HZ0.out;rw [←hn0] at this;omega)
   clear hn0
   obtain ⟨n1,hn1⟩:∃ n,n=(V a1).el.length:=⟨_,rfl⟩
   rw [←hn1] at x1b
   have HN1:=hid hn1
   have HL1:=hid (show 1≤n1∧n1≤1000 from by have:=HZ1.out;rw [←hn1] at this;omega)
   clear hn1
   obtain ⟨s0,hs0⟩:∃ n,n=(V a0).sh.length:=⟨_,rfl⟩
   obtain ⟨s1,hs1⟩:∃ n,n=(V a1).sh.length:=⟨_,rfl⟩
   rw [←hs0] at x0a
   rw [←hs1] at x1a
   have HMT:=hid (fun W (hW:Below w2.heap.size w2 W)=>ZkA p0 r0 p1 r1 q0 t0 q1 t1 s0 s1 n0 n1 (V a1).sh (V a0).el (V a1).el mm kk nn W HSZ.out.1 (by have:=HSZ.out;omega) HSZ.out.2.2.1 (by have:=HSZ.out;omega) HSZ.out.2.2.2.2.1 (by have:=HSZ.out;omega) HX1.out HX2.out HN0.out HN1.out hs1 HYS.out (by obtain ⟨_,_,_,_,_,h,_⟩:=HT1.out.1;exact h) (by rw [HN0.out];exact HD1.out) (by rw [HN1.out];exact HD2.out) ((HT0.out.2.rdx.1.keep (KeepX.of hW)).rd) (by obtain ⟨A9,c9,e9,_,_,_,r9⟩:=HT1.out.1;injection e9 with e9 _ _;subst e9;exact (r9.keep (KeepX.of hW)).rd) ((HT1.out.2.rdx.1.keep (KeepX.of hW)).rd))
   have S0:=hid (show wr.drew.cell? ⟨g0,0,none⟩=some (.slice p0 s0 q0)∧wr.drew.cell? ⟨g0,1,none⟩=some (.slice r0 n0 t0)∧wr.drew.cell? ⟨g0,2,none⟩=some (.slice p1 s1 q1)∧wr.drew.cell? ⟨g0,3,none⟩=some (.slice r1 n1 t1)∧g0<wr.drew.heap.size∧Below wr.heap.size wr wr.drew from ⟨x0a,x0b,x1a,x1b,hg0,(Kai _ _).drew⟩)
   clear x0a x0b x1a x1b e1 e2 e3 e4 hE3 hS3 hg0 hs0 hs1
   go_wp2_with fail
   go_region_held3 (fun w'=>w'.cell? ⟨g0,0,none⟩=some (.slice p0 s0 q0)∧w'.cell? ⟨g0,1,none⟩=some (.slice r0 n0 t0)∧w'.cell? ⟨g0,2,none⟩=some (.slice p1 s1 q1)∧w'.cell? ⟨g0,3,none⟩=some (.slice r1 n1 t1)∧g0<w'.heap.size∧Below wr.heap.size wr w') (first | with_reducible exact S0.out | assumption | exact Znx (by assumption) (by assumption))
    (first
     | (go_at_call 153;refine (HMT.out _ ?_).mono ?_;(refine bnext HB.out ?_;apply last6;assumption);rintro e w6 ⟨gg,rfl,k6,g6,b6⟩))
   all_goals
    go_wp2
    go_ret
    refine ⟨bnext HB9.out ?_,_,rfl,ZeX k6 (Kah (bnext HB9.out (Kai _ _).drew).size g6) HXL.out (by rw [ZaV]) HMN.out⟩
    apply last6
    assumption
theorem Zmu (B cb g vg:Nat) (Z:List Nat) (SA EA HA:Option Addr) (ns sc ne ec:Nat) (names:Zah) (V:Nat→TN) (shF:List (List Int)) (dn:ByteArray) (du:Nat) (dp:Int) (a0 a1:Nat) (A':Option Addr) (c':Nat) (w:World)
  (hS:EvSt w B cb g vg Z SA EA HA ns sc ne ec names V shF) (hr:Rd w w.heap.size A' (([(a0:Int),(a1:Int)]:List Int).map VI)) (ha0:a0<ne) (ha1:a1<ne) (hz0:1≤(V a0).el.length∧(V a0).el.length≤32) (hz1:1≤(V a1).el.length∧(V a1).el.length≤32):
  Calls Tryz.prog 98 #[.pointer (some ⟨cb,0,none⟩),.agg #[.int .i64 8,.string dn,.int .u64 (du:Int),.slice A' 2 c',.int .i64 dp]] w (ExOut (evX cb g vg Z) w (eachP (fun a b=>oneW (sltW a b)) (V a0).el (V a1).el)):=by
 obtain ⟨w2,hw2⟩:∃ w2,w2=w.alloc (.cells #[.int .i64 8,.string dn,.int .u64 (du:Int),.slice A' 2 c',.int .i64 dp] 90):=⟨_,rfl⟩
 have hb2:Below w.heap.size w w2:=by rw [hw2];exact (Kai _ _).alloc (Kag _) _
 have hE:w2.heap[w.heap.size]?=some (.cells #[.int .i64 8,.string dn,.int .u64 (du:Int),.slice A' 2 c',.int .i64 dp] 90 (0,0)):=by rw [hw2];exact Kac w _
 have HW2:=hid hw2
 have HB2:=hid hb2
 have HS2:=hid (hS.next hb2)
 have HXL:=hid hS.lt
 have HR2:=hid (hr.next hb2)
 have e3:=Kaa _ _ 3 _ _ _ hE
 have HE:=hid (fun W (hW:Below w2.heap.size w2 W)=>(hW.block w.heap.size (Kab.1 hE).1).trans hE)
 have hlt2:w.heap.size<w2.heap.size:=(Kab.1 hE).1
 have HLT:=hid hlt2
 have HALL:=hid (show ∀ a∈([a0,a1]:List Nat),a<ne from by simp;omega)
 have HZ0:=hid hz0
 have HZ1:=hid hz1
 clear hw2 hb2 hE hS hr hlt2
 go_enter Tryz.func98,Tryz.ntmps98
 go_wp2_with fail
 rw [←HW2.out]
 go_wp2_with fail
 clear e3
 go_loopw [5,13] (fun xv kv wr=>∃ (k:Nat) (A:Option Addr) (c:Nat),k≤2∧kv=.int .i64 k∧xv=.slice A k c∧OwnTn (evX cb g vg Z) w2 wr w2.heap.size A k c ((([a0,a1]:List Nat).take k).map V)∧Below w2.heap.size w2 wr) (fun _ kv _=>2-(intOf kv).toNat)
 case atStart=>exact ⟨0,none,0,by omega,rfl,rfl,OwnTn.nil _ _ _ _,Kai _ _⟩
 case round=>
  obtain ⟨k,A,c,hk,rfl,rfl,hO,hb⟩:=hrel
  have HO:=hid hO
  have HB:=hid hb
  have hE3:=HE.out _ hb
  have hS3:=HS2.out.next hb
  clear hO hb
  by_cases hlk:k<2
  ·have ht:([a0,a1]:List Nat)[k]?=some (([a0,a1]:List Nat)[k]'hlk):=Kad _
   obtain ⟨a,hax⟩:∃ d,d=([a0,a1]:List Nat)[k]'hlk:=⟨_,rfl⟩
   rw [←hax] at ht
   have ha:a<ne:=HALL.out a (Kam ht)
   obtain ⟨b2,o2,rfl,hbl2,d0⟩:=(HR2.out.next HB.out).at_ (show (([(a0:Int),(a1:Int)]:List Int).map VI)[k]?=some (VI (a:Int)) by
    rw [show (([(a0:Int),(a1:Int)]:List Int):List Int)=([a0,a1]:List Nat).map Int.ofNat from rfl,Kal,Kal,ht];rfl)
   unfold VI at d0
   obtain ⟨A1,c1,A2,c2,v0,v1,htn⟩:=HS2.out.val ha
   have v0':=(HB.out.cell (p:=⟨vg,a*2,none⟩) (HS2.out.lt _ (.inr (.inr (.inl rfl))))).trans v0
   have v1':=(HB.out.cell (p:=⟨vg,a*2+1,none⟩) (HS2.out.lt _ (.inr (.inr (.inl rfl))))).trans v1
   have k0:(0:Int)≤(k:Int):=by omega
   have k1:(k:Int)<((2:Nat):Int):=by omega
   have ba0:(0:Int)≤(a:Int):=by omega
   have ba1:(a:Int)<(ne:Int):=by omega
   have z2:=Kaa _ _ 2 _ _ _ hS3.hc
   have z3:=Kaa _ _ 3 _ _ _ hS3.hc
   have HTN:=hid htn
   have HAP:=hid (show (([a0,a1]:List Nat).take (k+1)).map V=(([a0,a1]:List Nat).take k).map V++[V a] from by
    rw [List.take_add_one,ht,List.map_append];rfl)
   clear ht hax v0 v1 htn hbl2 hE3 hS3
   go_wp2_with (at_builtin;(refine appTn rfl (.tmp 17) (.tmp 25) rfl w2.heap.size A c k ((([a0,a1]:List Nat).take k).map V) rfl (HO.out.next ((Kai _ _).alloc (Kag _) _)) wr.heap.size rfl (.slice A1 (V a).sh.length c1,.slice A2 (V a).el.length c2) (V a) (Kac wr _) HTN.out (by omega) (by have:=HB.out.size;simp;omega) ?_);intro A5 c5 w5 o5 b5;have O5:=hid o5;have B5:=hid ((HB.out.alloc HB.out.size _).trans b5);clear o5 b5)
   exact ⟨⟨k+1,A5,c5,by omega,rfl,rfl,by rw [HAP.out];exact O5.out,B5.out⟩,by simp [intOf];omega⟩
  ·obtain rfl:k=2:=by omega
   have e0:=Kaa _ _ 0 _ _ _ hE3
   have e1:=Kaa _ _ 1 _ _ _ hE3
   have e2:=Kaa _ _ 2 _ _ _ hE3
   have e3:=Kaa _ _ 3 _ _ _ hE3
   have e4:=Kaa _ _ 4 _ _ _ hE3
   have HB9:=hid (HB2.out.trans (HB.out.mono (Nat.le_of_lt HLT.out)))
   obtain ⟨g0,p0,q0,r0,t0,hA0,x0a,x0b,ht0⟩:=HO.out.at_ (j:=0) (x:=V a0) rfl
   subst hA0
   obtain ⟨g1,p1,q1,r1,t1,hA1,x1a,x1b,ht1⟩:=HO.out.at_ (j:=1) (x:=V a1) rfl
   injection hA1 with hA1
   injection hA1 with hA1 _ _
   subst hA1
   simp only [Nat.reduceMul,Nat.reduceAdd] at x0a x0b
   simp only [Nat.reduceMul,Nat.reduceAdd] at x1a x1b
   have HT0:=hid ht0
   clear ht0
   have HT1:=hid ht1
   clear ht1
   have hg0:=World.block_lt_of_cell? wr _ x0b
   obtain ⟨n0,hn0⟩:∃ n,n=(V a0).el.length:=⟨_,rfl⟩
   rw [←hn0] at x0b
   have HN0:=hid hn0
   have HL0:=hid (show 1≤n0∧n0≤1000 from by have:=HZ0.out;rw [←hn0] at this;omega)
   clear hn0
   obtain ⟨n1,hn1⟩:∃ n,n=(V a1).el.length:=⟨_,rfl⟩
   rw [←hn1] at x1b
   have HN1:=hid hn1
   have HL1:=hid (show 1≤n1∧n1≤1000 from by have:=HZ1.out;rw [←hn1] at this;omega)
   clear hn1
   obtain ⟨q,hq⟩:∃ q,q=max n0 n1:=⟨_,rfl⟩
   have HQ:=hid hq
   have hwl:=(Kab.1 hE3).1
   have HEA:=hid (fun W (hW:Below w2.heap.size w2 W)=>Zcv (X:=evX cb g vg Z) 183 (fun a b=>oneW (sltW a b)) ent_8 (fun a b W=>Zd9 a b W) r0 r1 n0 n1 t0 t1 q (V a0).el (V a1).el W (fun k hk=>Kae (HXL.out k hk) (HB2.out.trans (hW.mono HB2.out.size)).size) HQ.out HN0.out HN1.out HL0.out.1 HL1.out.1 HL0.out.2 HL1.out.2 (show RdX (evX cb g vg Z) W r0 ((V a0).el.map U) from by obtain ⟨_,A9,c9,e9,_,_,r9⟩:=HT0.out;injection e9 with e9 _ _;subst e9;exact r9.keep (KeepX.of hW)) (show RdX (evX cb g vg Z) W r1 ((V a1).el.map U) from by obtain ⟨_,A9,c9,e9,_,_,r9⟩:=HT1.out;injection e9 with e9 _ _;subst e9;exact r9.keep (KeepX.of hW)))
   have S0:=hid (show wr.drew.cell? ⟨g0,1,none⟩=some (.slice r0 n0 t0)∧wr.drew.cell? ⟨g0,3,none⟩=some (.slice r1 n1 t1)∧wr.drew.cell? ⟨w.heap.size,0,none⟩=some (.int .i64 8)∧wr.drew.cell? ⟨w.heap.size,1,none⟩=some (.string dn)∧wr.drew.cell? ⟨w.heap.size,2,none⟩=some (.int .u64 (du:Int))∧wr.drew.cell? ⟨w.heap.size,3,none⟩=some (.slice A' 2 c')∧wr.drew.cell? ⟨w.heap.size,4,none⟩=some (.int .i64 dp)∧g0<wr.drew.heap.size∧w.heap.size<wr.drew.heap.size∧Below wr.heap.size wr wr.drew from ⟨x0b,x1b,e0,e1,e2,e3,e4,hg0,hwl,(Kai _ _).drew⟩)
   clear x0a x0b x1a x1b hq e1 e2 e3 e4 hE3 hS3 hwl hg0
   go_wp2_with fail
   go_region_held3 (fun w'=>w'.cell? ⟨g0,1,none⟩=some (.slice r0 n0 t0)∧w'.cell? ⟨g0,3,none⟩=some (.slice r1 n1 t1)∧w'.cell? ⟨w.heap.size,0,none⟩=some (.int .i64 8)∧w'.cell? ⟨w.heap.size,1,none⟩=some (.string dn)∧w'.cell? ⟨w.heap.size,2,none⟩=some (.int .u64 (du:Int))∧w'.cell? ⟨w.heap.size,3,none⟩=some (.slice A' 2 c')∧w'.cell? ⟨w.heap.size,4,none⟩=some (.int .i64 dp)∧g0<w'.heap.size∧w.heap.size<w'.heap.size∧Below wr.heap.size wr w') (first | with_reducible exact S0.out | assumption | exact ZfA (by assumption) (by assumption))
    (first
     | (go_at_call 161;refine (two_8 dn du _ dp _).mono ?_;rintro e w4 ⟨rfl,b4⟩)
     | (go_at_call 156;refine (HEA.out _ ?_).mono ?_;(refine bnext HB.out ?_;apply Zcw;assumption);rintro e w6 ⟨gg,rfl,k6,b6⟩))
   all_goals
    go_wp2
    go_ret
    refine ⟨bnext HB9.out ?_,_,rfl,k6⟩
    apply Zcw
    assumption
theorem Zmv (B cb g vg:Nat) (Z:List Nat) (SA EA HA:Option Addr) (ns sc ne ec:Nat) (names:Zah) (V:Nat→TN) (shF:List (List Int)) (dn:ByteArray) (du:Nat) (dp:Int) (a0:Nat) (A':Option Addr) (c':Nat) (w:World)
  (hS:EvSt w B cb g vg Z SA EA HA ns sc ne ec names V shF) (hr:Rd w w.heap.size A' (([(a0:Int)]:List Int).map VI)) (ha0:a0<ne) (hz0:1≤(V a0).el.length∧(V a0).el.length≤32) (hdu:du≤63):
  Calls Tryz.prog 98 #[.pointer (some ⟨cb,0,none⟩),.agg #[.int .i64 9,.string dn,.int .u64 (du:Int),.slice A' 1 c',.int .i64 dp]] w (ExOut (evX cb g vg Z) w (eachP (fun a b=>sarW a du) (V a0).el (V a0).el)):=by
 obtain ⟨w2,hw2⟩:∃ w2,w2=w.alloc (.cells #[.int .i64 9,.string dn,.int .u64 (du:Int),.slice A' 1 c',.int .i64 dp] 90):=⟨_,rfl⟩
 have hb2:Below w.heap.size w w2:=by rw [hw2];exact (Kai _ _).alloc (Kag _) _
 have hE:w2.heap[w.heap.size]?=some (.cells #[.int .i64 9,.string dn,.int .u64 (du:Int),.slice A' 1 c',.int .i64 dp] 90 (0,0)):=by rw [hw2];exact Kac w _
 have HW2:=hid hw2
 have HB2:=hid hb2
 have HS2:=hid (hS.next hb2)
 have HXL:=hid hS.lt
 have HR2:=hid (hr.next hb2)
 have e3:=Kaa _ _ 3 _ _ _ hE
 have HE:=hid (fun W (hW:Below w2.heap.size w2 W)=>(hW.block w.heap.size (Kab.1 hE).1).trans hE)
 have hlt2:w.heap.size<w2.heap.size:=(Kab.1 hE).1
 have HLT:=hid hlt2
 have HALL:=hid (show ∀ a∈([a0]:List Nat),a<ne from by simp;omega)
 have HZ0:=hid hz0
 have HDU:=hid hdu
 clear hw2 hb2 hE hS hr hlt2
 go_enter Tryz.func98,Tryz.ntmps98
 go_wp2_with fail
 rw [←HW2.out]
 go_wp2_with fail
 clear e3
 go_loopw [5,13] (fun xv kv wr=>∃ (k:Nat) (A:Option Addr) (c:Nat),k≤1∧kv=.int .i64 k∧xv=.slice A k c∧OwnTn (evX cb g vg Z) w2 wr w2.heap.size A k c ((([a0]:List Nat).take k).map V)∧Below w2.heap.size w2 wr) (fun _ kv _=>1-(intOf kv).toNat)
 case atStart=>exact ⟨0,none,0,by omega,rfl,rfl,OwnTn.nil _ _ _ _,Kai _ _⟩
 case round=>
  obtain ⟨k,A,c,hk,rfl,rfl,hO,hb⟩:=hrel
  have HO:=hid hO
  have HB:=hid hb
  have hE3:=HE.out _ hb
  have hS3:=HS2.out.next hb
  clear hO hb
  by_cases hlk:k<1
  ·have ht:([a0]:List Nat)[k]?=some (([a0]:List Nat)[k]'hlk):=Kad _
   obtain ⟨a,hax⟩:∃ d,d=([a0]:List Nat)[k]'hlk:=⟨_,rfl⟩
   rw [←hax] at ht
   have ha:a<ne:=HALL.out a (Kam ht)
   obtain ⟨b2,o2,rfl,hbl2,d0⟩:=(HR2.out.next HB.out).at_ (show (([(a0:Int)]:List Int).map VI)[k]?=some (VI (a:Int)) by
    rw [show (([(a0:Int)]:List Int):List Int)=([a0]:List Nat).map Int.ofNat from rfl,Kal,Kal,ht];rfl)
   unfold VI at d0
   obtain ⟨A1,c1,A2,c2,v0,v1,htn⟩:=HS2.out.val ha
   have v0':=(HB.out.cell (p:=⟨vg,a*2,none⟩) (HS2.out.lt _ (.inr (.inr (.inl rfl))))).trans v0
   have v1':=(HB.out.cell (p:=⟨vg,a*2+1,none⟩) (HS2.out.lt _ (.inr (.inr (.inl rfl))))).trans v1
   have k0:(0:Int)≤(k:Int):=by omega
   have k1:(k:Int)<((1:Nat):Int):=by omega
   have ba0:(0:Int)≤(a:Int):=by omega
   have ba1:(a:Int)<(ne:Int):=by omega
   have z2:=Kaa _ _ 2 _ _ _ hS3.hc
   have z3:=Kaa _ _ 3 _ _ _ hS3.hc
   have HTN:=hid htn
   have HAP:=hid (show (([a0]:List Nat).take (k+1)).map V=(([a0]:List Nat).take k).map V++[V a] from by
    rw [List.take_add_one,ht,List.map_append];rfl)
   clear ht hax v0 v1 htn hbl2 hE3 hS3
   go_wp2_with (at_builtin;(refine appTn rfl (.tmp 17) (.tmp 25) rfl w2.heap.size A c k ((([a0]:List Nat).take k).map V) rfl (HO.out.next ((Kai _ _).alloc (Kag _) _)) wr.heap.size rfl (.slice A1 (V a).sh.length c1,.slice A2 (V a).el.length c2) (V a) (Kac wr _) HTN.out (by omega) (by have:=HB.out.size;simp;omega) ?_);intro A5 c5 w5 o5 b5;have O5:=hid o5;have B5:=hid ((HB.out.alloc HB.out.size _).trans b5);clear o5 b5)
   exact ⟨⟨k+1,A5,c5,by omega,rfl,rfl,by rw [HAP.out];exact O5.out,B5.out⟩,by simp [intOf];omega⟩
  ·obtain rfl:k=1:=by omega
   have e0:=Kaa _ _ 0 _ _ _ hE3
   have e1:=Kaa _ _ 1 _ _ _ hE3
   have e2:=Kaa _ _ 2 _ _ _ hE3
   have e3:=Kaa _ _ 3 _ _ _ hE3
   have e4:=Kaa _ _ 4 _ _ _ hE3
   have HB9:=hid (HB2.out.trans (HB.out.mono (Nat.le_of_lt HLT.out)))
   obtain ⟨g0,p0,q0,r0,t0,hA0,x0a,x0b,ht0⟩:=HO.out.at_ (j:=0) (x:=V a0) rfl
   subst hA0
   simp only [Nat.reduceMul,Nat.reduceAdd] at x0a x0b
   have HT0:=hid ht0
   clear ht0
   have hg0:=World.block_lt_of_cell? wr _ x0b
   obtain ⟨n0,hn0⟩:∃ n,n=(V a0).el.length:=⟨_,rfl⟩
   rw [←hn0] at x0b
   have HN0:=hid hn0
   have HL0:=hid (show 1≤n0∧n0≤1000 from by have:=HZ0.out;rw [←hn0] at this;omega)
   clear hn0
   obtain ⟨q,hq⟩:∃ q,q=max n0 n0:=⟨_,rfl⟩
   have HQ:=hid hq
   have hwl:=(Kab.1 hE3).1
   have HEA:=hid (fun W eb (hW:Below w2.heap.size w2 W) (he:eb<W.heap.size) (hc:W.cell? ⟨eb,2,none⟩=some (.int .u64 (du:Int)))=>Znw (X:=evX cb g vg Z) 188 eb (fun a b=>sarW a du) ent_9 W (fun a b W2 hW2=>ZkY a b eb du W2 HDU.out ((hW2.cell (p:=⟨eb,2,none⟩) he).trans hc)) r0 r0 n0 n0 t0 t0 q (V a0).el (V a0).el (fun k hk=>Kae (HXL.out k hk) (HB2.out.trans (hW.mono HB2.out.size)).size) HQ.out HN0.out HN0.out HL0.out.1 HL0.out.1 HL0.out.2 HL0.out.2 (show RdX (evX cb g vg Z) W r0 ((V a0).el.map U) from by obtain ⟨_,A9,c9,e9,_,_,r9⟩:=HT0.out;injection e9 with e9 _ _;subst e9;exact r9.keep (KeepX.of hW)) (show RdX (evX cb g vg Z) W r0 ((V a0).el.map U) from by obtain ⟨_,A9,c9,e9,_,_,r9⟩:=HT0.out;injection e9 with e9 _ _;subst e9;exact r9.keep (KeepX.of hW)))
   have S0:=hid (show wr.drew.cell? ⟨g0,1,none⟩=some (.slice r0 n0 t0)∧wr.drew.cell? ⟨w.heap.size,0,none⟩=some (.int .i64 9)∧wr.drew.cell? ⟨w.heap.size,1,none⟩=some (.string dn)∧wr.drew.cell? ⟨w.heap.size,2,none⟩=some (.int .u64 (du:Int))∧wr.drew.cell? ⟨w.heap.size,3,none⟩=some (.slice A' 1 c')∧wr.drew.cell? ⟨w.heap.size,4,none⟩=some (.int .i64 dp)∧g0<wr.drew.heap.size∧w.heap.size<wr.drew.heap.size∧Below wr.heap.size wr wr.drew from ⟨x0b,e0,e1,e2,e3,e4,hg0,hwl,(Kai _ _).drew⟩)
   clear x0a x0b hq e1 e2 e3 e4 hE3 hS3 hwl hg0
   go_wp2_with fail
   go_region_held3 (fun w'=>w'.cell? ⟨g0,1,none⟩=some (.slice r0 n0 t0)∧w'.cell? ⟨w.heap.size,0,none⟩=some (.int .i64 9)∧w'.cell? ⟨w.heap.size,1,none⟩=some (.string dn)∧w'.cell? ⟨w.heap.size,2,none⟩=some (.int .u64 (du:Int))∧w'.cell? ⟨w.heap.size,3,none⟩=some (.slice A' 1 c')∧w'.cell? ⟨w.heap.size,4,none⟩=some (.int .i64 dp)∧g0<w'.heap.size∧w.heap.size<w'.heap.size∧Below wr.heap.size wr w') (first | with_reducible exact S0.out | assumption | exact ZiR (by assumption) (by assumption))
    (first
     | (go_at_call 161;refine (two_9 dn du _ dp _).mono ?_;rintro e w4 ⟨rfl,b4,c4,l4⟩)
     | (go_at_call 156;refine (HEA.out _ _ ?_ ?_ ?_).mono ?_;(refine bnext HB.out ?_;apply last9;assumption);assumption;assumption;rintro e w6 ⟨gg,rfl,k6,b6⟩))
   all_goals
    go_wp2
    go_ret
    refine ⟨bnext HB9.out ?_,_,rfl,k6⟩
    apply last9
    assumption
theorem ZkE (B cb g vg:Nat) (Z:List Nat) (SA EA HA:Option Addr) (ns sc ne ec:Nat) (names:Zah) (V:Nat→TN) (shF:List (List Int)) (dn:ByteArray) (du:Nat) (dp:Int) (a0:Nat) (A':Option Addr) (c':Nat) (w:World)
  (hS:EvSt w B cb g vg Z SA EA HA ns sc ne ec names V shF) (hr:Rd w w.heap.size A' (([(a0:Int)]:List Int).map VI)) (ha0:a0<ne) (hz0:1≤(V a0).el.length∧(V a0).el.length≤32):
  Calls Tryz.prog 98 #[.pointer (some ⟨cb,0,none⟩),.agg #[.int .i64 10,.string dn,.int .u64 (du:Int),.slice A' 1 c',.int .i64 dp]] w (ExOut (evX cb g vg Z) w (eachP (fun a b=>reluW a) (V a0).el (V a0).el)):=by
 obtain ⟨w2,hw2⟩:∃ w2,w2=w.alloc (.cells #[.int .i64 10,.string dn,.int .u64 (du:Int),.slice A' 1 c',.int .i64 dp] 90):=⟨_,rfl⟩
 have hb2:Below w.heap.size w w2:=by rw [hw2];exact (Kai _ _).alloc (Kag _) _
 have hE:w2.heap[w.heap.size]?=some (.cells #[.int .i64 10,.string dn,.int .u64 (du:Int),.slice A' 1 c',.int .i64 dp] 90 (0,0)):=by rw [hw2];exact Kac w _
 have HW2:=hid hw2
 have HB2:=hid hb2
 have HS2:=hid (hS.next hb2)
 have HXL:=hid hS.lt
 have HR2:=hid (hr.next hb2)
 have e3:=Kaa _ _ 3 _ _ _ hE
 have HE:=hid (fun W (hW:Below w2.heap.size w2 W)=>(hW.block w.heap.size (Kab.1 hE).1).trans hE)
 have hlt2:w.heap.size<w2.heap.size:=(Kab.1 hE).1
 have HLT:=hid hlt2
 have HALL:=hid (show ∀ a∈([a0]:List Nat),a<ne from by simp;omega)
 have HZ0:=hid hz0
 clear hw2 hb2 hE hS hr hlt2
 go_enter Tryz.func98,Tryz.ntmps98
 go_wp2_with fail
 rw [←HW2.out]
 go_wp2_with fail
 clear e3
 go_loopw [5,13] (fun xv kv wr=>∃ (k:Nat) (A:Option Addr) (c:Nat),k≤1∧kv=.int .i64 k∧xv=.slice A k c∧OwnTn (evX cb g vg Z) w2 wr w2.heap.size A k c ((([a0]:List Nat).take k).map V)∧Below w2.heap.size w2 wr) (fun _ kv _=>1-(intOf kv).toNat)
 case atStart=>exact ⟨0,none,0,by omega,rfl,rfl,OwnTn.nil _ _ _ _,Kai _ _⟩
 case round=>
  obtain ⟨k,A,c,hk,rfl,rfl,hO,hb⟩:=hrel
  have HO:=hid hO
  have HB:=hid hb
  have hE3:=HE.out _ hb
  have hS3:=HS2.out.next hb
  clear hO hb
  by_cases hlk:k<1
  ·have ht:([a0]:List Nat)[k]?=some (([a0]:List Nat)[k]'hlk):=Kad _
   obtain ⟨a,hax⟩:∃ d,d=([a0]:List Nat)[k]'hlk:=⟨_,rfl⟩
   rw [←hax] at ht
   have ha:a<ne:=HALL.out a (Kam ht)
   obtain ⟨b2,o2,rfl,hbl2,d0⟩:=(HR2.out.next HB.out).at_ (show (([(a0:Int)]:List Int).map VI)[k]?=some (VI (a:Int)) by
    rw [show (([(a0:Int)]:List Int):List Int)=([a0]:List Nat).map Int.ofNat from rfl,Kal,Kal,ht];rfl)
   unfold VI at d0
   obtain ⟨A1,c1,A2,c2,v0,v1,htn⟩:=HS2.out.val ha
   have v0':=(HB.out.cell (p:=⟨vg,a*2,none⟩) (HS2.out.lt _ (.inr (.inr (.inl rfl))))).trans v0
   have v1':=(HB.out.cell (p:=⟨vg,a*2+1,none⟩) (HS2.out.lt _ (.inr (.inr (.inl rfl))))).trans v1
   have k0:(0:Int)≤(k:Int):=by omega
   have k1:(k:Int)<((1:Nat):Int):=by omega
   have ba0:(0:Int)≤(a:Int):=by omega
   have ba1:(a:Int)<(ne:Int):=by omega
   have z2:=Kaa _ _ 2 _ _ _ hS3.hc
   have z3:=Kaa _ _ 3 _ _ _ hS3.hc
   have HTN:=hid htn
   have HAP:=hid (show (([a0]:List Nat).take (k+1)).map V=(([a0]:List Nat).take k).map V++[V a] from by
    rw [List.take_add_one,ht,List.map_append];rfl)
   clear ht hax v0 v1 htn hbl2 hE3 hS3
   go_wp2_with (at_builtin;(refine appTn rfl (.tmp 17) (.tmp 25) rfl w2.heap.size A c k ((([a0]:List Nat).take k).map V) rfl (HO.out.next ((Kai _ _).alloc (Kag _) _)) wr.heap.size rfl (.slice A1 (V a).sh.length c1,.slice A2 (V a).el.length c2) (V a) (Kac wr _) HTN.out (by omega) (by have:=HB.out.size;simp;omega) ?_);intro A5 c5 w5 o5 b5;have O5:=hid o5;have B5:=hid ((HB.out.alloc HB.out.size _).trans b5);clear o5 b5)
   exact ⟨⟨k+1,A5,c5,by omega,rfl,rfl,by rw [HAP.out];exact O5.out,B5.out⟩,by simp [intOf];omega⟩
  ·obtain rfl:k=1:=by omega
   have e0:=Kaa _ _ 0 _ _ _ hE3
   have e1:=Kaa _ _ 1 _ _ _ hE3
   have e2:=Kaa _ _ 2 _ _ _ hE3
   have e3:=Kaa _ _ 3 _ _ _ hE3
   have e4:=Kaa _ _ 4 _ _ _ hE3
   have HB9:=hid (HB2.out.trans (HB.out.mono (Nat.le_of_lt HLT.out)))
   obtain ⟨g0,p0,q0,r0,t0,hA0,x0a,x0b,ht0⟩:=HO.out.at_ (j:=0) (x:=V a0) rfl
   subst hA0
   simp only [Nat.reduceMul,Nat.reduceAdd] at x0a x0b
   have HT0:=hid ht0
   clear ht0
   have hg0:=World.block_lt_of_cell? wr _ x0b
   obtain ⟨n0,hn0⟩:∃ n,n=(V a0).el.length:=⟨_,rfl⟩
   rw [←hn0] at x0b
   have HN0:=hid hn0
   have HL0:=hid (show 1≤n0∧n0≤1000 from by have:=HZ0.out;rw [←hn0] at this;omega)
   clear hn0
   obtain ⟨q,hq⟩:∃ q,q=max n0 n0:=⟨_,rfl⟩
   have HQ:=hid hq
   have hwl:=(Kab.1 hE3).1
   have HEA:=hid (fun W (hW:Below w2.heap.size w2 W)=>Zcv (X:=evX cb g vg Z) 190 (fun a b=>reluW a) Znp (fun a b W=>ZkZ a b W) r0 r0 n0 n0 t0 t0 q (V a0).el (V a0).el W (fun k hk=>Kae (HXL.out k hk) (HB2.out.trans (hW.mono HB2.out.size)).size) HQ.out HN0.out HN0.out HL0.out.1 HL0.out.1 HL0.out.2 HL0.out.2 (show RdX (evX cb g vg Z) W r0 ((V a0).el.map U) from by obtain ⟨_,A9,c9,e9,_,_,r9⟩:=HT0.out;injection e9 with e9 _ _;subst e9;exact r9.keep (KeepX.of hW)) (show RdX (evX cb g vg Z) W r0 ((V a0).el.map U) from by obtain ⟨_,A9,c9,e9,_,_,r9⟩:=HT0.out;injection e9 with e9 _ _;subst e9;exact r9.keep (KeepX.of hW)))
   have S0:=hid (show wr.drew.cell? ⟨g0,1,none⟩=some (.slice r0 n0 t0)∧wr.drew.cell? ⟨w.heap.size,0,none⟩=some (.int .i64 10)∧wr.drew.cell? ⟨w.heap.size,1,none⟩=some (.string dn)∧wr.drew.cell? ⟨w.heap.size,2,none⟩=some (.int .u64 (du:Int))∧wr.drew.cell? ⟨w.heap.size,3,none⟩=some (.slice A' 1 c')∧wr.drew.cell? ⟨w.heap.size,4,none⟩=some (.int .i64 dp)∧g0<wr.drew.heap.size∧w.heap.size<wr.drew.heap.size∧Below wr.heap.size wr wr.drew from ⟨x0b,e0,e1,e2,e3,e4,hg0,hwl,(Kai _ _).drew⟩)
   clear x0a x0b hq e1 e2 e3 e4 hE3 hS3 hwl hg0
   go_wp2_with fail
   go_region_held3 (fun w'=>w'.cell? ⟨g0,1,none⟩=some (.slice r0 n0 t0)∧w'.cell? ⟨w.heap.size,0,none⟩=some (.int .i64 10)∧w'.cell? ⟨w.heap.size,1,none⟩=some (.string dn)∧w'.cell? ⟨w.heap.size,2,none⟩=some (.int .u64 (du:Int))∧w'.cell? ⟨w.heap.size,3,none⟩=some (.slice A' 1 c')∧w'.cell? ⟨w.heap.size,4,none⟩=some (.int .i64 dp)∧g0<w'.heap.size∧w.heap.size<w'.heap.size∧Below wr.heap.size wr w') (first | with_reducible exact S0.out | assumption | exact ZiR (by assumption) (by assumption))
    (first
     | (go_at_call 161;refine (Znq dn du _ dp _).mono ?_;rintro e w4 ⟨rfl,b4⟩)
     | (go_at_call 156;refine (HEA.out _ ?_).mono ?_;(refine bnext HB.out ?_;apply last9;assumption);rintro e w6 ⟨gg,rfl,k6,b6⟩))
   all_goals
    go_wp2
    go_ret
    refine ⟨bnext HB9.out ?_,_,rfl,k6⟩
    apply last9
    assumption
theorem ZkF (B cb g vg:Nat) (Z:List Nat) (SA EA HA:Option Addr) (ns sc ne ec:Nat) (names:Zah) (V:Nat→TN) (shF:List (List Int)) (dn:ByteArray) (du:Nat) (dp:Int) (a0:Nat) (A':Option Addr) (c':Nat) (w:World)
  (hS:EvSt w B cb g vg Z SA EA HA ns sc ne ec names V shF) (hr:Rd w w.heap.size A' (([(a0:Int)]:List Int).map VI)) (ha0:a0<ne) (hz0:1≤(V a0).el.length∧(V a0).el.length≤32):
  Calls Tryz.prog 98 #[.pointer (some ⟨cb,0,none⟩),.agg #[.int .i64 11,.string dn,.int .u64 (du:Int),.slice A' 1 c',.int .i64 dp]] w (ExOut (evX cb g vg Z) w ([sumW (V a0).el])):=by
 obtain ⟨w2,hw2⟩:∃ w2,w2=w.alloc (.cells #[.int .i64 11,.string dn,.int .u64 (du:Int),.slice A' 1 c',.int .i64 dp] 90):=⟨_,rfl⟩
 have hb2:Below w.heap.size w w2:=by rw [hw2];exact (Kai _ _).alloc (Kag _) _
 have hE:w2.heap[w.heap.size]?=some (.cells #[.int .i64 11,.string dn,.int .u64 (du:Int),.slice A' 1 c',.int .i64 dp] 90 (0,0)):=by rw [hw2];exact Kac w _
 have HW2:=hid hw2
 have HB2:=hid hb2
 have HS2:=hid (hS.next hb2)
 have HXL:=hid hS.lt
 have HR2:=hid (hr.next hb2)
 have e3:=Kaa _ _ 3 _ _ _ hE
 have HE:=hid (fun W (hW:Below w2.heap.size w2 W)=>(hW.block w.heap.size (Kab.1 hE).1).trans hE)
 have hlt2:w.heap.size<w2.heap.size:=(Kab.1 hE).1
 have HLT:=hid hlt2
 have HALL:=hid (show ∀ a∈([a0]:List Nat),a<ne from by simp;omega)
 have HZ0:=hid hz0
 clear hw2 hb2 hE hS hr hlt2
 go_enter Tryz.func98,Tryz.ntmps98
 go_wp2_with fail
 rw [←HW2.out]
 go_wp2_with fail
 clear e3
 go_loopw [5,13] (fun xv kv wr=>∃ (k:Nat) (A:Option Addr) (c:Nat),k≤1∧kv=.int .i64 k∧xv=.slice A k c∧OwnTn (evX cb g vg Z) w2 wr w2.heap.size A k c ((([a0]:List Nat).take k).map V)∧Below w2.heap.size w2 wr) (fun _ kv _=>1-(intOf kv).toNat)
 case atStart=>exact ⟨0,none,0,by omega,rfl,rfl,OwnTn.nil _ _ _ _,Kai _ _⟩
 case round=>
  obtain ⟨k,A,c,hk,rfl,rfl,hO,hb⟩:=hrel
  have HO:=hid hO
  have HB:=hid hb
  have hE3:=HE.out _ hb
  have hS3:=HS2.out.next hb
  clear hO hb
  by_cases hlk:k<1
  ·have ht:([a0]:List Nat)[k]?=some (([a0]:List Nat)[k]'hlk):=Kad _
   obtain ⟨a,hax⟩:∃ d,d=([a0]:List Nat)[k]'hlk:=⟨_,rfl⟩
   rw [←hax] at ht
   have ha:a<ne:=HALL.out a (Kam ht)
   obtain ⟨b2,o2,rfl,hbl2,d0⟩:=(HR2.out.next HB.out).at_ (show (([(a0:Int)]:List Int).map VI)[k]?=some (VI (a:Int)) by
    rw [show (([(a0:Int)]:List Int):List Int)=([a0]:List Nat).map Int.ofNat from rfl,Kal,Kal,ht];rfl)
   unfold VI at d0
   obtain ⟨A1,c1,A2,c2,v0,v1,htn⟩:=HS2.out.val ha
   have v0':=(HB.out.cell (p:=⟨vg,a*2,none⟩) (HS2.out.lt _ (.inr (.inr (.inl rfl))))).trans v0
   have v1':=(HB.out.cell (p:=⟨vg,a*2+1,none⟩) (HS2.out.lt _ (.inr (.inr (.inl rfl))))).trans v1
   have k0:(0:Int)≤(k:Int):=by omega
   have k1:(k:Int)<((1:Nat):Int):=by omega
   have ba0:(0:Int)≤(a:Int):=by omega
   have ba1:(a:Int)<(ne:Int):=by omega
   have z2:=Kaa _ _ 2 _ _ _ hS3.hc
   have z3:=Kaa _ _ 3 _ _ _ hS3.hc
   have HTN:=hid htn
   have HAP:=hid (show (([a0]:List Nat).take (k+1)).map V=(([a0]:List Nat).take k).map V++[V a] from by
    rw [List.take_add_one,ht,List.map_append];rfl)
   clear ht hax v0 v1 htn hbl2 hE3 hS3
   go_wp2_with (at_builtin;(refine appTn rfl (.tmp 17) (.tmp 25) rfl w2.heap.size A c k ((([a0]:List Nat).take k).map V) rfl (HO.out.next ((Kai _ _).alloc (Kag _) _)) wr.heap.size rfl (.slice A1 (V a).sh.length c1,.slice A2 (V a).el.length c2) (V a) (Kac wr _) HTN.out (by omega) (by have:=HB.out.size;simp;omega) ?_);intro A5 c5 w5 o5 b5;have O5:=hid o5;have B5:=hid ((HB.out.alloc HB.out.size _).trans b5);clear o5 b5)
   exact ⟨⟨k+1,A5,c5,by omega,rfl,rfl,by rw [HAP.out];exact O5.out,B5.out⟩,by simp [intOf];omega⟩
  ·obtain rfl:k=1:=by omega
   have e0:=Kaa _ _ 0 _ _ _ hE3
   have e1:=Kaa _ _ 1 _ _ _ hE3
   have e2:=Kaa _ _ 2 _ _ _ hE3
   have e3:=Kaa _ _ 3 _ _ _ hE3
   have e4:=Kaa _ _ 4 _ _ _ hE3
   have HB9:=hid (HB2.out.trans (HB.out.mono (Nat.le_of_lt HLT.out)))
   obtain ⟨g0,p0,q0,r0,t0,hA0,x0a,x0b,ht0⟩:=HO.out.at_ (j:=0) (x:=V a0) rfl
   subst hA0
   simp only [Nat.reduceMul,Nat.reduceAdd] at x0a x0b
   have HT0:=hid ht0
   clear ht0
   have hg0:=World.block_lt_of_cell? wr _ x0b
   obtain ⟨n0,hn0⟩:∃ n,n=(V a0).el.length:=⟨_,rfl⟩
   rw [←hn0] at x0b
   have HN0:=hid hn0
   have HL0:=hid (show 1≤n0∧n0≤1000 from by have:=HZ0.out;rw [←hn0] at this;omega)
   clear hn0
   have HSU:=hid (show Calls Tryz.prog 154 #[.slice r0 n0 t0] wr fun e w'=>e=.returned (U (sumW (V a0).el))∧wr=w' from by
    have h:=Zm1 r0 t0 (V a0).el wr.heap.size wr (by have:=HZ0.out;omega) ((HT0.out.2.rdx.1.keep (KeepX.of HB.out)).rd)
    rwa [←HN0.out] at h)
   have n00:((0:Int))<((1:Nat):Int):=by omega
   clear x0a e1 e2 e3 e4 hE3 hS3 hg0
   go_wp2_with (go_at_call 154;refine HSU.out.mono ?_;rintro e w6 ⟨rfl,rfl⟩)
   go_ret
   exact ⟨HB9.out.alloc (Kah HB2.out.size HB.out.size) _,_,rfl,Zgo HXL.out (Kah HB2.out.size HB.out.size)⟩
theorem ZkG (B cb g vg:Nat) (Z:List Nat) (SA EA HA:Option Addr) (ns sc ne ec:Nat) (names:Zah) (V:Nat→TN) (shF:List (List Int)) (dn:ByteArray) (du:Nat) (dp:Int) (a0:Nat) (A':Option Addr) (c':Nat) (w:World)
  (hS:EvSt w B cb g vg Z SA EA HA ns sc ne ec names V shF) (hr:Rd w w.heap.size A' (([(a0:Int)]:List Int).map VI)) (ha0:a0<ne) (hz0:1≤(V a0).el.length∧(V a0).el.length≤32):
  Calls Tryz.prog 98 #[.pointer (some ⟨cb,0,none⟩),.agg #[.int .i64 12,.string dn,.int .u64 (du:Int),.slice A' 1 c',.int .i64 dp]] w (ExOut (evX cb g vg Z) w ([UInt64.ofNat (argP (V a0).el)])):=by
 obtain ⟨w2,hw2⟩:∃ w2,w2=w.alloc (.cells #[.int .i64 12,.string dn,.int .u64 (du:Int),.slice A' 1 c',.int .i64 dp] 90):=⟨_,rfl⟩
 have hb2:Below w.heap.size w w2:=by rw [hw2];exact (Kai _ _).alloc (Kag _) _
 have hE:w2.heap[w.heap.size]?=some (.cells #[.int .i64 12,.string dn,.int .u64 (du:Int),.slice A' 1 c',.int .i64 dp] 90 (0,0)):=by rw [hw2];exact Kac w _
 have HW2:=hid hw2
 have HB2:=hid hb2
 have HS2:=hid (hS.next hb2)
 have HXL:=hid hS.lt
 have HR2:=hid (hr.next hb2)
 have e3:=Kaa _ _ 3 _ _ _ hE
 have HE:=hid (fun W (hW:Below w2.heap.size w2 W)=>(hW.block w.heap.size (Kab.1 hE).1).trans hE)
 have hlt2:w.heap.size<w2.heap.size:=(Kab.1 hE).1
 have HLT:=hid hlt2
 have HALL:=hid (show ∀ a∈([a0]:List Nat),a<ne from by simp;omega)
 have HZ0:=hid hz0
 clear hw2 hb2 hE hS hr hlt2
 go_enter Tryz.func98,Tryz.ntmps98
 go_wp2_with fail
 rw [←HW2.out]
 go_wp2_with fail
 clear e3
 go_loopw [5,13] (fun xv kv wr=>∃ (k:Nat) (A:Option Addr) (c:Nat),k≤1∧kv=.int .i64 k∧xv=.slice A k c∧OwnTn (evX cb g vg Z) w2 wr w2.heap.size A k c ((([a0]:List Nat).take k).map V)∧Below w2.heap.size w2 wr) (fun _ kv _=>1-(intOf kv).toNat)
 case atStart=>exact ⟨0,none,0,by omega,rfl,rfl,OwnTn.nil _ _ _ _,Kai _ _⟩
 case round=>
  obtain ⟨k,A,c,hk,rfl,rfl,hO,hb⟩:=hrel
  have HO:=hid hO
  have HB:=hid hb
  have hE3:=HE.out _ hb
  have hS3:=HS2.out.next hb
  clear hO hb
  by_cases hlk:k<1
  ·have ht:([a0]:List Nat)[k]?=some (([a0]:List Nat)[k]'hlk):=Kad _
   obtain ⟨a,hax⟩:∃ d,d=([a0]:List Nat)[k]'hlk:=⟨_,rfl⟩
   rw [←hax] at ht
   have ha:a<ne:=HALL.out a (Kam ht)
   obtain ⟨b2,o2,rfl,hbl2,d0⟩:=(HR2.out.next HB.out).at_ (show (([(a0:Int)]:List Int).map VI)[k]?=some (VI (a:Int)) by
    rw [show (([(a0:Int)]:List Int):List Int)=([a0]:List Nat).map Int.ofNat from rfl,Kal,Kal,ht];rfl)
   unfold VI at d0
   obtain ⟨A1,c1,A2,c2,v0,v1,htn⟩:=HS2.out.val ha
   have v0':=(HB.out.cell (p:=⟨vg,a*2,none⟩) (HS2.out.lt _ (.inr (.inr (.inl rfl))))).trans v0
   have v1':=(HB.out.cell (p:=⟨vg,a*2+1,none⟩) (HS2.out.lt _ (.inr (.inr (.inl rfl))))).trans v1
   have k0:(0:Int)≤(k:Int):=by omega
   have k1:(k:Int)<((1:Nat):Int):=by omega
   have ba0:(0:Int)≤(a:Int):=by omega
   have ba1:(a:Int)<(ne:Int):=by omega
   have z2:=Kaa _ _ 2 _ _ _ hS3.hc
   have z3:=Kaa _ _ 3 _ _ _ hS3.hc
   have HTN:=hid htn
   have HAP:=hid (show (([a0]:List Nat).take (k+1)).map V=(([a0]:List Nat).take k).map V++[V a] from by
    rw [List.take_add_one,ht,List.map_append];rfl)
   clear ht hax v0 v1 htn hbl2 hE3 hS3
   go_wp2_with (at_builtin;(refine appTn rfl (.tmp 17) (.tmp 25) rfl w2.heap.size A c k ((([a0]:List Nat).take k).map V) rfl (HO.out.next ((Kai _ _).alloc (Kag _) _)) wr.heap.size rfl (.slice A1 (V a).sh.length c1,.slice A2 (V a).el.length c2) (V a) (Kac wr _) HTN.out (by omega) (by have:=HB.out.size;simp;omega) ?_);intro A5 c5 w5 o5 b5;have O5:=hid o5;have B5:=hid ((HB.out.alloc HB.out.size _).trans b5);clear o5 b5)
   exact ⟨⟨k+1,A5,c5,by omega,rfl,rfl,by rw [HAP.out];exact O5.out,B5.out⟩,by simp [intOf];omega⟩
  ·obtain rfl:k=1:=by omega
   have e0:=Kaa _ _ 0 _ _ _ hE3
   have e1:=Kaa _ _ 1 _ _ _ hE3
   have e2:=Kaa _ _ 2 _ _ _ hE3
   have e3:=Kaa _ _ 3 _ _ _ hE3
   have e4:=Kaa _ _ 4 _ _ _ hE3
   have HB9:=hid (HB2.out.trans (HB.out.mono (Nat.le_of_lt HLT.out)))
   obtain ⟨g0,p0,q0,r0,t0,hA0,x0a,x0b,ht0⟩:=HO.out.at_ (j:=0) (x:=V a0) rfl
   subst hA0
   simp only [Nat.reduceMul,Nat.reduceAdd] at x0a x0b
   have HT0:=hid ht0
   clear ht0
   have hg0:=World.block_lt_of_cell? wr _ x0b
   obtain ⟨n0,hn0⟩:∃ n,n=(V a0).el.length:=⟨_,rfl⟩
   rw [←hn0] at x0b
   have HN0:=hid hn0
   have HL0:=hid (show 1≤n0∧n0≤1000 from by have:=HZ0.out;rw [←hn0] at this;omega)
   clear hn0
   have HSU:=hid (Zh9 r0 n0 t0 (V a0).el wr HN0.out HL0.out.1 HL0.out.2 ((HT0.out.2.rdx.1.keep (KeepX.of HB.out)).rd))
   have n00:((0:Int))<((1:Nat):Int):=by omega
   clear x0a e1 e2 e3 e4 hE3 hS3 hg0
   go_wp2_with (go_at_call 155;refine HSU.out.mono ?_;rintro e w6 ⟨rfl,q,rfl⟩)
   go_ret
   exact ⟨(Zaa HB9.out q).alloc (Kah HB2.out.size HB.out.size) _,_,rfl,Zgo (W:=wr.drewN q) HXL.out (Kah HB2.out.size HB.out.size)⟩
theorem ZkH (B cb g vg:Nat) (Z:List Nat) (SA EA HA:Option Addr) (ns sc ne ec:Nat) (names:Zah) (V:Nat→TN) (shF:List (List Int)) (dn:ByteArray) (du:Nat) (dp:Int) (a0 a1:Nat) (A':Option Addr) (c':Nat) (w:World)
  (hS:EvSt w B cb g vg Z SA EA HA ns sc ne ec names V shF) (hr:Rd w w.heap.size A' (([(a0:Int),(a1:Int)]:List Int).map VI)) (ha0:a0<ne) (ha1:a1<ne) (hz0:1≤(V a0).el.length∧(V a0).el.length≤32) (hz1:1≤(V a1).el.length∧(V a1).el.length≤32):
  Calls Tryz.prog 98 #[.pointer (some ⟨cb,0,none⟩),.agg #[.int .i64 13,.string dn,.int .u64 (du:Int),.slice A' 2 c',.int .i64 dp]] w (ExOut (evX cb g vg Z) w (eachP (fun a b=>maxW a b) (V a0).el (V a1).el)):=by
 obtain ⟨w2,hw2⟩:∃ w2,w2=w.alloc (.cells #[.int .i64 13,.string dn,.int .u64 (du:Int),.slice A' 2 c',.int .i64 dp] 90):=⟨_,rfl⟩
 have hb2:Below w.heap.size w w2:=by rw [hw2];exact (Kai _ _).alloc (Kag _) _
 have hE:w2.heap[w.heap.size]?=some (.cells #[.int .i64 13,.string dn,.int .u64 (du:Int),.slice A' 2 c',.int .i64 dp] 90 (0,0)):=by rw [hw2];exact Kac w _
 have HW2:=hid hw2
 have HB2:=hid hb2
 have HS2:=hid (hS.next hb2)
 have HXL:=hid hS.lt
 have HR2:=hid (hr.next hb2)
 have e3:=Kaa _ _ 3 _ _ _ hE
 have HE:=hid (fun W (hW:Below w2.heap.size w2 W)=>(hW.block w.heap.size (Kab.1 hE).1).trans hE)
 have hlt2:w.heap.size<w2.heap.size:=(Kab.1 hE).1
 have HLT:=hid hlt2
 have HALL:=hid (show ∀ a∈([a0,a1]:List Nat),a<ne from by simp;omega)
 have HZ0:=hid hz0
 have HZ1:=hid hz1
 clear hw2 hb2 hE hS hr hlt2
 go_enter Tryz.func98,Tryz.ntmps98
 go_wp2_with fail
 rw [←HW2.out]
 go_wp2_with fail
 clear e3
 go_loopw [5,13] (fun xv kv wr=>∃ (k:Nat) (A:Option Addr) (c:Nat),k≤2∧kv=.int .i64 k∧xv=.slice A k c∧OwnTn (evX cb g vg Z) w2 wr w2.heap.size A k c ((([a0,a1]:List Nat).take k).map V)∧Below w2.heap.size w2 wr) (fun _ kv _=>2-(intOf kv).toNat)
 case atStart=>exact ⟨0,none,0,by omega,rfl,rfl,OwnTn.nil _ _ _ _,Kai _ _⟩
 case round=>
  obtain ⟨k,A,c,hk,rfl,rfl,hO,hb⟩:=hrel
  have HO:=hid hO
  have HB:=hid hb
  have hE3:=HE.out _ hb
  have hS3:=HS2.out.next hb
  clear hO hb
  by_cases hlk:k<2
  ·have ht:([a0,a1]:List Nat)[k]?=some (([a0,a1]:List Nat)[k]'hlk):=Kad _
   obtain ⟨a,hax⟩:∃ d,d=([a0,a1]:List Nat)[k]'hlk:=⟨_,rfl⟩
   rw [←hax] at ht
   have ha:a<ne:=HALL.out a (Kam ht)
   obtain ⟨b2,o2,rfl,hbl2,d0⟩:=(HR2.out.next HB.out).at_ (show (([(a0:Int),(a1:Int)]:List Int).map VI)[k]?=some (VI (a:Int)) by
    rw [show (([(a0:Int),(a1:Int)]:List Int):List Int)=([a0,a1]:List Nat).map Int.ofNat from rfl,Kal,Kal,ht];rfl)
   unfold VI at d0
   obtain ⟨A1,c1,A2,c2,v0,v1,htn⟩:=HS2.out.val ha
   have v0':=(HB.out.cell (p:=⟨vg,a*2,none⟩) (HS2.out.lt _ (.inr (.inr (.inl rfl))))).trans v0
   have v1':=(HB.out.cell (p:=⟨vg,a*2+1,none⟩) (HS2.out.lt _ (.inr (.inr (.inl rfl))))).trans v1
   have k0:(0:Int)≤(k:Int):=by omega
   have k1:(k:Int)<((2:Nat):Int):=by omega
   have ba0:(0:Int)≤(a:Int):=by omega
   have ba1:(a:Int)<(ne:Int):=by omega
   have z2:=Kaa _ _ 2 _ _ _ hS3.hc
   have z3:=Kaa _ _ 3 _ _ _ hS3.hc
   have HTN:=hid htn
   have HAP:=hid (show (([a0,a1]:List Nat).take (k+1)).map V=(([a0,a1]:List Nat).take k).map V++[V a] from by
    rw [List.take_add_one,ht,List.map_append];rfl)
   clear ht hax v0 v1 htn hbl2 hE3 hS3
   go_wp2_with (at_builtin;(refine appTn rfl (.tmp 17) (.tmp 25) rfl w2.heap.size A c k ((([a0,a1]:List Nat).take k).map V) rfl (HO.out.next ((Kai _ _).alloc (Kag _) _)) wr.heap.size rfl (.slice A1 (V a).sh.length c1,.slice A2 (V a).el.length c2) (V a) (Kac wr _) HTN.out (by omega) (by have:=HB.out.size;simp;omega) ?_);intro A5 c5 w5 o5 b5;have O5:=hid o5;have B5:=hid ((HB.out.alloc HB.out.size _).trans b5);clear o5 b5)
   exact ⟨⟨k+1,A5,c5,by omega,rfl,rfl,by rw [HAP.out];exact O5.out,B5.out⟩,by simp [intOf];omega⟩
  ·obtain rfl:k=2:=by omega
   have e0:=Kaa _ _ 0 _ _ _ hE3
   have e1:=Kaa _ _ 1 _ _ _ hE3
   have e2:=Kaa _ _ 2 _ _ _ hE3
   have e3:=Kaa _ _ 3 _ _ _ hE3
   have e4:=Kaa _ _ 4 _ _ _ hE3
   have HB9:=hid (HB2.out.trans (HB.out.mono (Nat.le_of_lt HLT.out)))
   obtain ⟨g0,p0,q0,r0,t0,hA0,x0a,x0b,ht0⟩:=HO.out.at_ (j:=0) (x:=V a0) rfl
   subst hA0
   obtain ⟨g1,p1,q1,r1,t1,hA1,x1a,x1b,ht1⟩:=HO.out.at_ (j:=1) (x:=V a1) rfl
   injection hA1 with hA1
   injection hA1 with hA1 _ _
   subst hA1
   simp only [Nat.reduceMul,Nat.reduceAdd] at x0a x0b
   simp only [Nat.reduceMul,Nat.reduceAdd] at x1a x1b
   have HT0:=hid ht0
   clear ht0
   have HT1:=hid ht1
   clear ht1
   have hg0:=World.block_lt_of_cell? wr _ x0b
   obtain ⟨n0,hn0⟩:∃ n,n=(V a0).el.length:=⟨_,rfl⟩
   rw [←hn0] at x0b
   have HN0:=hid hn0
   have HL0:=hid (show 1≤n0∧n0≤1000 from by have:=HZ0.out;rw [←hn0] at this;omega)
   clear hn0
   obtain ⟨n1,hn1⟩:∃ n,n=(V a1).el.length:=⟨_,rfl⟩
   rw [←hn1] at x1b
   have HN1:=hid hn1
   have HL1:=hid (show 1≤n1∧n1≤1000 from by have:=HZ1.out;rw [←hn1] at this;omega)
   clear hn1
   obtain ⟨q,hq⟩:∃ q,q=max n0 n1:=⟨_,rfl⟩
   have HQ:=hid hq
   have hwl:=(Kab.1 hE3).1
   have HEA:=hid (fun W (hW:Below w2.heap.size w2 W)=>Zcv (X:=evX cb g vg Z) 191 (fun a b=>maxW a b) Znr (fun a b W=>Zla a b W) r0 r1 n0 n1 t0 t1 q (V a0).el (V a1).el W (fun k hk=>Kae (HXL.out k hk) (HB2.out.trans (hW.mono HB2.out.size)).size) HQ.out HN0.out HN1.out HL0.out.1 HL1.out.1 HL0.out.2 HL1.out.2 (show RdX (evX cb g vg Z) W r0 ((V a0).el.map U) from by obtain ⟨_,A9,c9,e9,_,_,r9⟩:=HT0.out;injection e9 with e9 _ _;subst e9;exact r9.keep (KeepX.of hW)) (show RdX (evX cb g vg Z) W r1 ((V a1).el.map U) from by obtain ⟨_,A9,c9,e9,_,_,r9⟩:=HT1.out;injection e9 with e9 _ _;subst e9;exact r9.keep (KeepX.of hW)))
   have S0:=hid (show wr.drew.cell? ⟨g0,1,none⟩=some (.slice r0 n0 t0)∧wr.drew.cell? ⟨g0,3,none⟩=some (.slice r1 n1 t1)∧wr.drew.cell? ⟨w.heap.size,0,none⟩=some (.int .i64 13)∧wr.drew.cell? ⟨w.heap.size,1,none⟩=some (.string dn)∧wr.drew.cell? ⟨w.heap.size,2,none⟩=some (.int .u64 (du:Int))∧wr.drew.cell? ⟨w.heap.size,3,none⟩=some (.slice A' 2 c')∧wr.drew.cell? ⟨w.heap.size,4,none⟩=some (.int .i64 dp)∧g0<wr.drew.heap.size∧w.heap.size<wr.drew.heap.size∧Below wr.heap.size wr wr.drew from ⟨x0b,x1b,e0,e1,e2,e3,e4,hg0,hwl,(Kai _ _).drew⟩)
   clear x0a x0b x1a x1b hq e1 e2 e3 e4 hE3 hS3 hwl hg0
   go_wp2_with fail
   go_region_held3 (fun w'=>w'.cell? ⟨g0,1,none⟩=some (.slice r0 n0 t0)∧w'.cell? ⟨g0,3,none⟩=some (.slice r1 n1 t1)∧w'.cell? ⟨w.heap.size,0,none⟩=some (.int .i64 13)∧w'.cell? ⟨w.heap.size,1,none⟩=some (.string dn)∧w'.cell? ⟨w.heap.size,2,none⟩=some (.int .u64 (du:Int))∧w'.cell? ⟨w.heap.size,3,none⟩=some (.slice A' 2 c')∧w'.cell? ⟨w.heap.size,4,none⟩=some (.int .i64 dp)∧g0<w'.heap.size∧w.heap.size<w'.heap.size∧Below wr.heap.size wr w') (first | with_reducible exact S0.out | assumption | exact ZfA (by assumption) (by assumption))
    (first
     | (go_at_call 161;refine (Zns dn du _ dp _).mono ?_;rintro e w4 ⟨rfl,b4⟩)
     | (go_at_call 156;refine (HEA.out _ ?_).mono ?_;(refine bnext HB.out ?_;apply Zcw;assumption);rintro e w6 ⟨gg,rfl,k6,b6⟩))
   all_goals
    go_wp2
    go_ret
    refine ⟨bnext HB9.out ?_,_,rfl,k6⟩
    apply Zcw
    assumption
theorem ZkI (B cb g vg:Nat) (Z:List Nat) (SA EA HA:Option Addr) (ns sc ne ec:Nat) (names:Zah) (V:Nat→TN) (shF:List (List Int)) (dn:ByteArray) (du:Nat) (dp:Int) (a0 a1 a2:Nat) (A':Option Addr) (c':Nat) (w:World)
  (hS:EvSt w B cb g vg Z SA EA HA ns sc ne ec names V shF) (hr:Rd w w.heap.size A' (([(a0:Int),(a1:Int),(a2:Int)]:List Int).map VI)) (ha0:a0<ne) (ha1:a1<ne) (ha2:a2<ne) (hz0:1≤(V a0).el.length∧(V a0).el.length≤32) (hz1:1≤(V a1).el.length∧(V a1).el.length≤32) (hz2:1≤(V a2).el.length∧(V a2).el.length≤32):
  Calls Tryz.prog 98 #[.pointer (some ⟨cb,0,none⟩),.agg #[.int .i64 14,.string dn,.int .u64 (du:Int),.slice A' 3 c',.int .i64 dp]] w (ExOut (evX cb g vg Z) w (eachP (fun a b=>xorW a b) (V a2).el (eachP (fun a b=>andW (negW (andW a 1)) b) (V a0).el (eachP (fun a b=>xorW a b) (V a1).el (V a2).el)))):=by
 obtain ⟨w2,hw2⟩:∃ w2,w2=w.alloc (.cells #[.int .i64 14,.string dn,.int .u64 (du:Int),.slice A' 3 c',.int .i64 dp] 90):=⟨_,rfl⟩
 have hb2:Below w.heap.size w w2:=by rw [hw2];exact (Kai _ _).alloc (Kag _) _
 have hE:w2.heap[w.heap.size]?=some (.cells #[.int .i64 14,.string dn,.int .u64 (du:Int),.slice A' 3 c',.int .i64 dp] 90 (0,0)):=by rw [hw2];exact Kac w _
 have HW2:=hid hw2
 have HB2:=hid hb2
 have HS2:=hid (hS.next hb2)
 have HXL:=hid hS.lt
 have HR2:=hid (hr.next hb2)
 have e3:=Kaa _ _ 3 _ _ _ hE
 have HE:=hid (fun W (hW:Below w2.heap.size w2 W)=>(hW.block w.heap.size (Kab.1 hE).1).trans hE)
 have hlt2:w.heap.size<w2.heap.size:=(Kab.1 hE).1
 have HLT:=hid hlt2
 have HALL:=hid (show ∀ a∈([a0,a1,a2]:List Nat),a<ne from by simp;omega)
 have HZ0:=hid hz0
 have HZ1:=hid hz1
 have HZ2:=hid hz2
 clear hw2 hb2 hE hS hr hlt2
 go_enter Tryz.func98,Tryz.ntmps98
 go_wp2_with fail
 rw [←HW2.out]
 go_wp2_with fail
 clear e3
 go_loopw [5,13] (fun xv kv wr=>∃ (k:Nat) (A:Option Addr) (c:Nat),k≤3∧kv=.int .i64 k∧xv=.slice A k c∧OwnTn (evX cb g vg Z) w2 wr w2.heap.size A k c ((([a0,a1,a2]:List Nat).take k).map V)∧Below w2.heap.size w2 wr) (fun _ kv _=>3-(intOf kv).toNat)
 case atStart=>exact ⟨0,none,0,by omega,rfl,rfl,OwnTn.nil _ _ _ _,Kai _ _⟩
 case round=>
  obtain ⟨k,A,c,hk,rfl,rfl,hO,hb⟩:=hrel
  have HO:=hid hO
  have HB:=hid hb
  have hE3:=HE.out _ hb
  have hS3:=HS2.out.next hb
  clear hO hb
  by_cases hlk:k<3
  ·have ht:([a0,a1,a2]:List Nat)[k]?=some (([a0,a1,a2]:List Nat)[k]'hlk):=Kad _
   obtain ⟨a,hax⟩:∃ d,d=([a0,a1,a2]:List Nat)[k]'hlk:=⟨_,rfl⟩
   rw [←hax] at ht
   have ha:a<ne:=HALL.out a (Kam ht)
   obtain ⟨b2,o2,rfl,hbl2,d0⟩:=(HR2.out.next HB.out).at_ (show (([(a0:Int),(a1:Int),(a2:Int)]:List Int).map VI)[k]?=some (VI (a:Int)) by
    rw [show (([(a0:Int),(a1:Int),(a2:Int)]:List Int):List Int)=([a0,a1,a2]:List Nat).map Int.ofNat from rfl,Kal,Kal,ht];rfl)
   unfold VI at d0
   obtain ⟨A1,c1,A2,c2,v0,v1,htn⟩:=HS2.out.val ha
   have v0':=(HB.out.cell (p:=⟨vg,a*2,none⟩) (HS2.out.lt _ (.inr (.inr (.inl rfl))))).trans v0
   have v1':=(HB.out.cell (p:=⟨vg,a*2+1,none⟩) (HS2.out.lt _ (.inr (.inr (.inl rfl))))).trans v1
   have k0:(0:Int)≤(k:Int):=by omega
   have k1:(k:Int)<((3:Nat):Int):=by omega
   have ba0:(0:Int)≤(a:Int):=by omega
   have ba1:(a:Int)<(ne:Int):=by omega
   have z2:=Kaa _ _ 2 _ _ _ hS3.hc
   have z3:=Kaa _ _ 3 _ _ _ hS3.hc
   have HTN:=hid htn
   have HAP:=hid (show (([a0,a1,a2]:List Nat).take (k+1)).map V=(([a0,a1,a2]:List Nat).take k).map V++[V a] from by
    rw [List.take_add_one,ht,List.map_append];rfl)
   clear ht hax v0 v1 htn hbl2 hE3 hS3
   go_wp2_with (at_builtin;(refine appTn rfl (.tmp 17) (.tmp 25) rfl w2.heap.size A c k ((([a0,a1,a2]:List Nat).take k).map V) rfl (HO.out.next ((Kai _ _).alloc (Kag _) _)) wr.heap.size rfl (.slice A1 (V a).sh.length c1,.slice A2 (V a).el.length c2) (V a) (Kac wr _) HTN.out (by omega) (by have:=HB.out.size;simp;omega) ?_);intro A5 c5 w5 o5 b5;have O5:=hid o5;have B5:=hid ((HB.out.alloc HB.out.size _).trans b5);clear o5 b5)
   exact ⟨⟨k+1,A5,c5,by omega,rfl,rfl,by rw [HAP.out];exact O5.out,B5.out⟩,by simp [intOf];omega⟩
  ·obtain rfl:k=3:=by omega
   have e0:=Kaa _ _ 0 _ _ _ hE3
   have e1:=Kaa _ _ 1 _ _ _ hE3
   have e2:=Kaa _ _ 2 _ _ _ hE3
   have e3:=Kaa _ _ 3 _ _ _ hE3
   have e4:=Kaa _ _ 4 _ _ _ hE3
   have HB9:=hid (HB2.out.trans (HB.out.mono (Nat.le_of_lt HLT.out)))
   obtain ⟨g0,p0,q0,r0,t0,hA0,x0a,x0b,ht0⟩:=HO.out.at_ (j:=0) (x:=V a0) rfl
   subst hA0
   obtain ⟨g1,p1,q1,r1,t1,hA1,x1a,x1b,ht1⟩:=HO.out.at_ (j:=1) (x:=V a1) rfl
   injection hA1 with hA1
   injection hA1 with hA1 _ _
   subst hA1
   obtain ⟨g2,p2,q2,r2,t2,hA2,x2a,x2b,ht2⟩:=HO.out.at_ (j:=2) (x:=V a2) rfl
   injection hA2 with hA2
   injection hA2 with hA2 _ _
   subst hA2
   simp only [Nat.reduceMul,Nat.reduceAdd] at x0a x0b
   simp only [Nat.reduceMul,Nat.reduceAdd] at x1a x1b
   simp only [Nat.reduceMul,Nat.reduceAdd] at x2a x2b
   have HT0:=hid ht0
   clear ht0
   have HT1:=hid ht1
   clear ht1
   have HT2:=hid ht2
   clear ht2
   have hg0:=World.block_lt_of_cell? wr _ x0b
   obtain ⟨n0,hn0⟩:∃ n,n=(V a0).el.length:=⟨_,rfl⟩
   rw [←hn0] at x0b
   have HN0:=hid hn0
   have HL0:=hid (show 1≤n0∧n0≤1000 from by have:=HZ0.out;rw [←hn0] at this;omega)
   clear hn0
   obtain ⟨n1,hn1⟩:∃ n,n=(V a1).el.length:=⟨_,rfl⟩
   rw [←hn1] at x1b
   have HN1:=hid hn1
   have HL1:=hid (show 1≤n1∧n1≤1000 from by have:=HZ1.out;rw [←hn1] at this;omega)
   clear hn1
   obtain ⟨n2,hn2⟩:∃ n,n=(V a2).el.length:=⟨_,rfl⟩
   rw [←hn2] at x2b
   have HN2:=hid hn2
   have HL2:=hid (show 1≤n2∧n2≤1000 from by have:=HZ2.out;rw [←hn2] at this;omega)
   clear hn2
   obtain ⟨q1,hq1⟩:∃ q,q=max n1 n2:=⟨_,rfl⟩
   obtain ⟨q2,hq2⟩:∃ q,q=max n0 q1:=⟨_,rfl⟩
   obtain ⟨q3,hq3⟩:∃ q,q=max n2 q2:=⟨_,rfl⟩
   have HQ1:=hid hq1
   have HQ2:=hid hq2
   have HQ3:=hid hq3
   obtain ⟨L1,hL1⟩:∃ L,L=eachP (fun a b=>xorW a b) (V a1).el (V a2).el:=⟨_,rfl⟩
   obtain ⟨L2,hL2⟩:∃ L,L=eachP (fun a b=>andW (negW (andW a 1)) b) (V a0).el L1:=⟨_,rfl⟩
   have HE1:=hid (fun W (hW:Below w2.heap.size w2 W)=>Zcv (X:=evX cb g vg Z) 157 (fun a b=>xorW a b) Znt (fun a b W=>Zm4 a b W) r1 r2 n1 n2 t1 t2 q1 (V a1).el (V a2).el W (fun k hk=>Kae (HXL.out k hk) (HB2.out.trans (hW.mono HB2.out.size)).size) HQ1.out HN1.out HN2.out HL1.out.1 HL2.out.1 HL1.out.2 HL2.out.2 (HT1.out.2.rdx.1.keep (KeepX.of hW)) (HT2.out.2.rdx.1.keep (KeepX.of hW)))
   rw [←hL1] at HE1
   have HE2:=hid (fun W gg (hW:Below w2.heap.size w2 W) (hk:WoV (evX cb g vg Z) W (.slice (some ⟨gg,0,none⟩) q1 q1) L1)=>Zcv (X:=evX cb g vg Z) 158 (fun a b=>andW (negW (andW a 1)) b) Znu (fun a b W=>Zm5 a b W) r0 (some ⟨gg,0,none⟩) n0 q1 t0 q1 q2 (V a0).el L1 W (fun k hk=>Kae (HXL.out k hk) (HB2.out.trans (hW.mono HB2.out.size)).size) HQ2.out HN0.out hk.rdx.2 HL0.out.1 (by have:=HL1.out;have:=HQ1.out;omega) HL0.out.2 (by have:=HL1.out;have:=HL2.out;have:=HQ1.out;omega) (HT0.out.2.rdx.1.keep (KeepX.of hW)) hk.rdx.1)
   rw [←hL2] at HE2
   have HE3:=hid (fun W gg (hW:Below w2.heap.size w2 W) (hk:WoV (evX cb g vg Z) W (.slice (some ⟨gg,0,none⟩) q2 q2) L2)=>Zcv (X:=evX cb g vg Z) 160 (fun a b=>xorW a b) Znv (fun a b W=>Zm6 a b W) r2 (some ⟨gg,0,none⟩) n2 q2 t2 q2 q3 (V a2).el L2 W (fun k hk=>Kae (HXL.out k hk) (HB2.out.trans (hW.mono HB2.out.size)).size) HQ3.out HN2.out hk.rdx.2 HL2.out.1 (by have:=HL0.out;have:=HQ2.out;omega) HL2.out.2 (by have:=HL1.out;have:=HL2.out;have:=HL0.out;have:=HQ1.out;have:=HQ2.out;omega) (HT2.out.2.rdx.1.keep (KeepX.of hW)) hk.rdx.1)
   have HLL:=hid (show eachP (fun a b=>xorW a b) (V a2).el (eachP (fun a b=>andW (negW (andW a 1)) b) (V a0).el (eachP (fun a b=>xorW a b) (V a1).el (V a2).el))=eachP (fun a b=>xorW a b) (V a2).el L2 from by rw [hL2,hL1])
   have HG0:=hid hg0
   have X0:=hid x0b
   have X2:=hid x2b
   have S0:=hid (show wr.drew.cell? ⟨g0,3,none⟩=some (.slice r1 n1 t1)∧wr.drew.cell? ⟨g0,5,none⟩=some (.slice r2 n2 t2)∧g0<wr.drew.heap.size∧Below wr.heap.size wr wr.drew from ⟨x1b,x2b,hg0,(Kai _ _).drew⟩)
   clear x0a x0b x1a x1b x2a x2b e1 e2 e3 e4 hE3 hS3 hg0 hq1 hq2 hq3 hL1 hL2
   go_wp2_with fail
   go_region_held3 (fun w'=>w'.cell? ⟨g0,3,none⟩=some (.slice r1 n1 t1)∧w'.cell? ⟨g0,5,none⟩=some (.slice r2 n2 t2)∧g0<w'.heap.size∧Below wr.heap.size wr w') (first | with_reducible exact S0.out | assumption | exact Zny (by assumption) (by assumption))
    (first
     | (go_at_call 156;refine (HE1.out _ ?_).mono ?_;(refine bnext HB.out ?_;apply last4;assumption);rintro e w6 ⟨gg,rfl,k6,b6⟩))
   all_goals
    rename_i hH
    have H6:=hid hH.2.2.2
    have K6:=hid k6
    have x0c:=(H6.out.cell (p:=⟨g0,1,none⟩) HG0.out).trans X0.out
    clear hH k6 b6
    have HB6:=hid (bnext HB.out H6.out)
    go_wp2_with (first
     | (go_at_call_of 156 r0;refine (HE2.out _ _ HB6.out K6.out).mono ?_;rintro e w7 ⟨gg7,rfl,k7,b7⟩;have K7:=hid k7;have H7:=hid (bnext H6.out b7);have HB7:=hid (bnext HB.out H7.out);have x2c:=(H7.out.cell (p:=⟨g0,5,none⟩) HG0.out).trans X2.out;clear k7 b7)
     | (go_at_call_of 156 r2;refine (HE3.out _ _ HB7.out K7.out).mono ?_;rintro e w8 ⟨gg8,rfl,k8,b8⟩))
    go_ret
    exact ⟨bnext HB9.out (bnext H7.out b8),_,rfl,by rw [HLL.out];exact k8⟩
end Go.Proofs.YtghlnncfigkkaaaGreatDoor
