/-
 The walk of lex.one.
-/
import Derived.Test.YtghlnncfigkkaaaGreatDoorQParA
import Derived.Test.YtghlnncfigkkaaaGreatDoorQAsE
import Derived.Test.YtghlnncfigkkaaaGreatDoorQLexA
import Derived.Deep.RegionWith
import Derived.Deep.RegionHeld3
set_option maxRecDepth 100000
set_option maxHeartbeats 8000000
open Go.Lib (hid)
namespace Go.Proofs.YtghlnncfigkkaaaGreatDoor
set_option linter.unusedVariables false
set_option linter.unusedSimpArgs false
open Go.RowKit
def Ze9 (W:World) (s:ByteArray) (k:Nat) (e:Ending) (w':World):Prop:=
 Below W.heap.size W w'∧∃ (a:Int) (b:ByteArray) (c d:Int) (ok:Bool),e=.returned (.tuple #[.agg #[.int .i64 a,.string b,.int .u64 c,.int .i64 d],.bool ok]) ∧
  (oneM s k=none∧ok=false∨∃ t n v,oneM s k=some (t,n,v)∧ok=true∧a=(t:Int)∧b=s.extract k (k+n)∧c=(v:Int)∧d=(k:Int))
abbrev tokZ:Obj:=.cells #[.int .i64 0,.string ⟨#[]⟩,.int .u64 0,.int .i64 0] 155
theorem Zb9 (w:World) (c:Array Value):((w.alloc tokZ).alloc (.cells c 155)).heap[w.heap.size]?=some tokZ∧((w.alloc tokZ).alloc (.cells c 155)).heap[w.heap.size+1]?=some (.cells c 155 (0,0)):=by
 refine ⟨(Below.heap_alloc _ _ _ (by simp)).trans (Kac w _),?_⟩
 have h:=Kac (w.alloc tokZ) (.cells c 155)
 rw [World.size_alloc] at h
 exact h
theorem ZbK (w:World) (c:Array Value):Below w.heap.size w ((w.alloc tokZ).alloc (.cells c 155)):=((Kai _ _).alloc (Kag _) _).alloc (by simp) _
theorem Zgy {w w':World} {e:TypeId} {s:ByteArray} (h:w'=w∨w'=Lib.bytesWorld w e s):Below w.heap.size w w':=by
 rcases h with rfl | rfl
 ·exact Kai _ _
 ·have h1:Below w.heap.size w (w.drew.alloc (.cells (Lib.bytesCells w e s) e)):=(Kai _ _).drew.alloc (Kag _) _
  refine ⟨h1.os,h1.tape,h1.output,?_,fun k hk => ?_⟩
  ·have:=h1.size
   unfold Lib.bytesWorld
   simp [World.freeze]
  ·rw [←h1.block k hk]
   unfold Lib.bytesWorld
   simp [World.freeze,Array.getElem?_modify]
   intro e
   omega
theorem Zar {w:World} {g:Nat} {cs:Array Value} {t:TypeId} (h:w.heap[g]?=some (.cells cs t (0,0))) (k:Nat):w.frozen? ⟨g,k,none⟩=false:=by
 simp [World.frozen?,h]
theorem Zcf (w:World) (t:Addr) (v:Value) {k:Nat} (h:k≠t.block):(w.setCell t v).heap[k]?=w.heap[k]?:=by
 unfold World.setCell
 simp only [Array.getElem?_modify]
 rw [if_neg (fun e=>h e.symm)]
theorem Za5 {w4 wS:World} {g:Nat} {a b c d a0 b0 c0 d0:Value} {T:TypeId} (h0:w4.heap[g]?=some (.cells #[a0,b0,c0,d0] T (0,0)))
  (hS:wS=((((w4.setCell ⟨g,0,none⟩ a).setCell ⟨g,1,none⟩ b).setCell ⟨g,2,none⟩ c).setCell ⟨g,3,none⟩ d).drew):
  wS.heap[g]?=some (.cells #[a,b,c,d] T (0,0))∧wS.heap[g+1]?=w4.heap[g+1]?∧∀ (B:Nat) (w:World),Below B w w4→B≤g→Below B w wS:=by
 subst hS
 refine ⟨?_,?_,fun B w h hB=>((((h.setCell (p:=⟨g,0,none⟩) hB _).setCell (p:=⟨g,1,none⟩) hB _).setCell (p:=⟨g,2,none⟩) hB _).setCell (p:=⟨g,3,none⟩) hB _).drew⟩
 ·show ((((w4.setCell ⟨g,0,none⟩ a).setCell ⟨g,1,none⟩ b).setCell ⟨g,2,none⟩ c).setCell ⟨g,3,none⟩ d).heap[g]?=_
  rw [heap_setCell_same _ _ _ _ _ _ (heap_setCell_same _ _ _ _ _ _ (heap_setCell_same _ _ _ _ _ _ (heap_setCell_same _ _ _ _ _ _ h0)))]
  rfl
 ·show ((((w4.setCell ⟨g,0,none⟩ a).setCell ⟨g,1,none⟩ b).setCell ⟨g,2,none⟩ c).setCell ⟨g,3,none⟩ d).heap[g+1]?=_
  rw [Zcf _ _ _ (by simp),Zcf _ _ _ (by simp),Zcf _ _ _ (by simp),Zcf _ _ _ (by simp)]
theorem ZfL (s:ByteArray) {k:Nat} (h:k=s.size):letAt s k=false:=by unfold letAt;rw [dif_neg (by omega)]
theorem Zhf (s:ByteArray) {k:Nat} (h:k<s.size):letAt s k=letB s[k]:=by unfold letAt;rw [dif_pos h]
theorem Zb1 (c:UInt8) (b:Bool) (h:letB c=b) (w:World):Calls Tryz.prog 123 #[V8 c] w fun e w'=>e=.returned (.bool b)∧w=w':=by
 have:=Zdl c w
 rwa [h] at this
def ErrT (w:World):Prop:=∃ te pe,w.cell? ⟨3,0,none⟩=some (.iface te pe)
theorem Zjk (s:ByteArray) (k:Nat) (w:World) (hs:s.size≤100000) (hk:k<s.size) (hd:digB s[k]=true) (hv:decV (Zam s k (Zax digB s k))<18446744073709551616):
  Calls Tryz.prog 82 #[.string s,.int .i64 k] w (Ze9 w s k):=by
 obtain ⟨n,hn⟩:∃ n,n=Zax digB s k:=⟨_,rfl⟩
 have hn1:1≤n:=by rw [hn,Zbw digB s hk hd];omega
 have hnk:=Zce digB s (Nat.le_of_lt hk)
 rw [←hn] at hv hnk
 have hall:=Ze8 digB s k
 rw [←hn] at hall
 have hlen:=ZcS s hnk
 have hpar:Lib.parseUintB 64 (s.extract k (k+n)).data.toList=.ok (decV (Zam s k n)):=by
  rw [ZaF]
  exact Zle (by intro e;rw [e] at hlen;simp at hlen;omega) hall hv
 have hp:=hid (fun W => Tryz.strconv_ParseUint_10_at64_ok (s.extract k (k+n)) (by rw [ByteArray.size_extract];omega) _ hpar W)
 have hdig:=Zcd s[k]
 rw [hd] at hdig
 have HD:=hid hdig
 have HN:=hid hn
 have HDG:=hid hd
 have HR:=hid (fun W=>ZfH s k W hs (Nat.le_of_lt hk))
 clear hpar hall hlen hdig hn hd
 go_enter Tryz.func82,Tryz.ntmps82
 go_wp2_with fail
 refine (HD.out _).mono ?_
 rintro e w1 ⟨rfl,rfl⟩
 go_wp2_with fail
 refine (HR.out _).mono ?_
 rintro e w2 ⟨rfl,rfl⟩
 rw [←HN.out]
 go_wp2_with fail
 refine (hp.out _).mono ?_
 rintro e w3 ⟨rfl,h3⟩
 have hb3:=Zgy h3
 have k0:=(hb3.block w.heap.size (by simp;omega)).trans (Zb9 w _).1
 have k1:=(hb3.block (w.heap.size+1) (by simp)).trans (Zb9 w _).2
 have HB3:=hid ((ZbK w _).trans (hb3.mono (by simp;omega)))
 clear h3 hb3 hp
 have c0:=Kaa _ _ 0 _ _ _ k1
 have c1:=Kaa _ _ 1 _ _ _ k1
 have c2:=Kaa _ _ 2 _ _ _ k1
 have c3:=Kaa _ _ 3 _ _ _ k1
 have f0:=Zar k1 0
 have f2:=Zar k1 2
 have K0:=hid k0
 have K1:=hid k1
 clear k0 k1
 have HB:=hid (show oneM s k=if (s[k].toNat≠48∨n=1)∧letAt s (k+n)=false then some (2,n,decV (Zam s k n)) else none from by
  unfold oneM
  rw [dif_pos hk,if_pos HDG.out,←HN.out]
  simp only [hv,true_and])
 go_wp2_with fail
 obtain ⟨w4,hw4⟩:∃ w4,w4=(w3.setCell ⟨w.heap.size+1,0,none⟩ (.int .i64 2)).setCell ⟨w.heap.size+1,2,none⟩ (.int .u64 (decV (Zam s k n):Nat)):=⟨_,rfl⟩
 rw [←hw4]
 have k4:w4.heap[w.heap.size+1]?=some (.cells #[.int .i64 2,.string (s.extract k (k+n)),.int .u64 (decV (Zam s k n):Nat),.int .i64 k] 155 (0,0)):=by
  rw [hw4,heap_setCell_same _ _ _ _ _ _ (heap_setCell_same _ _ _ _ _ _ K1.out)]
  rfl
 have k40:w4.heap[w.heap.size]?=some tokZ:=by
  rw [hw4,Zcf _ _ _ (by simp),Zcf _ _ _ (by simp)]
  exact K0.out
 have HB4:=hid (show Below w.heap.size w w4 from by rw [hw4];exact (HB3.out.setCell (by simp) _).setCell (by simp) _)
 clear hw4 c0 c1 c2 c3 f0 f2
 have hS:=hid (And.intro (Kaa w4.drew _ 0 _ _ _ k4) (And.intro (Kaa w4.drew _ 1 _ _ _ k4) (And.intro (Kaa w4.drew _ 2 _ _ _ k4) (Kaa w4.drew _ 3 _ _ _ k4))))
 have z0:=Kaa w4 _ 0 _ _ _ k40
 have z1:=Kaa w4 _ 1 _ _ _ k40
 have z2:=Kaa w4 _ 2 _ _ _ k40
 have z3:=Kaa w4 _ 3 _ _ _ k40
 have y0:=Zar k40 0
 have y1:=Zar k40 1
 have y2:=Zar k40 2
 have y3:=Zar k40 3
 have K4:=hid k4
 have K40:=hid k40
 clear k4 k40
 have HQ:Hid ((((s[k].toNat:Int) != 48)=true∧Hid (s[k].toNat≠48)∧True)∨(((s[k].toNat:Int) != 48)=false∧((n:Int)==1)=true∧Hid (s[k].toNat=48)∧Hid (n=1)∧True)∨(((s[k].toNat:Int) != 48)=false∧((n:Int)==1)=false∧Hid (s[k].toNat=48)∧Hid (n≠1))):=by
  by_cases hz:s[k].toNat=48
  ·by_cases h1:n=1
   ·exact .inr (.inl ⟨by rw [bne_eq_false_iff_eq];omega,by rw [beq_iff_eq];omega,hz,h1,trivial⟩)
   ·exact .inr (.inr ⟨by rw [bne_eq_false_iff_eq];omega,by rw [Kaj];omega,hz,h1⟩)
  ·exact .inl ⟨by rw [bne_iff_ne];omega,hz,trivial⟩
 rcases HQ.out with ⟨q1,HZ,he⟩ | ⟨q1,q0,HZ,HN1,he⟩ | ⟨q1,q0,HZ,HN1⟩
 ·clear he
  by_cases he:k+n=s.size
  ·have q2:((k:Int)+(n:Int)==(s.size:Int))=true:=by rw [beq_iff_eq];omega
   have HA:=hid (ZfL s he)
   clear he
   refine wp_region_held_drew (S:=(fun w'=>w'.cell? ⟨w.heap.size+1,0,none⟩=some (.int .i64 2)∧w'.cell? ⟨w.heap.size+1,1,none⟩=some (.string (s.extract k (k+n)))∧w'.cell? ⟨w.heap.size+1,2,none⟩=some (.int .u64 (decV (Zam s k n):Nat))∧w'.cell? ⟨w.heap.size+1,3,none⟩=some (.int .i64 k))) (by kernel_rfl) hS.out (fun hHeld => ?_)
   refine tk 0 ?_
   simp only [tkS]
   refine tk 1 ?_
   simp only [tkS]
   refine tk 2 ?_
   simp only [tkS]
   refine tk 3 ?_
   simp only [tkS]
   refine tk 4 ?_
   simp only [tkS]
   refine tk 5 ?_
   simp only [tkS]
   refine tk 6 ?_
   simp only [tkS]
   refine tn 7 ?_
   simp only [tkS]
   refine tn 8 ?_
   simp only [tkS]
   refine tn 9 ?_
   simp only [tkS]
   refine tn 10 ?_
   simp only [tkS]
   refine tk 11 ?_
   simp only [tkS]
   refine tk 12 ?_
   simp only [tkS]
   refine tk 13 ?_
   simp only [tkS]
   refine tk 14 ?_
   simp only [tkS]
   refine tk 15 ?_
   simp only [tkS]
   refine tk 16 ?_
   simp only [tkS]
   refine tk 17 ?_
   simp only [tkS]
   refine tk 18 ?_
   simp only [tkS]
   refine tn 19 ?_
   simp only [tkS]
   refine tn 20 ?_
   simp only [tkS]
   refine tn 21 ?_
   simp only [tkS]
   refine tn 22 ?_
   simp only [tkS]
   refine tn 23 ?_
   simp only [tkS]
   refine tk 24 ?_
   simp only [tkS]
   refine tk 25 ?_
   simp only [tkS]
   refine wpAnyH_ready (rs:=[26]) (by kernel_rfl) (by simp) ?_
   refine AllReadyH.cons (o:=_) rfl (fun K hK => ?_) AllReadyH.nil
   go_simp
   obtain ⟨wS,hwS⟩:∃ wS,wS=((((w4.setCell ⟨w.heap.size,0,none⟩ (.int .i64 2)).setCell ⟨w.heap.size,1,none⟩ (.string (s.extract k (k+n)))).setCell ⟨w.heap.size,2,none⟩ (.int .u64 (decV (Zam s k n):Nat))).setCell ⟨w.heap.size,3,none⟩ (.int .i64 k)).drew:=⟨_,rfl⟩
   obtain ⟨s1,s2,s3⟩:=Za5 K40.out hwS
   rw [←hwS]
   clear hwS
   have s2':=s2.trans K4.out
   refine hK.out _ _ ⟨Kaa _ _ 0 _ _ _ s2',Kaa _ _ 1 _ _ _ s2',Kaa _ _ 2 _ _ _ s2',Kaa _ _ 3 _ _ _ s2'⟩ (fun hHeld => ?_)
   clear hK K
   try simp only [tkS]
   refine tk 27 (oi:=⟨some 5,_,_,_,_,_⟩) ?_
   simp only [tkS]
   refine wpAnyH_done (by kernel_rfl) ?_ _
   have d0:=Kaa _ _ 0 _ _ _ s1
   have d1:=Kaa _ _ 1 _ _ _ s1
   have d2:=Kaa _ _ 2 _ _ _ s1
   have d3:=Kaa _ _ 3 _ _ _ s1
   have HBS:=hid (s3 w.heap.size w HB4.out (Kag _))
   clear s1 s2 s2' s3 hHeld
   go_wp2
   exact bodyPost_ret (v:=.tuple #[.agg #[.int .i64 2,.string (s.extract k (k+n)),.int .u64 (decV (Zam s k n):Nat),.int .i64 k],.bool true]) (by simp [results,Tryz.results82,go_sem,d0,d1,d2,d3]) rfl ⟨HBS.out,_,_,_,_,_,rfl,Or.inr ⟨_,_,_,by rw [HB.out,if_pos ⟨(Or.inl (by have:=HZ.out;omega)),HA.out⟩],rfl,rfl,rfl,rfl,rfl⟩⟩
  ·have q2:((k:Int)+(n:Int)==(s.size:Int))=false:=by rw [Kaj];omega
   have hlt:k+n<s.size:=by omega
   have ha:=Zhf s hlt
   clear he
   have i0:(0:Int)≤(k:Int)+(n:Int):=by omega
   have i1:(k:Int)+(n:Int)<(s.size:Int):=by omega
   have i2:((k:Int)+(n:Int)).toNat=k+n:=by omega
   cases hb:letB s[k+n] with
   | false=>
    have HL:=hid (fun W=>Zb1 s[k+n] _ hb W)
    have HA:Hid (letAt s (k+n)=false):=ha.trans hb
    clear ha hb
    refine wp_region_held_drew (S:=(fun w'=>w'.cell? ⟨w.heap.size+1,0,none⟩=some (.int .i64 2)∧w'.cell? ⟨w.heap.size+1,1,none⟩=some (.string (s.extract k (k+n)))∧w'.cell? ⟨w.heap.size+1,2,none⟩=some (.int .u64 (decV (Zam s k n):Nat))∧w'.cell? ⟨w.heap.size+1,3,none⟩=some (.int .i64 k))) (by kernel_rfl) hS.out (fun hHeld => ?_)
    refine tk 0 ?_
    simp only [tkS]
    refine tk 1 ?_
    simp only [tkS]
    refine tk 2 ?_
    simp only [tkS]
    refine tk 3 ?_
    simp only [tkS]
    refine tk 4 ?_
    simp only [tkS]
    refine tk 5 ?_
    simp only [tkS]
    refine tk 6 ?_
    simp only [tkS]
    refine tn 7 ?_
    simp only [tkS]
    refine tn 8 ?_
    simp only [tkS]
    refine tn 9 ?_
    simp only [tkS]
    refine tn 10 ?_
    simp only [tkS]
    refine tk 11 ?_
    simp only [tkS]
    refine tk 12 ?_
    simp only [tkS]
    refine tk 13 ?_
    simp only [tkS]
    refine tk 14 ?_
    simp only [tkS]
    refine tk 15 ?_
    simp only [tkS]
    refine tk 16 ?_
    simp only [tkS]
    refine tk 17 ?_
    simp only [tkS]
    refine tk 18 ?_
    simp only [tkS]
    refine tk 19 ?_
    simp only [tkS]
    refine tk 20 ?_
    simp only [tkS]
    refine tk 21 ?_
    simp only [tkS]
    refine wpAnyH_ready (rs:=[22]) (by kernel_rfl) (by simp) ?_
    refine AllReadyH.cons (o:=_) rfl (fun K hK => ?_) AllReadyH.nil
    go_simp
    go_at_call 123
    refine (HL.out _).mono ?_
    rintro e w' ⟨rfl,rfl⟩
    refine hK.out _ _ (by assumption) (fun hHeld => ?_)
    clear hK K
    try simp only [tkS]
    refine tk 23 ?_
    simp only [tkS]
    refine tk 24 ?_
    simp only [tkS]
    refine tk 25 ?_
    simp only [tkS]
    refine wpAnyH_ready (rs:=[26]) (by kernel_rfl) (by simp) ?_
    refine AllReadyH.cons (o:=_) rfl (fun K hK => ?_) AllReadyH.nil
    go_simp
    obtain ⟨wS,hwS⟩:∃ wS,wS=((((w4.setCell ⟨w.heap.size,0,none⟩ (.int .i64 2)).setCell ⟨w.heap.size,1,none⟩ (.string (s.extract k (k+n)))).setCell ⟨w.heap.size,2,none⟩ (.int .u64 (decV (Zam s k n):Nat))).setCell ⟨w.heap.size,3,none⟩ (.int .i64 k)).drew:=⟨_,rfl⟩
    obtain ⟨s1,s2,s3⟩:=Za5 K40.out hwS
    rw [←hwS]
    clear hwS
    have s2':=s2.trans K4.out
    refine hK.out _ _ ⟨Kaa _ _ 0 _ _ _ s2',Kaa _ _ 1 _ _ _ s2',Kaa _ _ 2 _ _ _ s2',Kaa _ _ 3 _ _ _ s2'⟩ (fun hHeld => ?_)
    clear hK K
    try simp only [tkS]
    refine tk 27 (oi:=⟨some 5,_,_,_,_,_⟩) ?_
    simp only [tkS]
    refine wpAnyH_done (by kernel_rfl) ?_ _
    have d0:=Kaa _ _ 0 _ _ _ s1
    have d1:=Kaa _ _ 1 _ _ _ s1
    have d2:=Kaa _ _ 2 _ _ _ s1
    have d3:=Kaa _ _ 3 _ _ _ s1
    have HBS:=hid (s3 w.heap.size w HB4.out (Kag _))
    clear s1 s2 s2' s3 hHeld
    go_wp2
    exact bodyPost_ret (v:=.tuple #[.agg #[.int .i64 2,.string (s.extract k (k+n)),.int .u64 (decV (Zam s k n):Nat),.int .i64 k],.bool true]) (by simp [results,Tryz.results82,go_sem,d0,d1,d2,d3]) rfl ⟨HBS.out,_,_,_,_,_,rfl,Or.inr ⟨_,_,_,by rw [HB.out,if_pos ⟨(Or.inl (by have:=HZ.out;omega)),HA.out⟩],rfl,rfl,rfl,rfl,rfl⟩⟩
   | true=>
    have HL:=hid (fun W=>Zb1 s[k+n] _ hb W)
    have HA:Hid (letAt s (k+n)=true):=ha.trans hb
    clear ha hb
    refine wp_region_held_drew (S:=(fun w'=>w'.cell? ⟨w.heap.size+1,0,none⟩=some (.int .i64 2)∧w'.cell? ⟨w.heap.size+1,1,none⟩=some (.string (s.extract k (k+n)))∧w'.cell? ⟨w.heap.size+1,2,none⟩=some (.int .u64 (decV (Zam s k n):Nat))∧w'.cell? ⟨w.heap.size+1,3,none⟩=some (.int .i64 k))) (by kernel_rfl) hS.out (fun hHeld => ?_)
    refine tk 0 ?_
    simp only [tkS]
    refine tk 1 ?_
    simp only [tkS]
    refine tk 2 ?_
    simp only [tkS]
    refine tk 3 ?_
    simp only [tkS]
    refine tk 4 ?_
    simp only [tkS]
    refine tk 5 ?_
    simp only [tkS]
    refine tk 6 ?_
    simp only [tkS]
    refine tn 7 ?_
    simp only [tkS]
    refine tn 8 ?_
    simp only [tkS]
    refine tn 9 ?_
    simp only [tkS]
    refine tn 10 ?_
    simp only [tkS]
    refine tk 11 ?_
    simp only [tkS]
    refine tk 12 ?_
    simp only [tkS]
    refine tk 13 ?_
    simp only [tkS]
    refine tk 14 ?_
    simp only [tkS]
    refine tk 15 ?_
    simp only [tkS]
    refine tk 16 ?_
    simp only [tkS]
    refine tk 17 ?_
    simp only [tkS]
    refine tk 18 ?_
    simp only [tkS]
    refine tk 19 ?_
    simp only [tkS]
    refine tk 20 ?_
    simp only [tkS]
    refine tk 21 ?_
    simp only [tkS]
    refine wpAnyH_ready (rs:=[22]) (by kernel_rfl) (by simp) ?_
    refine AllReadyH.cons (o:=_) rfl (fun K hK => ?_) AllReadyH.nil
    go_simp
    go_at_call 123
    refine (HL.out _).mono ?_
    rintro e w' ⟨rfl,rfl⟩
    refine hK.out _ _ (by assumption) (fun hHeld => ?_)
    clear hK K
    try simp only [tkS]
    refine tk 23 ?_
    simp only [tkS]
    refine tk 24 ?_
    simp only [tkS]
    refine tk 25 ?_
    simp only [tkS]
    refine wpAnyH_ready (rs:=[26]) (by kernel_rfl) (by simp) ?_
    refine AllReadyH.cons (o:=_) rfl (fun K hK => ?_) AllReadyH.nil
    go_simp
    obtain ⟨wS,hwS⟩:∃ wS,wS=((((w4.setCell ⟨w.heap.size,0,none⟩ (.int .i64 2)).setCell ⟨w.heap.size,1,none⟩ (.string (s.extract k (k+n)))).setCell ⟨w.heap.size,2,none⟩ (.int .u64 (decV (Zam s k n):Nat))).setCell ⟨w.heap.size,3,none⟩ (.int .i64 k)).drew:=⟨_,rfl⟩
    obtain ⟨s1,s2,s3⟩:=Za5 K40.out hwS
    rw [←hwS]
    clear hwS
    have s2':=s2.trans K4.out
    refine hK.out _ _ ⟨Kaa _ _ 0 _ _ _ s2',Kaa _ _ 1 _ _ _ s2',Kaa _ _ 2 _ _ _ s2',Kaa _ _ 3 _ _ _ s2'⟩ (fun hHeld => ?_)
    clear hK K
    try simp only [tkS]
    refine tk 27 (oi:=⟨some 5,_,_,_,_,_⟩) ?_
    simp only [tkS]
    refine wpAnyH_done (by kernel_rfl) ?_ _
    have d0:=Kaa _ _ 0 _ _ _ s1
    have d1:=Kaa _ _ 1 _ _ _ s1
    have d2:=Kaa _ _ 2 _ _ _ s1
    have d3:=Kaa _ _ 3 _ _ _ s1
    have HBS:=hid (s3 w.heap.size w HB4.out (Kag _))
    clear s1 s2 s2' s3 hHeld
    go_wp2
    exact bodyPost_ret (v:=.tuple #[.agg #[.int .i64 2,.string (s.extract k (k+n)),.int .u64 (decV (Zam s k n):Nat),.int .i64 k],.bool false]) (by simp [results,Tryz.results82,go_sem,d0,d1,d2,d3]) rfl ⟨HBS.out,_,_,_,_,_,rfl,Or.inl ⟨by rw [HB.out,if_neg (fun h=>by rw [HA.out] at h;exact absurd h.2 (by simp))],rfl⟩⟩
 ·clear he
  by_cases he:k+n=s.size
  ·have q2:((k:Int)+(n:Int)==(s.size:Int))=true:=by rw [beq_iff_eq];omega
   have HA:=hid (ZfL s he)
   clear he
   refine wp_region_held_drew (S:=(fun w'=>w'.cell? ⟨w.heap.size+1,0,none⟩=some (.int .i64 2)∧w'.cell? ⟨w.heap.size+1,1,none⟩=some (.string (s.extract k (k+n)))∧w'.cell? ⟨w.heap.size+1,2,none⟩=some (.int .u64 (decV (Zam s k n):Nat))∧w'.cell? ⟨w.heap.size+1,3,none⟩=some (.int .i64 k))) (by kernel_rfl) hS.out (fun hHeld => ?_)
   refine tk 0 ?_
   simp only [tkS]
   refine tk 1 ?_
   simp only [tkS]
   refine tk 2 ?_
   simp only [tkS]
   refine tk 3 ?_
   simp only [tkS]
   refine tk 4 ?_
   simp only [tkS]
   refine tk 5 ?_
   simp only [tkS]
   refine tk 6 ?_
   simp only [tkS]
   refine tk 7 ?_
   simp only [tkS]
   refine tk 8 ?_
   simp only [tkS]
   refine tk 9 ?_
   simp only [tkS]
   refine tk 10 ?_
   simp only [tkS]
   refine tk 11 ?_
   simp only [tkS]
   refine tk 12 ?_
   simp only [tkS]
   refine tk 13 ?_
   simp only [tkS]
   refine tk 14 ?_
   simp only [tkS]
   refine tk 15 ?_
   simp only [tkS]
   refine tk 16 ?_
   simp only [tkS]
   refine tk 17 ?_
   simp only [tkS]
   refine tk 18 ?_
   simp only [tkS]
   refine tn 19 ?_
   simp only [tkS]
   refine tn 20 ?_
   simp only [tkS]
   refine tn 21 ?_
   simp only [tkS]
   refine tn 22 ?_
   simp only [tkS]
   refine tn 23 ?_
   simp only [tkS]
   refine tk 24 ?_
   simp only [tkS]
   refine tk 25 ?_
   simp only [tkS]
   refine wpAnyH_ready (rs:=[26]) (by kernel_rfl) (by simp) ?_
   refine AllReadyH.cons (o:=_) rfl (fun K hK => ?_) AllReadyH.nil
   go_simp
   obtain ⟨wS,hwS⟩:∃ wS,wS=((((w4.setCell ⟨w.heap.size,0,none⟩ (.int .i64 2)).setCell ⟨w.heap.size,1,none⟩ (.string (s.extract k (k+n)))).setCell ⟨w.heap.size,2,none⟩ (.int .u64 (decV (Zam s k n):Nat))).setCell ⟨w.heap.size,3,none⟩ (.int .i64 k)).drew:=⟨_,rfl⟩
   obtain ⟨s1,s2,s3⟩:=Za5 K40.out hwS
   rw [←hwS]
   clear hwS
   have s2':=s2.trans K4.out
   refine hK.out _ _ ⟨Kaa _ _ 0 _ _ _ s2',Kaa _ _ 1 _ _ _ s2',Kaa _ _ 2 _ _ _ s2',Kaa _ _ 3 _ _ _ s2'⟩ (fun hHeld => ?_)
   clear hK K
   try simp only [tkS]
   refine tk 27 (oi:=⟨some 5,_,_,_,_,_⟩) ?_
   simp only [tkS]
   refine wpAnyH_done (by kernel_rfl) ?_ _
   have d0:=Kaa _ _ 0 _ _ _ s1
   have d1:=Kaa _ _ 1 _ _ _ s1
   have d2:=Kaa _ _ 2 _ _ _ s1
   have d3:=Kaa _ _ 3 _ _ _ s1
   have HBS:=hid (s3 w.heap.size w HB4.out (Kag _))
   clear s1 s2 s2' s3 hHeld
   go_wp2
   exact bodyPost_ret (v:=.tuple #[.agg #[.int .i64 2,.string (s.extract k (k+n)),.int .u64 (decV (Zam s k n):Nat),.int .i64 k],.bool true]) (by simp [results,Tryz.results82,go_sem,d0,d1,d2,d3]) rfl ⟨HBS.out,_,_,_,_,_,rfl,Or.inr ⟨_,_,_,by rw [HB.out,if_pos ⟨(Or.inr HN1.out),HA.out⟩],rfl,rfl,rfl,rfl,rfl⟩⟩
  ·have q2:((k:Int)+(n:Int)==(s.size:Int))=false:=by rw [Kaj];omega
   have hlt:k+n<s.size:=by omega
   have ha:=Zhf s hlt
   clear he
   have i0:(0:Int)≤(k:Int)+(n:Int):=by omega
   have i1:(k:Int)+(n:Int)<(s.size:Int):=by omega
   have i2:((k:Int)+(n:Int)).toNat=k+n:=by omega
   cases hb:letB s[k+n] with
   | false=>
    have HL:=hid (fun W=>Zb1 s[k+n] _ hb W)
    have HA:Hid (letAt s (k+n)=false):=ha.trans hb
    clear ha hb
    refine wp_region_held_drew (S:=(fun w'=>w'.cell? ⟨w.heap.size+1,0,none⟩=some (.int .i64 2)∧w'.cell? ⟨w.heap.size+1,1,none⟩=some (.string (s.extract k (k+n)))∧w'.cell? ⟨w.heap.size+1,2,none⟩=some (.int .u64 (decV (Zam s k n):Nat))∧w'.cell? ⟨w.heap.size+1,3,none⟩=some (.int .i64 k))) (by kernel_rfl) hS.out (fun hHeld => ?_)
    refine tk 0 ?_
    simp only [tkS]
    refine tk 1 ?_
    simp only [tkS]
    refine tk 2 ?_
    simp only [tkS]
    refine tk 3 ?_
    simp only [tkS]
    refine tk 4 ?_
    simp only [tkS]
    refine tk 5 ?_
    simp only [tkS]
    refine tk 6 ?_
    simp only [tkS]
    refine tk 7 ?_
    simp only [tkS]
    refine tk 8 ?_
    simp only [tkS]
    refine tk 9 ?_
    simp only [tkS]
    refine tk 10 ?_
    simp only [tkS]
    refine tk 11 ?_
    simp only [tkS]
    refine tk 12 ?_
    simp only [tkS]
    refine tk 13 ?_
    simp only [tkS]
    refine tk 14 ?_
    simp only [tkS]
    refine tk 15 ?_
    simp only [tkS]
    refine tk 16 ?_
    simp only [tkS]
    refine tk 17 ?_
    simp only [tkS]
    refine tk 18 ?_
    simp only [tkS]
    refine tk 19 ?_
    simp only [tkS]
    refine tk 20 ?_
    simp only [tkS]
    refine tk 21 ?_
    simp only [tkS]
    refine wpAnyH_ready (rs:=[22]) (by kernel_rfl) (by simp) ?_
    refine AllReadyH.cons (o:=_) rfl (fun K hK => ?_) AllReadyH.nil
    go_simp
    go_at_call 123
    refine (HL.out _).mono ?_
    rintro e w' ⟨rfl,rfl⟩
    refine hK.out _ _ (by assumption) (fun hHeld => ?_)
    clear hK K
    try simp only [tkS]
    refine tk 23 ?_
    simp only [tkS]
    refine tk 24 ?_
    simp only [tkS]
    refine tk 25 ?_
    simp only [tkS]
    refine wpAnyH_ready (rs:=[26]) (by kernel_rfl) (by simp) ?_
    refine AllReadyH.cons (o:=_) rfl (fun K hK => ?_) AllReadyH.nil
    go_simp
    obtain ⟨wS,hwS⟩:∃ wS,wS=((((w4.setCell ⟨w.heap.size,0,none⟩ (.int .i64 2)).setCell ⟨w.heap.size,1,none⟩ (.string (s.extract k (k+n)))).setCell ⟨w.heap.size,2,none⟩ (.int .u64 (decV (Zam s k n):Nat))).setCell ⟨w.heap.size,3,none⟩ (.int .i64 k)).drew:=⟨_,rfl⟩
    obtain ⟨s1,s2,s3⟩:=Za5 K40.out hwS
    rw [←hwS]
    clear hwS
    have s2':=s2.trans K4.out
    refine hK.out _ _ ⟨Kaa _ _ 0 _ _ _ s2',Kaa _ _ 1 _ _ _ s2',Kaa _ _ 2 _ _ _ s2',Kaa _ _ 3 _ _ _ s2'⟩ (fun hHeld => ?_)
    clear hK K
    try simp only [tkS]
    refine tk 27 (oi:=⟨some 5,_,_,_,_,_⟩) ?_
    simp only [tkS]
    refine wpAnyH_done (by kernel_rfl) ?_ _
    have d0:=Kaa _ _ 0 _ _ _ s1
    have d1:=Kaa _ _ 1 _ _ _ s1
    have d2:=Kaa _ _ 2 _ _ _ s1
    have d3:=Kaa _ _ 3 _ _ _ s1
    have HBS:=hid (s3 w.heap.size w HB4.out (Kag _))
    clear s1 s2 s2' s3 hHeld
    go_wp2
    exact bodyPost_ret (v:=.tuple #[.agg #[.int .i64 2,.string (s.extract k (k+n)),.int .u64 (decV (Zam s k n):Nat),.int .i64 k],.bool true]) (by simp [results,Tryz.results82,go_sem,d0,d1,d2,d3]) rfl ⟨HBS.out,_,_,_,_,_,rfl,Or.inr ⟨_,_,_,by rw [HB.out,if_pos ⟨(Or.inr HN1.out),HA.out⟩],rfl,rfl,rfl,rfl,rfl⟩⟩
   | true=>
    have HL:=hid (fun W=>Zb1 s[k+n] _ hb W)
    have HA:Hid (letAt s (k+n)=true):=ha.trans hb
    clear ha hb
    refine wp_region_held_drew (S:=(fun w'=>w'.cell? ⟨w.heap.size+1,0,none⟩=some (.int .i64 2)∧w'.cell? ⟨w.heap.size+1,1,none⟩=some (.string (s.extract k (k+n)))∧w'.cell? ⟨w.heap.size+1,2,none⟩=some (.int .u64 (decV (Zam s k n):Nat))∧w'.cell? ⟨w.heap.size+1,3,none⟩=some (.int .i64 k))) (by kernel_rfl) hS.out (fun hHeld => ?_)
    refine tk 0 ?_
    simp only [tkS]
    refine tk 1 ?_
    simp only [tkS]
    refine tk 2 ?_
    simp only [tkS]
    refine tk 3 ?_
    simp only [tkS]
    refine tk 4 ?_
    simp only [tkS]
    refine tk 5 ?_
    simp only [tkS]
    refine tk 6 ?_
    simp only [tkS]
    refine tk 7 ?_
    simp only [tkS]
    refine tk 8 ?_
    simp only [tkS]
    refine tk 9 ?_
    simp only [tkS]
    refine tk 10 ?_
    simp only [tkS]
    refine tk 11 ?_
    simp only [tkS]
    refine tk 12 ?_
    simp only [tkS]
    refine tk 13 ?_
    simp only [tkS]
    refine tk 14 ?_
    simp only [tkS]
    refine tk 15 ?_
    simp only [tkS]
    refine tk 16 ?_
    simp only [tkS]
    refine tk 17 ?_
    simp only [tkS]
    refine tk 18 ?_
    simp only [tkS]
    refine tk 19 ?_
    simp only [tkS]
    refine tk 20 ?_
    simp only [tkS]
    refine tk 21 ?_
    simp only [tkS]
    refine wpAnyH_ready (rs:=[22]) (by kernel_rfl) (by simp) ?_
    refine AllReadyH.cons (o:=_) rfl (fun K hK => ?_) AllReadyH.nil
    go_simp
    go_at_call 123
    refine (HL.out _).mono ?_
    rintro e w' ⟨rfl,rfl⟩
    refine hK.out _ _ (by assumption) (fun hHeld => ?_)
    clear hK K
    try simp only [tkS]
    refine tk 23 ?_
    simp only [tkS]
    refine tk 24 ?_
    simp only [tkS]
    refine tk 25 ?_
    simp only [tkS]
    refine wpAnyH_ready (rs:=[26]) (by kernel_rfl) (by simp) ?_
    refine AllReadyH.cons (o:=_) rfl (fun K hK => ?_) AllReadyH.nil
    go_simp
    obtain ⟨wS,hwS⟩:∃ wS,wS=((((w4.setCell ⟨w.heap.size,0,none⟩ (.int .i64 2)).setCell ⟨w.heap.size,1,none⟩ (.string (s.extract k (k+n)))).setCell ⟨w.heap.size,2,none⟩ (.int .u64 (decV (Zam s k n):Nat))).setCell ⟨w.heap.size,3,none⟩ (.int .i64 k)).drew:=⟨_,rfl⟩
    obtain ⟨s1,s2,s3⟩:=Za5 K40.out hwS
    rw [←hwS]
    clear hwS
    have s2':=s2.trans K4.out
    refine hK.out _ _ ⟨Kaa _ _ 0 _ _ _ s2',Kaa _ _ 1 _ _ _ s2',Kaa _ _ 2 _ _ _ s2',Kaa _ _ 3 _ _ _ s2'⟩ (fun hHeld => ?_)
    clear hK K
    try simp only [tkS]
    refine tk 27 (oi:=⟨some 5,_,_,_,_,_⟩) ?_
    simp only [tkS]
    refine wpAnyH_done (by kernel_rfl) ?_ _
    have d0:=Kaa _ _ 0 _ _ _ s1
    have d1:=Kaa _ _ 1 _ _ _ s1
    have d2:=Kaa _ _ 2 _ _ _ s1
    have d3:=Kaa _ _ 3 _ _ _ s1
    have HBS:=hid (s3 w.heap.size w HB4.out (Kag _))
    clear s1 s2 s2' s3 hHeld
    go_wp2
    exact bodyPost_ret (v:=.tuple #[.agg #[.int .i64 2,.string (s.extract k (k+n)),.int .u64 (decV (Zam s k n):Nat),.int .i64 k],.bool false]) (by simp [results,Tryz.results82,go_sem,d0,d1,d2,d3]) rfl ⟨HBS.out,_,_,_,_,_,rfl,Or.inl ⟨by rw [HB.out,if_neg (fun h=>by rw [HA.out] at h;exact absurd h.2 (by simp))],rfl⟩⟩
 ·refine wp_region_held_drew (S:=(fun w'=>w'.cell? ⟨w.heap.size+1,0,none⟩=some (.int .i64 2)∧w'.cell? ⟨w.heap.size+1,1,none⟩=some (.string (s.extract k (k+n)))∧w'.cell? ⟨w.heap.size+1,2,none⟩=some (.int .u64 (decV (Zam s k n):Nat))∧w'.cell? ⟨w.heap.size+1,3,none⟩=some (.int .i64 k))) (by kernel_rfl) hS.out (fun hHeld => ?_)
  refine tk 0 ?_
  simp only [tkS]
  refine tk 1 ?_
  simp only [tkS]
  refine tk 2 ?_
  simp only [tkS]
  refine tk 3 ?_
  simp only [tkS]
  refine tk 4 ?_
  simp only [tkS]
  refine tk 5 ?_
  simp only [tkS]
  refine tk 6 ?_
  simp only [tkS]
  refine tk 7 ?_
  simp only [tkS]
  refine tk 8 ?_
  simp only [tkS]
  refine tk 9 ?_
  simp only [tkS]
  refine tk 10 ?_
  simp only [tkS]
  refine tk 11 ?_
  simp only [tkS]
  refine tk 12 ?_
  simp only [tkS]
  refine tk 13 ?_
  simp only [tkS]
  refine tn 14 ?_
  simp only [tkS]
  refine tn 15 ?_
  simp only [tkS]
  refine tn 16 ?_
  simp only [tkS]
  refine tn 17 ?_
  simp only [tkS]
  refine tn 18 ?_
  simp only [tkS]
  refine tn 19 ?_
  simp only [tkS]
  refine tn 20 ?_
  simp only [tkS]
  refine tn 21 ?_
  simp only [tkS]
  refine tn 22 ?_
  simp only [tkS]
  refine tn 23 ?_
  simp only [tkS]
  refine tn 24 ?_
  simp only [tkS]
  refine tk 25 ?_
  simp only [tkS]
  refine wpAnyH_ready (rs:=[26]) (by kernel_rfl) (by simp) ?_
  refine AllReadyH.cons (o:=_) rfl (fun K hK => ?_) AllReadyH.nil
  go_simp
  obtain ⟨wS,hwS⟩:∃ wS,wS=((((w4.setCell ⟨w.heap.size,0,none⟩ (.int .i64 2)).setCell ⟨w.heap.size,1,none⟩ (.string (s.extract k (k+n)))).setCell ⟨w.heap.size,2,none⟩ (.int .u64 (decV (Zam s k n):Nat))).setCell ⟨w.heap.size,3,none⟩ (.int .i64 k)).drew:=⟨_,rfl⟩
  obtain ⟨s1,s2,s3⟩:=Za5 K40.out hwS
  rw [←hwS]
  clear hwS
  have s2':=s2.trans K4.out
  refine hK.out _ _ ⟨Kaa _ _ 0 _ _ _ s2',Kaa _ _ 1 _ _ _ s2',Kaa _ _ 2 _ _ _ s2',Kaa _ _ 3 _ _ _ s2'⟩ (fun hHeld => ?_)
  clear hK K
  try simp only [tkS]
  refine tk 27 (oi:=⟨some 5,_,_,_,_,_⟩) ?_
  simp only [tkS]
  refine wpAnyH_done (by kernel_rfl) ?_ _
  have d0:=Kaa _ _ 0 _ _ _ s1
  have d1:=Kaa _ _ 1 _ _ _ s1
  have d2:=Kaa _ _ 2 _ _ _ s1
  have d3:=Kaa _ _ 3 _ _ _ s1
  have HBS:=hid (s3 w.heap.size w HB4.out (Kag _))
  clear s1 s2 s2' s3 hHeld
  go_wp2
  exact bodyPost_ret (v:=.tuple #[.agg #[.int .i64 2,.string (s.extract k (k+n)),.int .u64 (decV (Zam s k n):Nat),.int .i64 k],.bool false]) (by simp [results,Tryz.results82,go_sem,d0,d1,d2,d3]) rfl ⟨HBS.out,_,_,_,_,_,rfl,Or.inl ⟨by rw [HB.out,if_neg (fun h=>by rcases h.1 with h1 | h1;exact h1 HZ.out;exact HN1.out h1)],rfl⟩⟩
theorem Zjl (s:ByteArray) (k:Nat) (w:World) (hs:s.size≤100000) (hk:k<s.size) (hd:digB s[k]=true) (hv:¬ decV (Zam s k (Zax digB s k))<18446744073709551616) (ht:ErrT w):
  Calls Tryz.prog 82 #[.string s,.int .i64 k] w (Ze9 w s k):=by
 obtain ⟨n,hn⟩:∃ n,n=Zax digB s k:=⟨_,rfl⟩
 have hn1:1≤n:=by rw [hn,Zbw digB s hk hd];omega
 have hnk:=Zce digB s (Nat.le_of_lt hk)
 rw [←hn] at hv hnk
 have hall:=Ze8 digB s k
 rw [←hn] at hall
 have hlen:=ZcS s hnk
 have hpar:Lib.parseUintB 64 (s.extract k (k+n)).data.toList=.range:=by
  rw [ZaF]
  exact Zgx (by intro e;rw [e] at hlen;simp at hlen;omega) hall hv
 obtain ⟨te,pe,hcell⟩:=ht
 have hlt:=World.block_lt_of_cell? w _ hcell
 have hp0:=fun (W:World) (hW:Below w.heap.size w W) => Tryz.strconv_ParseUint_10_at64_range (s.extract k (k+n)) (by rw [ByteArray.size_extract];omega) hpar (.iface te pe) W ((hW.cell (p:=⟨3,0,none⟩) hlt).trans hcell) (.inr ⟨te,pe,rfl⟩)
 obtain ⟨M,hM⟩:∃ M:Int,∀ (W:World),Below w.heap.size w W→Calls Tryz.prog 122 #[.string (s.extract k (k+n)),.int .i64 10,.int .i64 64] W fun e w'=>∃ t v,e=.returned (.tuple #[.int .u64 M,.iface t v])∧Below W.heap.size W w':=
  ⟨_,fun W hW=>(hp0 W hW).mono fun e w' ⟨N,he,_,_,hb⟩=>⟨_,_,he,hb⟩⟩
 have hp:=hid hM
 have hone:oneM s k=none:=by
  unfold oneM
  rw [dif_pos hk,if_pos hd,←hn,if_neg (fun h=>hv h.1)]
 have HONE:=hid hone
 clear hp0 hM hcell hlt hone
 have hdig:=Zcd s[k]
 rw [hd] at hdig
 have HD:=hid hdig
 have HN:=hid hn
 have HDG:=hid hd
 have HR:=hid (fun W=>ZfH s k W hs (Nat.le_of_lt hk))
 clear hpar hall hlen hdig hn hd
 go_enter Tryz.func82,Tryz.ntmps82
 go_wp2_with fail
 refine (HD.out _).mono ?_
 rintro e w1 ⟨rfl,rfl⟩
 go_wp2_with fail
 refine (HR.out _).mono ?_
 rintro e w2 ⟨rfl,rfl⟩
 rw [←HN.out]
 go_wp2_with fail
 refine (hp.out _ (ZbK w _)).mono ?_
 rintro e w3 ⟨tv,xv,rfl,hb3⟩
 have k0:=(hb3.block w.heap.size (by simp;omega)).trans (Zb9 w _).1
 have k1:=(hb3.block (w.heap.size+1) (by simp)).trans (Zb9 w _).2
 have HB3:=hid ((ZbK w _).trans (hb3.mono (by simp;omega)))
 clear hb3 hp
 have c0:=Kaa _ _ 0 _ _ _ k1
 have c1:=Kaa _ _ 1 _ _ _ k1
 have c2:=Kaa _ _ 2 _ _ _ k1
 have c3:=Kaa _ _ 3 _ _ _ k1
 have f0:=Zar k1 0
 have f2:=Zar k1 2
 have K0:=hid k0
 have K1:=hid k1
 clear k0 k1
 go_wp2_with fail
 obtain ⟨w4,hw4⟩:∃ w4,w4=(w3.setCell ⟨w.heap.size+1,0,none⟩ (.int .i64 2)).setCell ⟨w.heap.size+1,2,none⟩ (.int .u64 M):=⟨_,rfl⟩
 rw [←hw4]
 have k4:w4.heap[w.heap.size+1]?=some (.cells #[.int .i64 2,.string (s.extract k (k+n)),.int .u64 M,.int .i64 k] 155 (0,0)):=by
  rw [hw4,heap_setCell_same _ _ _ _ _ _ (heap_setCell_same _ _ _ _ _ _ K1.out)]
  rfl
 have k40:w4.heap[w.heap.size]?=some tokZ:=by
  rw [hw4,Zcf _ _ _ (by simp),Zcf _ _ _ (by simp)]
  exact K0.out
 have HB4:=hid (show Below w.heap.size w w4 from by rw [hw4];exact (HB3.out.setCell (by simp) _).setCell (by simp) _)
 clear hw4 c0 c1 c2 c3 f0 f2
 have hS:=hid (And.intro (Kaa w4.drew _ 0 _ _ _ k4) (And.intro (Kaa w4.drew _ 1 _ _ _ k4) (And.intro (Kaa w4.drew _ 2 _ _ _ k4) (Kaa w4.drew _ 3 _ _ _ k4))))
 have z0:=Kaa w4 _ 0 _ _ _ k40
 have z1:=Kaa w4 _ 1 _ _ _ k40
 have z2:=Kaa w4 _ 2 _ _ _ k40
 have z3:=Kaa w4 _ 3 _ _ _ k40
 have y0:=Zar k40 0
 have y1:=Zar k40 1
 have y2:=Zar k40 2
 have y3:=Zar k40 3
 have K4:=hid k4
 have K40:=hid k40
 clear k4 k40
 refine wp_region_held_drew (S:=(fun w'=>w'.cell? ⟨w.heap.size+1,0,none⟩=some (.int .i64 2)∧w'.cell? ⟨w.heap.size+1,1,none⟩=some (.string (s.extract k (k+n)))∧w'.cell? ⟨w.heap.size+1,2,none⟩=some (.int .u64 M)∧w'.cell? ⟨w.heap.size+1,3,none⟩=some (.int .i64 k))) (by kernel_rfl) hS.out (fun hHeld => ?_)
 refine tk 0 ?_
 simp only [tkS]
 refine tk 1 ?_
 simp only [tkS]
 refine tk 2 ?_
 simp only [tkS]
 refine tk 3 ?_
 simp only [tkS]
 refine tn 4 ?_
 simp only [tkS]
 refine tn 5 ?_
 simp only [tkS]
 refine tn 6 ?_
 simp only [tkS]
 refine tn 7 ?_
 simp only [tkS]
 refine tn 8 ?_
 simp only [tkS]
 refine tn 9 ?_
 simp only [tkS]
 refine tn 10 ?_
 simp only [tkS]
 refine tn 11 ?_
 simp only [tkS]
 refine tk 12 ?_
 simp only [tkS]
 refine tk 13 ?_
 simp only [tkS]
 refine tn 14 ?_
 simp only [tkS]
 refine tn 15 ?_
 simp only [tkS]
 refine tn 16 ?_
 simp only [tkS]
 refine tn 17 ?_
 simp only [tkS]
 refine tn 18 ?_
 simp only [tkS]
 refine tn 19 ?_
 simp only [tkS]
 refine tn 20 ?_
 simp only [tkS]
 refine tn 21 ?_
 simp only [tkS]
 refine tn 22 ?_
 simp only [tkS]
 refine tn 23 ?_
 simp only [tkS]
 refine tn 24 ?_
 simp only [tkS]
 refine tk 25 ?_
 simp only [tkS]
 refine wpAnyH_ready (rs:=[26]) (by kernel_rfl) (by simp) ?_
 refine AllReadyH.cons (o:=_) rfl (fun K hK => ?_) AllReadyH.nil
 go_simp
 obtain ⟨wS,hwS⟩:∃ wS,wS=((((w4.setCell ⟨w.heap.size,0,none⟩ (.int .i64 2)).setCell ⟨w.heap.size,1,none⟩ (.string (s.extract k (k+n)))).setCell ⟨w.heap.size,2,none⟩ (.int .u64 M)).setCell ⟨w.heap.size,3,none⟩ (.int .i64 k)).drew:=⟨_,rfl⟩
 obtain ⟨s1,s2,s3⟩:=Za5 K40.out hwS
 rw [←hwS]
 clear hwS
 have s2':=s2.trans K4.out
 refine hK.out _ _ ⟨Kaa _ _ 0 _ _ _ s2',Kaa _ _ 1 _ _ _ s2',Kaa _ _ 2 _ _ _ s2',Kaa _ _ 3 _ _ _ s2'⟩ (fun hHeld => ?_)
 clear hK K
 try simp only [tkS]
 refine tk 27 (oi:=⟨some 5,_,_,_,_,_⟩) ?_
 simp only [tkS]
 refine wpAnyH_done (by kernel_rfl) ?_ _
 have d0:=Kaa _ _ 0 _ _ _ s1
 have d1:=Kaa _ _ 1 _ _ _ s1
 have d2:=Kaa _ _ 2 _ _ _ s1
 have d3:=Kaa _ _ 3 _ _ _ s1
 have HBS:=hid (s3 w.heap.size w HB4.out (Kag _))
 clear s1 s2 s2' s3 hHeld
 go_wp2
 exact bodyPost_ret (v:=.tuple #[.agg #[.int .i64 2,.string (s.extract k (k+n)),.int .u64 M,.int .i64 k],.bool false]) (by simp [results,Tryz.results82,go_sem,d0,d1,d2,d3]) rfl ⟨HBS.out,_,_,_,_,_,rfl,Or.inl ⟨HONE.out,rfl⟩⟩
end Go.Proofs.YtghlnncfigkkaaaGreatDoor
