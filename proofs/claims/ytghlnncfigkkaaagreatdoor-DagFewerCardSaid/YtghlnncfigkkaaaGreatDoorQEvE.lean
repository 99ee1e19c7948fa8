/-
 Walks of the evaluator's argmax and mat.
-/
import Derived.Test.YtghlnncfigkkaaaGreatDoorQNum
import Derived.Test.YtghlnncfigkkaaaGreatDoorQChkA
import Derived.Test.YtghlnncfigkkaaaGreatDoorQLabL
import Derived.Test.YtghlnncfigkkaaaGreatDoorQEvL
import Derived.BigQuiet
import Derived.Deep.RegionHeld3
import Derived.RegionTactic
set_option maxRecDepth 100000
set_option maxHeartbeats 1000000
open Go.Lib (hid)
namespace Go.Proofs.YtghlnncfigkkaaaGreatDoor
set_option linter.unusedVariables false
set_option linter.unusedSimpArgs false
open Go.RowKit
attribute [local go_sem ↓] ZbA Zch
theorem Zew (l:List UInt64) {i:Nat} (h:i<l.length) (best:Nat):argGo l (l.length-i) best=argGo l (l.length-(i+1)) (if sltW (nthW l best) (nthW l i) then i else best):=by
 obtain ⟨k,hk⟩:∃ k,l.length-i=k+1:=⟨l.length-i-1,by omega⟩
 rw [hk,show l.length-(i+1)=k by omega]
 show argGo l k (if sltW (nthW l best) (nthW l (l.length-(k+1))) then l.length-(k+1) else best)=_
 rw [show l.length-(k+1)=i by omega]
theorem Zk8 {x y:UInt64} (h:sltW x y=true) (w:World):Calls Tryz.prog 183 #[U x,U y] w fun e w'=>e=.returned (.int .u64 1)∧w=w':=by
 have:=Zd9 x y w
 rw [h] at this
 exact this
theorem ZiG {x y:UInt64} (h:sltW x y=false) (w:World):Calls Tryz.prog 183 #[U x,U y] w fun e w'=>e=.returned (.int .u64 0)∧w=w':=by
 have:=Zd9 x y w
 rw [h] at this
 exact this
theorem Zk9 {w w3 W W':World} {v v':Value} (h:W.cell? ⟨w.heap.size,1,none⟩=some v∧W.cell? ⟨w.heap.size+1,1,none⟩=some v'∧w.heap.size+1<W.heap.size∧Below w3.heap.size w3 W) (hb:Below W.heap.size W W'):
  W'.cell? ⟨w.heap.size,1,none⟩=some v∧W'.cell? ⟨w.heap.size+1,1,none⟩=some v'∧w.heap.size+1<W'.heap.size∧Below w3.heap.size w3 W':=
 ⟨(hb.cell (p:=⟨w.heap.size,1,none⟩) (show w.heap.size<_ by omega)).trans h.1,(hb.cell (p:=⟨w.heap.size+1,1,none⟩) h.2.2.1).trans h.2.1,Kae h.2.2.1 hb.size,bnext h.2.2.2 hb⟩
theorem ZgZ {n:Nat} (h:n≤1000000):IntKind.u64.wrap (n:Int)=(n:Int):=by rw [wrapN];omega
theorem ZdJ {n:Nat} (h:n≤1000000):((UInt64.ofNat n).toNat:Int)=(n:Int):=by
 rw [UInt64.toNat_ofNat']
 omega
theorem Zh9 (A:Option Addr) (n c:Nat) (l:List UInt64) (w:World) (hn:n=l.length) (hn1:1≤n) (hn2:n≤1000) (h:Rd w w.heap.size A (l.map U)):
  Calls Tryz.prog 155 #[.slice A n c] w fun e w'=>e=.returned (U (UInt64.ofNat (argP l)))∧∃ q,w'=w.drewN q:=by
 have HN:=hid hn
 have H:=hid h
 clear hn h
 go_enter Tryz.func155,Tryz.ntmps155
 go_wp2
 go_loopw [3,7] (fun bv iv wr=>(∃ i b:Nat,i≤n∧b<n∧iv=.int .i64 i∧bv=.int .i64 b∧argP l=argGo l (n-i) b)∧∃ q,wr=w.drewN q) (fun _ iv _=>n-(intOf iv).toNat)
 case atStart=>exact ⟨⟨0,0,by omega,by omega,rfl,rfl,by rw [HN.out];rfl⟩,0,rfl⟩
 case round=>
  obtain ⟨⟨i,b,hi,hb,rfl,rfl,hr⟩,q,hq⟩:=hrel
  have HR:=hid hr
  have HQ:=hid hq
  have HL:=hid (show Rd wr w.heap.size A (l.map U) from by rw [hq];exact H.out.drewN q)
  clear hr hq
  by_cases hlt:i<n
  ·obtain ⟨bx,ox,rfl,hbx,cx⟩:=HL.out.word (k:=b) (by rw [←HN.out];exact hb)
   obtain ⟨by_,oy,e2,hby,cy⟩:=HL.out.word (k:=i) (by rw [←HN.out];exact hlt)
   injection e2 with e2
   injection e2 with e2 e3 _
   subst e2 e3
   have i0:(0:Int)≤(i:Int):=by omega
   have i1:(i:Int)<(n:Int):=by omega
   have b0:(0:Int)≤(b:Int):=by omega
   have b1:(b:Int)<(n:Int):=by omega
   have hstep:=Zew l (i:=i) (by rw [←HN.out];exact hlt) b
   rw [←HN.out] at hstep
   cases hs:sltW (nthW l b) (nthW l i) with
   | true=>
    rw [hs,if_pos rfl] at hstep
    have HX:=hid (HR.out.trans hstep)
    have HC:=hid (fun W=>Zk8 hs W)
    clear hs hstep
    go_wp2_with fail
    go_quiet ((go_at_call 183;exact Calls.quiet_of_same (Zav (HC.out _))))
    go_wp2
    exact ⟨⟨⟨i+1,i,by omega,by omega,rfl,rfl,HX.out⟩,_,by rw [HQ.out];exact World.drewN_drewN _ _ _⟩,by simp [intOf];omega⟩
   | false=>
    rw [hs,if_neg (by decide)] at hstep
    have HX:=hid (HR.out.trans hstep)
    have HC:=hid (fun W=>ZiG hs W)
    clear hs hstep
    go_wp2_with fail
    go_quiet ((go_at_call 183;exact Calls.quiet_of_same (Zav (HC.out _))))
    go_wp2
    exact ⟨⟨⟨i+1,b,by omega,hb,rfl,rfl,HX.out⟩,_,by rw [HQ.out];exact World.drewN_drewN _ _ _⟩,by simp [intOf];omega⟩
  ·obtain rfl:n=i:=by omega
   have hw:=ZgZ (n:=b) (by omega)
   have HX:=hid (show argP l=b from by
    rw [HR.out,Nat.sub_self]
    rfl)
   have HY:=hid (ZdJ (n:=b) (by omega))
   go_wp2
   go_ret
   exact ⟨by rw [HX.out];exact congrArg (fun z=>Ending.returned (.int .u64 z)) HY.out.symm,q,HQ.out⟩
theorem ZkA (A1 A2 A3 A4:Option Addr) (c1 c2 c3 c4 s1 s3 n2 n4:Nat) (ys:List Int) (x y:List UInt64) (m k n:Nat) (w:World)
  (hm1:1≤m) (hm:m≤1024) (hk1:1≤k) (hk:k≤1024) (hn1:1≤n) (hn:n≤1024) (hx:x.length=m*k) (hy:y.length=k*n) (h2:n2=x.length) (h4:n4=y.length)
  (hs3:s3=ys.length) (hys:ys[0]?=some (k:Int)) (hys2:ys.length≤2) (d1:n2 / k=m) (d2:n4 / k=n)
  (hA2:Rd w w.heap.size A2 (x.map U)) (hA3:Rd w w.heap.size A3 (ys.map VI)) (hA4:Rd w w.heap.size A4 (y.map U)):
  Calls Tryz.prog 153 #[.agg #[.slice A1 s1 c1,.slice A2 n2 c2],.agg #[.slice A3 s3 c3,.slice A4 n4 c4]] w fun e w'=>
   ∃ g,e=.returned (.slice (some ⟨g,0,none⟩) (m*n) (m*n))∧BlkW w' 39 g (matW x y m k n)∧w.heap.size≤g∧Below w.heap.size w w':=by
 have hmn:m*n≤1048576:=Nat.mul_le_mul hm hn
 have hmk:m*k≤1048576:=Nat.mul_le_mul hm hk
 have hkn:k*n≤1048576:=Nat.mul_le_mul hk hn
 obtain ⟨b,o,hA3e,hb,c0⟩:=hA3.at_ (show (ys.map VI)[0]?=some (VI (k:Int)) by rw [Kal,hys];rfl)
 have c0':w.cell? ⟨b,o,none⟩=some (.int .i64 (k:Int)):=c0
 have hs30:(0:Int)<(s3:Int):=by
  have:=(Kaf.1 hys).1
  omega
 have e1:(n2:Int) / (k:Int)=(m:Int):=by rw [←d1];exact (Int.natCast_ediv _ _).symm
 have e2:(n4:Int) / (k:Int)=(n:Int):=by rw [←d2];exact (Int.natCast_ediv _ _).symm
 have k0:((k:Int)==0)=false:=by rw [Kaj];omega
 have HM:=hid (fun W (hW:Below w.heap.size w W)=>Zm7 A2 A4 c2 c4 x y m k n W hm1 hm hk1 hk hn1 hn hx hy (hA2.next hW) (hA4.next hW))
 rw [←h2,←h4] at HM
 have H2:=hid h2
 have H4:=hid h4
 clear hx hy hA2 hA3 hA4 hs3 hys2 h2 h4 c0
 have hw1:IntKind.i64.wrap ((n2:Int) / (k:Int))=(m:Int):=by rw [e1];exact ZaE (by omega) (by omega)
 have hw2:IntKind.i64.wrap ((n4:Int) / (k:Int))=(n:Int):=by rw [e2];exact ZaE (by omega) (by omega)
 have kz:¬ k=0:=by omega
 subst hA3e
 obtain ⟨w3,hw3⟩:∃ w3,w3=(w.alloc (.cells #[.slice A1 s1 c1,.slice A2 n2 c2] 43)).alloc (.cells #[.slice (some ⟨b,o,none⟩) s3 c3,.slice A4 n4 c4] 43):=⟨_,rfl⟩
 have hb3:Below w.heap.size w w3:=by rw [hw3];exact ((Kai _ _).alloc (Kag _) _).alloc (by simp) _
 have g0:w3.heap[w.heap.size]?=some (.cells #[.slice A1 s1 c1,.slice A2 n2 c2] 43 (0,0)):=by
  rw [hw3,Below.heap_alloc _ _ _ (by simp)];exact Kac w _
 have g1:w3.heap[w.heap.size+1]?=some (.cells #[.slice (some ⟨b,o,none⟩) s3 c3,.slice A4 n4 c4] 43 (0,0)):=by
  rw [hw3]
  have:=Kac (w.alloc (.cells #[.slice A1 s1 c1,.slice A2 n2 c2] 43)) (.cells #[.slice (some ⟨b,o,none⟩) s3 c3,.slice A4 n4 c4] 43)
  rwa [World.size_alloc] at this
 have S0:=hid (show w3.drew.cell? ⟨w.heap.size,1,none⟩=some (.slice A2 n2 c2)∧w3.drew.cell? ⟨w.heap.size+1,1,none⟩=some (.slice A4 n4 c4)∧w.heap.size+1<w3.drew.heap.size∧Below w3.heap.size w3 w3.drew from ⟨Kaa _ _ 1 _ _ _ g0,Kaa _ _ 1 _ _ _ g1,(Kab.1 g1).1,(Kai _ _).drew⟩)
 have HB3:=hid hb3
 have HW3:=hid hw3
 clear hw3 hb3 g0 g1 d1 d2 hys e1 e2
 go_enter Tryz.func153,Tryz.ntmps153
 go_wp2_with fail
 rw [←HW3.out]
 go_region_held3 (fun w'=>w'.cell? ⟨w.heap.size,1,none⟩=some (.slice A2 n2 c2)∧w'.cell? ⟨w.heap.size+1,1,none⟩=some (.slice A4 n4 c4)∧w.heap.size+1<w'.heap.size∧Below w3.heap.size w3 w') (first | with_reducible exact S0.out | assumption | exact Zk9 (by assumption) (by assumption))
  (first | (go_at_call 182;refine (HM.out _ ?_).mono ?_;(refine bnext HB3.out ?_;apply And.right;apply And.right;apply And.right;assumption);rintro e w4 ⟨rfl,hk4,hb4⟩))
 all_goals
  go_wp2
  go_ret
  exact ⟨_,rfl,hk4,HB3.out.size,bnext HB3.out ((Kai _ _).drew.trans hb4)⟩
end Go.Proofs.YtghlnncfigkkaaaGreatDoor
namespace Go.Proofs.YtghlnncfigkkaaaGreatDoor
open Go.RowKit
attribute [local go_sem ↓] ZbA Zch
def fillW (L:List UInt64) (i:Nat):List UInt64:=(List.range L.length).map fun p=>if p<i then nthW L p else 0
theorem Zbb (L:List UInt64) (i:Nat):(fillW L i).length=L.length:=by unfold fillW;simp
theorem Zex (L:List UInt64):ZbV L.length=fillW L 0:=by
 apply extW (by rw [Zbt,Zbb])
 intro p hp
 rw [Zbt] at hp
 unfold fillW
 rw [Ze3,Zat _ _ hp,if_neg (by omega)]
theorem Zey (L:List UInt64) {i:Nat} (h:i<L.length):(fillW L i).set i (nthW L i)=fillW L (i+1):=by
 apply extW (by rw [List.length_set,Zbb,Zbb])
 intro p hp
 rw [List.length_set,Zbb] at hp
 by_cases e:p=i
 ·subst e
  rw [ZcQ _ _ _ (by rw [Zbb];exact hp)]
  unfold fillW
  rw [Zat _ _ hp,if_pos (by omega)]
 ·rw [Zcx _ _ e]
  unfold fillW
  rw [Zat _ _ hp,Zat _ _ hp]
  by_cases h2:p<i
  ·rw [if_pos h2,if_pos (by omega)]
  ·rw [if_neg h2,if_neg (by omega)]
theorem Zez (L:List UInt64):fillW L L.length=L:=by
 apply extW (by rw [Zbb])
 intro p hp
 rw [Zbb] at hp
 unfold fillW
 rw [Zat _ _ hp,if_pos hp]
attribute [irreducible] fillW
theorem Zha (f:UInt64→UInt64→UInt64) (x y:List UInt64) {i:Nat} (h:i<max x.length y.length):nthW (eachP f x y) i=f (nthW x (min i (x.length-1))) (nthW y (min i (y.length-1))):=by
 unfold eachP
 rw [Zat _ _ h]
theorem ZiH (F:FuncId) (f:UInt64→UInt64→UInt64) (A A':Option Addr) (n m c c':Nat) (x y:List UInt64) (w:World) (hn:n=x.length) (hm:m=y.length) (hn1:1≤n) (hm1:1≤m) (hn2:n≤1000) (hm2:m≤1000) (hE:∀ (ys:Array Value) (W:World),(callFunc F ys).run Tryz.prog W=.ok (.enter F ys) W) (hF:∀ (a b:UInt64) (W:World),Below w.heap.size w W→Calls Tryz.prog F #[U a,U b] W fun e w'=>e=.returned (U (f a b))∧W=w') (h:Rd w w.heap.size A (x.map U)) (h':Rd w w.heap.size A' (y.map U)):
  Calls Tryz.prog 156 #[.slice A n c,.slice A' m c',(.func (.func F) #[] #[])] w fun e w'=>
   e=.returned (.slice (some ⟨w.heap.size,0,none⟩) (max n m) (max n m))∧BlkW w' 39 w.heap.size (eachP (f) x y)∧Below w.heap.size w w':=by
 obtain ⟨q,hq⟩:∃ q,q=max n m:=⟨_,rfl⟩
 obtain ⟨L,hL⟩:∃ L,L=eachP (f) x y:=⟨_,rfl⟩
 have hLl:L.length=q:=by rw [hL,ZbH,hq,hn,hm]
 have HNT:=hid (fun (i:Nat) (hi:i<q)=>(show nthW L i=(f) (nthW x (min i (n-1))) (nthW y (min i (m-1))) from by rw [hL,Zha _ _ _ (by rw [←hn,←hm,←hq];exact hi),hn,hm]))
 have HN:=hid hn
 have HM:=hid hm
 have HLL:=hid hLl
 have HX:=hid h
 have HY:=hid h'
 have HF:=hid hF
 clear hF
 have hmax:max (n:Int) (m:Int)=(q:Int):=by omega
 have hmk:=fun W=>Zdk q (by omega) W (q:Int) rfl
 obtain ⟨W0,hW0⟩:∃ W0,W0=w.alloc (.cells ((ZbV q).map U).toArray 39):=⟨_,rfl⟩
 have hb0:Below w.heap.size w W0:=by rw [hW0];exact (Kai _ _).alloc (Kag _) _
 have hz0:BlkW W0 39 w.heap.size (fillW L 0):=by
  rw [hW0,←Zex,hLl]
  exact Kac w _
 have hmk0:=hmk w
 rw [←hW0] at hmk0
 have HB0:=hid hb0
 have HZ0:=hid hz0
 rw [←hL,←hq]
 clear hmk hW0 hb0 hz0 hn hm h h' hL hLl hq
 go_enter Tryz.func156,Tryz.ntmps156
 go_wp2
 go_loopw [17] (fun iv wr=>(∃ i:Nat,i≤q∧iv=.int .i64 i∧BlkW wr 39 w.heap.size (fillW L i))∧Below w.heap.size w wr) (fun iv _=>q-(intOf iv).toNat)
 case atStart=>exact ⟨⟨0,by omega,rfl,HZ0.out⟩,HB0.out⟩
 case round=>
  clear hmk0 HB0 HZ0
  obtain ⟨⟨i,hi,rfl,hz⟩,hb⟩:=hrel
  have HZ:=hid hz
  have HB:=hid hb
  clear hz hb
  by_cases hlt:i<q
  ·obtain ⟨j,hj⟩:∃ j,j=min i (n-1):=⟨_,rfl⟩
   obtain ⟨k,hk⟩:∃ k,k=min i (m-1):=⟨_,rfl⟩
   have hmj:min (i:Int) ((n:Int)-1)=(j:Int):=by omega
   have hmk:min (i:Int) ((m:Int)-1)=(k:Int):=by omega
   have hwn:IntKind.i64.wrap ((n:Int)-1)=(n:Int)-1:=ZaE (by omega) (by omega)
   have hwm:IntKind.i64.wrap ((m:Int)-1)=(m:Int)-1:=ZaE (by omega) (by omega)
   have hjn:j<n:=by omega
   have hkm:k<m:=by omega
   obtain ⟨bx,ox,rfl,hbx,cx⟩:=(HX.out.below HB.out).word (k:=j) (by rw [←HN.out];exact hjn)
   obtain ⟨by_,oy,rfl,hby,cy⟩:=(HY.out.below HB.out).word (k:=k) (by rw [←HM.out];exact hkm)
   have co:=HZ.out.cell (k:=i) (by rw [Zbb,HLL.out];exact hlt)
   have fo:=HZ.out.free i
   have i0:(0:Int)≤(i:Int):=by omega
   have i1:(i:Int)<(q:Int):=by omega
   have j0:(0:Int)≤(j:Int):=by omega
   have j1:(j:Int)<(n:Int):=by omega
   have k0:(0:Int)≤(k:Int):=by omega
   have k1:(k:Int)<(m:Int):=by omega
   have hnt:=HNT.out i hlt
   simp only [←hj,←hk] at hnt
   have HT:=hid hnt
   have HS:=hid (Zey L (i:=i) (by rw [HLL.out];exact hlt))
   clear hnt hj hk
   go_wp2_with fail
   go_region_with (first | (with_reducible show Calls Tryz.prog F _ _ _;refine (HF.out _ _ _ ?_).mono ?_;(first | exact HB.out.drew | exact HB.out);rintro e w' ⟨rfl,rfl⟩))
   all_goals
    go_wp2
    refine ⟨⟨⟨i+1,by omega,rfl,?_⟩,?_⟩,by simp [intOf];omega⟩
    ·rw [←HS.out,HT.out]
     exact HZ.out.drewN _ |>.set _ _
    ·exact Zaf (Zaa HB.out _) (Kag _) _
  ·obtain rfl:q=i:=by omega
   go_wp2
   go_ret
   refine ⟨rfl,?_,HB.out⟩
   have:=HZ.out
   rw [←HLL.out,Zez] at this
   exact this
theorem ZiI (F:FuncId) (eb:Nat) (f:UInt64→UInt64→UInt64) (A A':Option Addr) (n m c c':Nat) (x y:List UInt64) (w:World) (hn:n=x.length) (hm:m=y.length) (hn1:1≤n) (hm1:1≤m) (hn2:n≤1000) (hm2:m≤1000) (hE:∀ (ys:Array Value) (W:World),(callFunc F ys).run Tryz.prog W=.ok (.enter F ys) W) (hF:∀ (a b:UInt64) (W:World),Below w.heap.size w W→Calls Tryz.prog F #[U a,U b,.pointer (some ⟨eb,0,none⟩)] W fun e w'=>e=.returned (U (f a b))∧W=w') (h:Rd w w.heap.size A (x.map U)) (h':Rd w w.heap.size A' (y.map U)):
  Calls Tryz.prog 156 #[.slice A n c,.slice A' m c',(.func (.func F) #[] #[.pointer (some ⟨eb,0,none⟩)])] w fun e w'=>
   e=.returned (.slice (some ⟨w.heap.size,0,none⟩) (max n m) (max n m))∧BlkW w' 39 w.heap.size (eachP (f) x y)∧Below w.heap.size w w':=by
 obtain ⟨q,hq⟩:∃ q,q=max n m:=⟨_,rfl⟩
 obtain ⟨L,hL⟩:∃ L,L=eachP (f) x y:=⟨_,rfl⟩
 have hLl:L.length=q:=by rw [hL,ZbH,hq,hn,hm]
 have HNT:=hid (fun (i:Nat) (hi:i<q)=>(show nthW L i=(f) (nthW x (min i (n-1))) (nthW y (min i (m-1))) from by rw [hL,Zha _ _ _ (by rw [←hn,←hm,←hq];exact hi),hn,hm]))
 have HN:=hid hn
 have HM:=hid hm
 have HLL:=hid hLl
 have HX:=hid h
 have HY:=hid h'
 have HF:=hid hF
 clear hF
 have hmax:max (n:Int) (m:Int)=(q:Int):=by omega
 have hmk:=fun W=>Zdk q (by omega) W (q:Int) rfl
 obtain ⟨W0,hW0⟩:∃ W0,W0=w.alloc (.cells ((ZbV q).map U).toArray 39):=⟨_,rfl⟩
 have hb0:Below w.heap.size w W0:=by rw [hW0];exact (Kai _ _).alloc (Kag _) _
 have hz0:BlkW W0 39 w.heap.size (fillW L 0):=by
  rw [hW0,←Zex,hLl]
  exact Kac w _
 have hmk0:=hmk w
 rw [←hW0] at hmk0
 have HB0:=hid hb0
 have HZ0:=hid hz0
 rw [←hL,←hq]
 clear hmk hW0 hb0 hz0 hn hm h h' hL hLl hq
 go_enter Tryz.func156,Tryz.ntmps156
 go_wp2
 go_loopw [17] (fun iv wr=>(∃ i:Nat,i≤q∧iv=.int .i64 i∧BlkW wr 39 w.heap.size (fillW L i))∧Below w.heap.size w wr) (fun iv _=>q-(intOf iv).toNat)
 case atStart=>exact ⟨⟨0,by omega,rfl,HZ0.out⟩,HB0.out⟩
 case round=>
  clear hmk0 HB0 HZ0
  obtain ⟨⟨i,hi,rfl,hz⟩,hb⟩:=hrel
  have HZ:=hid hz
  have HB:=hid hb
  clear hz hb
  by_cases hlt:i<q
  ·obtain ⟨j,hj⟩:∃ j,j=min i (n-1):=⟨_,rfl⟩
   obtain ⟨k,hk⟩:∃ k,k=min i (m-1):=⟨_,rfl⟩
   have hmj:min (i:Int) ((n:Int)-1)=(j:Int):=by omega
   have hmk:min (i:Int) ((m:Int)-1)=(k:Int):=by omega
   have hwn:IntKind.i64.wrap ((n:Int)-1)=(n:Int)-1:=ZaE (by omega) (by omega)
   have hwm:IntKind.i64.wrap ((m:Int)-1)=(m:Int)-1:=ZaE (by omega) (by omega)
   have hjn:j<n:=by omega
   have hkm:k<m:=by omega
   obtain ⟨bx,ox,rfl,hbx,cx⟩:=(HX.out.below HB.out).word (k:=j) (by rw [←HN.out];exact hjn)
   obtain ⟨by_,oy,rfl,hby,cy⟩:=(HY.out.below HB.out).word (k:=k) (by rw [←HM.out];exact hkm)
   have co:=HZ.out.cell (k:=i) (by rw [Zbb,HLL.out];exact hlt)
   have fo:=HZ.out.free i
   have i0:(0:Int)≤(i:Int):=by omega
   have i1:(i:Int)<(q:Int):=by omega
   have j0:(0:Int)≤(j:Int):=by omega
   have j1:(j:Int)<(n:Int):=by omega
   have k0:(0:Int)≤(k:Int):=by omega
   have k1:(k:Int)<(m:Int):=by omega
   have hnt:=HNT.out i hlt
   simp only [←hj,←hk] at hnt
   have HT:=hid hnt
   have HS:=hid (Zey L (i:=i) (by rw [HLL.out];exact hlt))
   clear hnt hj hk
   go_wp2_with fail
   go_region_with (first | (with_reducible show Calls Tryz.prog F _ _ _;refine (HF.out _ _ _ ?_).mono ?_;(first | exact HB.out.drew | exact HB.out);rintro e w' ⟨rfl,rfl⟩))
   all_goals
    go_wp2
    refine ⟨⟨⟨i+1,by omega,rfl,?_⟩,?_⟩,by simp [intOf];omega⟩
    ·rw [←HS.out,HT.out]
     exact HZ.out.drewN _ |>.set _ _
    ·exact Zaf (Zaa HB.out _) (Kag _) _
  ·obtain rfl:q=i:=by omega
   go_wp2
   go_ret
   refine ⟨rfl,?_,HB.out⟩
   have:=HZ.out
   rw [←HLL.out,Zez] at this
   exact this
end Go.Proofs.YtghlnncfigkkaaaGreatDoor
namespace Go.Proofs.YtghlnncfigkkaaaGreatDoor
open Go.RowKit
theorem ent_3 (ys:Array Value) (W:World):(callFunc 184 ys).run Tryz.prog W=.ok (.enter 184 ys) W:=by go_simp
theorem two_3 (dn:ByteArray) (du:Nat) (av:Value) (dp:Int) (w:World):Calls Tryz.prog 161 #[.agg #[.int .i64 3,.string dn,.int .u64 (du:Int),av,.int .i64 dp]] w fun e w'=>e=.returned (.func (.func 184) #[] #[])∧Below w.heap.size w w':=by
 have hc:=fun (v:Array Value)=>Kaa _ _ 0 _ _ _ (Kac w (.cells v 90))
 go_enter Tryz.func161,Tryz.ntmps161
 go_wp2
 go_ret
 exact ⟨rfl,(Kai _ _).alloc (Kag _) _⟩
theorem ent_4 (ys:Array Value) (W:World):(callFunc 185 ys).run Tryz.prog W=.ok (.enter 185 ys) W:=by go_simp
theorem two_4 (dn:ByteArray) (du:Nat) (av:Value) (dp:Int) (w:World):Calls Tryz.prog 161 #[.agg #[.int .i64 4,.string dn,.int .u64 (du:Int),av,.int .i64 dp]] w fun e w'=>e=.returned (.func (.func 185) #[] #[])∧Below w.heap.size w w':=by
 have hc:=fun (v:Array Value)=>Kaa _ _ 0 _ _ _ (Kac w (.cells v 90))
 go_enter Tryz.func161,Tryz.ntmps161
 go_wp2
 go_ret
 exact ⟨rfl,(Kai _ _).alloc (Kag _) _⟩
theorem ent_5 (ys:Array Value) (W:World):(callFunc 186 ys).run Tryz.prog W=.ok (.enter 186 ys) W:=by go_simp
theorem two_5 (dn:ByteArray) (du:Nat) (av:Value) (dp:Int) (w:World):Calls Tryz.prog 161 #[.agg #[.int .i64 5,.string dn,.int .u64 (du:Int),av,.int .i64 dp]] w fun e w'=>e=.returned (.func (.func 186) #[] #[])∧Below w.heap.size w w':=by
 have hc:=fun (v:Array Value)=>Kaa _ _ 0 _ _ _ (Kac w (.cells v 90))
 go_enter Tryz.func161,Tryz.ntmps161
 go_wp2
 go_ret
 exact ⟨rfl,(Kai _ _).alloc (Kag _) _⟩
theorem ent_6 (ys:Array Value) (W:World):(callFunc 187 ys).run Tryz.prog W=.ok (.enter 187 ys) W:=by go_simp
theorem two_6 (dn:ByteArray) (du:Nat) (av:Value) (dp:Int) (w:World):Calls Tryz.prog 161 #[.agg #[.int .i64 6,.string dn,.int .u64 (du:Int),av,.int .i64 dp]] w fun e w'=>e=.returned (.func (.func 187) #[] #[])∧Below w.heap.size w w':=by
 have hc:=fun (v:Array Value)=>Kaa _ _ 0 _ _ _ (Kac w (.cells v 90))
 go_enter Tryz.func161,Tryz.ntmps161
 go_wp2
 go_ret
 exact ⟨rfl,(Kai _ _).alloc (Kag _) _⟩
theorem ent_8 (ys:Array Value) (W:World):(callFunc 183 ys).run Tryz.prog W=.ok (.enter 183 ys) W:=by go_simp
theorem two_8 (dn:ByteArray) (du:Nat) (av:Value) (dp:Int) (w:World):Calls Tryz.prog 161 #[.agg #[.int .i64 8,.string dn,.int .u64 (du:Int),av,.int .i64 dp]] w fun e w'=>e=.returned (.func (.func 183) #[] #[])∧Below w.heap.size w w':=by
 have hc:=fun (v:Array Value)=>Kaa _ _ 0 _ _ _ (Kac w (.cells v 90))
 go_enter Tryz.func161,Tryz.ntmps161
 go_wp2
 go_ret
 exact ⟨rfl,(Kai _ _).alloc (Kag _) _⟩
theorem ent_9 (ys:Array Value) (W:World):(callFunc 188 ys).run Tryz.prog W=.ok (.enter 188 ys) W:=by go_simp
theorem two_9 (dn:ByteArray) (du:Nat) (av:Value) (dp:Int) (w:World):Calls Tryz.prog 161 #[.agg #[.int .i64 9,.string dn,.int .u64 (du:Int),av,.int .i64 dp]] w fun e w'=>e=.returned (.func (.func 188) #[] #[.pointer (some ⟨w.heap.size,0,none⟩)])∧Below w.heap.size w w'∧w'.cell? ⟨w.heap.size,2,none⟩=some (.int .u64 (du:Int))∧w.heap.size<w'.heap.size:=by
 have hc:=fun (v:Array Value)=>Kaa _ _ 0 _ _ _ (Kac w (.cells v 90))
 go_enter Tryz.func161,Tryz.ntmps161
 go_wp2
 go_ret
 exact ⟨rfl,(Kai _ _).alloc (Kag _) _,Kaa _ _ 2 _ _ _ (Kac w (.cells #[.int .i64 9,.string dn,.int .u64 (du:Int),av,.int .i64 dp] 90)),by simp⟩
theorem Znp (ys:Array Value) (W:World):(callFunc 190 ys).run Tryz.prog W=.ok (.enter 190 ys) W:=by go_simp
theorem Znq (dn:ByteArray) (du:Nat) (av:Value) (dp:Int) (w:World):Calls Tryz.prog 161 #[.agg #[.int .i64 10,.string dn,.int .u64 (du:Int),av,.int .i64 dp]] w fun e w'=>e=.returned (.func (.func 190) #[] #[])∧Below w.heap.size w w':=by
 have hc:=fun (v:Array Value)=>Kaa _ _ 0 _ _ _ (Kac w (.cells v 90))
 go_enter Tryz.func161,Tryz.ntmps161
 go_wp2
 go_ret
 exact ⟨rfl,(Kai _ _).alloc (Kag _) _⟩
theorem Znr (ys:Array Value) (W:World):(callFunc 191 ys).run Tryz.prog W=.ok (.enter 191 ys) W:=by go_simp
theorem Zns (dn:ByteArray) (du:Nat) (av:Value) (dp:Int) (w:World):Calls Tryz.prog 161 #[.agg #[.int .i64 13,.string dn,.int .u64 (du:Int),av,.int .i64 dp]] w fun e w'=>e=.returned (.func (.func 191) #[] #[])∧Below w.heap.size w w':=by
 have hc:=fun (v:Array Value)=>Kaa _ _ 0 _ _ _ (Kac w (.cells v 90))
 go_enter Tryz.func161,Tryz.ntmps161
 go_wp2
 go_ret
 exact ⟨rfl,(Kai _ _).alloc (Kag _) _⟩
theorem Znt (ys:Array Value) (W:World):(callFunc 157 ys).run Tryz.prog W=.ok (.enter 157 ys) W:=by go_simp
theorem Znu (ys:Array Value) (W:World):(callFunc 158 ys).run Tryz.prog W=.ok (.enter 158 ys) W:=by go_simp
theorem Znv (ys:Array Value) (W:World):(callFunc 160 ys).run Tryz.prog W=.ok (.enter 160 ys) W:=by go_simp
end Go.Proofs.YtghlnncfigkkaaaGreatDoor
