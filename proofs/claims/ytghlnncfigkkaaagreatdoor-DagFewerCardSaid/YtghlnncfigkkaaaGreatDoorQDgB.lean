/-
 Two nodes held together: dag.same.
-/
import Derived.Test.YtghlnncfigkkaaaGreatDoorQDgA
import Derived.Test.YtghlnncfigkkaaaGreatDoorQTree
import Derived.Test.YtghlnncfigkkaaaGreatDoorQChkQ
set_option maxRecDepth 100000
set_option maxHeartbeats 4000000
open Go.Lib (hid)
set_option linter.unusedVariables false
set_option linter.unusedSimpArgs false
namespace Go.Proofs.YtghlnncfigkkaaaGreatDoor
open Go.RowKit
theorem mapN_beq:∀ l l':List Nat,((l.map Int.ofNat)==(l'.map Int.ofNat))=(l==l')
 | [],[]=>rfl
 | [],_::_=>rfl
 | _::_,[]=>rfl
 | a::l,b::l'=>by
  have h:((Int.ofNat a==Int.ofNat b))=(a==b):=by
   by_cases e:a=b
   ·rw [e];simp
   ·rw [Kaj.2 e,Kaj]
    exact fun h=>e (Int.ofNat.inj h)
  show ((Int.ofNat a==Int.ofNat b)&&(l.map Int.ofNat==l'.map Int.ofNat))=((a==b)&&(l==l'))
  rw [h,mapN_beq l l']
theorem dsame_any (m m':ND × NV) (w:World) (h:NdR w m) (h':NdR w m'):Calls Tryz.prog 111 #[ndA m,ndA m'] w fun e w'=>e=.returned (.bool (decide (m.1=m'.1)))∧Below w.heap.size w w':=by
 obtain ⟨⟨kd,sh,ar,pa,ip,kk,el⟩,⟨sv,av,ev⟩⟩:=m
 obtain ⟨⟨kd',sh',ar',pa',ip',kk',el'⟩,⟨sv',av',ev'⟩⟩:=m'
 obtain ⟨l1,l2,l3,⟨A1,c1,e1,r1,_⟩,⟨A2,c2,e2,r2,_⟩,A3,c3,e3,r3,_⟩:=h
 obtain ⟨l1',l2',l3',⟨A1',c1',e1',r1',_⟩,⟨A2',c2',e2',r2',_⟩,A3',c3',e3',r3',_⟩:=h'
 dsimp only at l1 l2 l3 e1 e2 e3 r1 r2 r3 l1' l2' l3' e1' e2' e3' r1' r2' r3'
 subst e1 e2 e3 e1' e2' e3'
 rw [vnt_map] at r2 r2'
 obtain ⟨n1,hn1⟩:∃ n,n=sh.length:=⟨_,rfl⟩
 obtain ⟨n2,hn2⟩:∃ n,n=ar.length:=⟨_,rfl⟩
 obtain ⟨n3,hn3⟩:∃ n,n=el.length:=⟨_,rfl⟩
 obtain ⟨n1',hn1'⟩:∃ n,n=sh'.length:=⟨_,rfl⟩
 obtain ⟨n2',hn2'⟩:∃ n,n=ar'.length:=⟨_,rfl⟩
 obtain ⟨n3',hn3'⟩:∃ n,n=el'.length:=⟨_,rfl⟩
 rw [←hn1] at l1
 rw [←hn2] at l2
 rw [←hn3] at l3
 rw [←hn1'] at l1'
 rw [←hn2'] at l2'
 rw [←hn3'] at l3'
 obtain ⟨w2,hw2⟩:∃ w2,w2=(w.alloc (.cells #[.int .i64 kd,.slice A1 n1 c1,.slice A2 n2 c2,.int .i64 pa,.int .i64 ip,.int .i64 kk,.slice A3 n3 c3] 77)).alloc (.cells #[.int .i64 kd',.slice A1' n1' c1',.slice A2' n2' c2',.int .i64 pa',.int .i64 ip',.int .i64 kk',.slice A3' n3' c3'] 77):=⟨_,rfl⟩
 have hb2:Below w.heap.size w w2:=by rw [hw2];exact ((Kai _ _).alloc (Kag _) _).alloc (by simp) _
 have hA:w2.heap[w.heap.size]?=some (.cells #[.int .i64 kd,.slice A1 n1 c1,.slice A2 n2 c2,.int .i64 pa,.int .i64 ip,.int .i64 kk,.slice A3 n3 c3] 77 (0,0)):=by
  rw [hw2,Below.heap_alloc _ _ _ (by simp)];exact Kac w _
 have hI:w2.heap[w.heap.size+1]?=some (.cells #[.int .i64 kd',.slice A1' n1' c1',.slice A2' n2' c2',.int .i64 pa',.int .i64 ip',.int .i64 kk',.slice A3' n3' c3'] 77 (0,0)):=by
  rw [hw2]
  have:=Kac (w.alloc (.cells #[.int .i64 kd,.slice A1 n1 c1,.slice A2 n2 c2,.int .i64 pa,.int .i64 ip,.int .i64 kk,.slice A3 n3 c3] 77)) (.cells #[.int .i64 kd',.slice A1' n1' c1',.slice A2' n2' c2',.int .i64 pa',.int .i64 ip',.int .i64 kk',.slice A3' n3' c3'] 77)
  rwa [World.size_alloc] at this
 have HW2:=hid hw2
 have HB2:=hid hb2
 have HCA:=hid (fun W (hW:Below w2.heap.size w2 W)=>(hW.block _ (Kab.1 hA).1).trans hA)
 have HCI:=hid (fun W (hW:Below w2.heap.size w2 W)=>(hW.block _ (Kab.1 hI).1).trans hI)
 have HE1:=hid (fun W (hW:Below w2.heap.size w2 W)=>ZcA A1 A1' n1 n1' c1 c1' sh sh' W hn1 hn1' (by omega) (by omega) ((r1.next hb2).next hW) ((r1'.next hb2).next hW))
 have HE2:=hid (fun W (hW:Below w2.heap.size w2 W)=>ZcA A2 A2' n2 n2' c2 c2' (ar.map Int.ofNat) (ar'.map Int.ofNat) W (by rw [Kak];exact hn2) (by rw [Kak];exact hn2') (by omega) (by omega) ((r2.next hb2).next hW) ((r2'.next hb2).next hW))
 have HE3:=hid (fun W (hW:Below w2.heap.size w2 W)=>equalW_any A3 A3' n3 n3' c3 c3' el el' W hn3 hn3' (by omega) (by omega) ((r3.next hb2).next hW) ((r3'.next hb2).next hW))
 have HAR:=hid (show ((ar.map Int.ofNat)==(ar'.map Int.ofNat))=(ar==ar') from mapN_beq ar ar')
 unfold ndA
 dsimp only
 obtain ⟨R,hR⟩:∃ R,R=decide ((⟨kd,sh,ar,pa,ip,kk,el⟩:ND)=⟨kd',sh',ar',pa',ip',kk',el'⟩):=⟨_,rfl⟩
 rw [←hR]
 rw [←hn1,←hn2,←hn3,←hn1',←hn2',←hn3']
 clear hw2 hb2 hn1 hn2 hn3 hn1' hn2' hn3' r1 r2 r3 r1' r2' r3'
 by_cases d0:kd=kd'
 ·by_cases d1:pa=pa'
  ·by_cases d2:ip=ip'
   ·by_cases d3:kk=kk'
    ·by_cases d4:sh=sh'
     ·by_cases d5:ar=ar'
      ·by_cases d6:el=el'
       ·have HX:=hid (show R=true from hR.trans (decide_eq_true (by rw [d0,d1,d2,d3,d4,d5,d6])))
        have q0:((kd:Int)==(kd':Int))=true:=by rw [d0];simp
        have q1:((pa:Int)==(pa':Int))=true:=by rw [d1];simp
        have q2:((ip:Int)==(ip':Int))=true:=by rw [d2];simp
        have q3:((kk:Int)==(kk':Int))=true:=by rw [d3];simp
        have p0:=hid (show (sh==sh')=true from by rw [d4];simp)
        have p1:=hid (show (ar==ar')=true from by rw [d5];simp)
        have p2:=hid (show (el==el')=true from by rw [d6];simp)
        clear hR d0 d1 d2 d3 d4 d5 d6
        go_enter Tryz.func111,Tryz.ntmps111
        go_upto_region 1 with fail
        rw [←HW2.out]
        have B:=hid (Kai w2.heap.size w2)
        have za:=HCA.out w2 B.out
        have zi:=HCI.out w2 B.out
        have a0:=Kaa _ _ 0 _ _ _ za
        have b0:=Kaa _ _ 0 _ _ _ zi
        have a1:=Kaa _ _ 1 _ _ _ za
        have b1:=Kaa _ _ 1 _ _ _ zi
        have a2:=Kaa _ _ 2 _ _ _ za
        have b2:=Kaa _ _ 2 _ _ _ zi
        have a3:=Kaa _ _ 3 _ _ _ za
        have b3:=Kaa _ _ 3 _ _ _ zi
        have a4:=Kaa _ _ 4 _ _ _ za
        have b4:=Kaa _ _ 4 _ _ _ zi
        have a5:=Kaa _ _ 5 _ _ _ za
        have b5:=Kaa _ _ 5 _ _ _ zi
        have a6:=Kaa _ _ 6 _ _ _ za
        have b6:=Kaa _ _ 6 _ _ _ zi
        clear za zi
        go_wp2_with fail
        refine (HE1.out _ B.out).mono ?_
        rintro e w3 ⟨rfl,qq0,hq0⟩
        have B:=hid (show Below w2.heap.size w2 w3 from by rw [hq0];exact Zaa B.out _)
        rw [p0.out]
        clear a0 b0 a1 b1 a2 b2 a3 b3 a4 b4 a5 b5 a6 b6 hq0
        have za:=HCA.out w3 B.out
        have zi:=HCI.out w3 B.out
        have a0:=Kaa _ _ 0 _ _ _ za
        have b0:=Kaa _ _ 0 _ _ _ zi
        have a1:=Kaa _ _ 1 _ _ _ za
        have b1:=Kaa _ _ 1 _ _ _ zi
        have a2:=Kaa _ _ 2 _ _ _ za
        have b2:=Kaa _ _ 2 _ _ _ zi
        have a3:=Kaa _ _ 3 _ _ _ za
        have b3:=Kaa _ _ 3 _ _ _ zi
        have a4:=Kaa _ _ 4 _ _ _ za
        have b4:=Kaa _ _ 4 _ _ _ zi
        have a5:=Kaa _ _ 5 _ _ _ za
        have b5:=Kaa _ _ 5 _ _ _ zi
        have a6:=Kaa _ _ 6 _ _ _ za
        have b6:=Kaa _ _ 6 _ _ _ zi
        clear za zi
        go_wp2_with fail
        refine (HE2.out _ B.out).mono ?_
        rintro e w4 ⟨rfl,qq1,hq1⟩
        have B:=hid (show Below w2.heap.size w2 w4 from by rw [hq1];exact Zaa B.out _)
        rw [HAR.out]
        rw [p1.out]
        clear a0 b0 a1 b1 a2 b2 a3 b3 a4 b4 a5 b5 a6 b6 hq1
        have za:=HCA.out w4 B.out
        have zi:=HCI.out w4 B.out
        have a0:=Kaa _ _ 0 _ _ _ za
        have b0:=Kaa _ _ 0 _ _ _ zi
        have a1:=Kaa _ _ 1 _ _ _ za
        have b1:=Kaa _ _ 1 _ _ _ zi
        have a2:=Kaa _ _ 2 _ _ _ za
        have b2:=Kaa _ _ 2 _ _ _ zi
        have a3:=Kaa _ _ 3 _ _ _ za
        have b3:=Kaa _ _ 3 _ _ _ zi
        have a4:=Kaa _ _ 4 _ _ _ za
        have b4:=Kaa _ _ 4 _ _ _ zi
        have a5:=Kaa _ _ 5 _ _ _ za
        have b5:=Kaa _ _ 5 _ _ _ zi
        have a6:=Kaa _ _ 6 _ _ _ za
        have b6:=Kaa _ _ 6 _ _ _ zi
        clear za zi
        go_wp2_with fail
        refine (HE3.out _ B.out).mono ?_
        rintro e w5 ⟨rfl,qq2,hq2⟩
        have B:=hid (show Below w2.heap.size w2 w5 from by rw [hq2];exact Zaa B.out _)
        rw [p2.out]
        clear a0 b0 a1 b1 a2 b2 a3 b3 a4 b4 a5 b5 a6 b6 hq2
        have za:=HCA.out w5 B.out
        have zi:=HCI.out w5 B.out
        have a0:=Kaa _ _ 0 _ _ _ za
        have b0:=Kaa _ _ 0 _ _ _ zi
        have a1:=Kaa _ _ 1 _ _ _ za
        have b1:=Kaa _ _ 1 _ _ _ zi
        have a2:=Kaa _ _ 2 _ _ _ za
        have b2:=Kaa _ _ 2 _ _ _ zi
        have a3:=Kaa _ _ 3 _ _ _ za
        have b3:=Kaa _ _ 3 _ _ _ zi
        have a4:=Kaa _ _ 4 _ _ _ za
        have b4:=Kaa _ _ 4 _ _ _ zi
        have a5:=Kaa _ _ 5 _ _ _ za
        have b5:=Kaa _ _ 5 _ _ _ zi
        have a6:=Kaa _ _ 6 _ _ _ za
        have b6:=Kaa _ _ 6 _ _ _ zi
        clear za zi
        go_wp2
        go_ret
        exact ⟨congrArg (fun b=>Ending.returned (.bool b)) HX.out.symm,bnext HB2.out B.out⟩
       ·have HX:=hid (show R=false from hR.trans (decide_eq_false (fun e=>by injection e;contradiction)))
        have q0:((kd:Int)==(kd':Int))=true:=by rw [d0];simp
        have q1:((pa:Int)==(pa':Int))=true:=by rw [d1];simp
        have q2:((ip:Int)==(ip':Int))=true:=by rw [d2];simp
        have q3:((kk:Int)==(kk':Int))=true:=by rw [d3];simp
        have p0:=hid (show (sh==sh')=true from by rw [d4];simp)
        have p1:=hid (show (ar==ar')=true from by rw [d5];simp)
        have p2:=hid (show (el==el')=false from by rw [Kaj];exact d6)
        clear hR d0 d1 d2 d3 d4 d5 d6
        go_enter Tryz.func111,Tryz.ntmps111
        go_upto_region 1 with fail
        rw [←HW2.out]
        have B:=hid (Kai w2.heap.size w2)
        have za:=HCA.out w2 B.out
        have zi:=HCI.out w2 B.out
        have a0:=Kaa _ _ 0 _ _ _ za
        have b0:=Kaa _ _ 0 _ _ _ zi
        have a1:=Kaa _ _ 1 _ _ _ za
        have b1:=Kaa _ _ 1 _ _ _ zi
        have a2:=Kaa _ _ 2 _ _ _ za
        have b2:=Kaa _ _ 2 _ _ _ zi
        have a3:=Kaa _ _ 3 _ _ _ za
        have b3:=Kaa _ _ 3 _ _ _ zi
        have a4:=Kaa _ _ 4 _ _ _ za
        have b4:=Kaa _ _ 4 _ _ _ zi
        have a5:=Kaa _ _ 5 _ _ _ za
        have b5:=Kaa _ _ 5 _ _ _ zi
        have a6:=Kaa _ _ 6 _ _ _ za
        have b6:=Kaa _ _ 6 _ _ _ zi
        clear za zi
        go_wp2_with fail
        refine (HE1.out _ B.out).mono ?_
        rintro e w3 ⟨rfl,qq0,hq0⟩
        have B:=hid (show Below w2.heap.size w2 w3 from by rw [hq0];exact Zaa B.out _)
        rw [p0.out]
        clear a0 b0 a1 b1 a2 b2 a3 b3 a4 b4 a5 b5 a6 b6 hq0
        have za:=HCA.out w3 B.out
        have zi:=HCI.out w3 B.out
        have a0:=Kaa _ _ 0 _ _ _ za
        have b0:=Kaa _ _ 0 _ _ _ zi
        have a1:=Kaa _ _ 1 _ _ _ za
        have b1:=Kaa _ _ 1 _ _ _ zi
        have a2:=Kaa _ _ 2 _ _ _ za
        have b2:=Kaa _ _ 2 _ _ _ zi
        have a3:=Kaa _ _ 3 _ _ _ za
        have b3:=Kaa _ _ 3 _ _ _ zi
        have a4:=Kaa _ _ 4 _ _ _ za
        have b4:=Kaa _ _ 4 _ _ _ zi
        have a5:=Kaa _ _ 5 _ _ _ za
        have b5:=Kaa _ _ 5 _ _ _ zi
        have a6:=Kaa _ _ 6 _ _ _ za
        have b6:=Kaa _ _ 6 _ _ _ zi
        clear za zi
        go_wp2_with fail
        refine (HE2.out _ B.out).mono ?_
        rintro e w4 ⟨rfl,qq1,hq1⟩
        have B:=hid (show Below w2.heap.size w2 w4 from by rw [hq1];exact Zaa B.out _)
        rw [HAR.out]
        rw [p1.out]
        clear a0 b0 a1 b1 a2 b2 a3 b3 a4 b4 a5 b5 a6 b6 hq1
        have za:=HCA.out w4 B.out
        have zi:=HCI.out w4 B.out
        have a0:=Kaa _ _ 0 _ _ _ za
        have b0:=Kaa _ _ 0 _ _ _ zi
        have a1:=Kaa _ _ 1 _ _ _ za
        have b1:=Kaa _ _ 1 _ _ _ zi
        have a2:=Kaa _ _ 2 _ _ _ za
        have b2:=Kaa _ _ 2 _ _ _ zi
        have a3:=Kaa _ _ 3 _ _ _ za
        have b3:=Kaa _ _ 3 _ _ _ zi
        have a4:=Kaa _ _ 4 _ _ _ za
        have b4:=Kaa _ _ 4 _ _ _ zi
        have a5:=Kaa _ _ 5 _ _ _ za
        have b5:=Kaa _ _ 5 _ _ _ zi
        have a6:=Kaa _ _ 6 _ _ _ za
        have b6:=Kaa _ _ 6 _ _ _ zi
        clear za zi
        go_wp2_with fail
        refine (HE3.out _ B.out).mono ?_
        rintro e w5 ⟨rfl,qq2,hq2⟩
        have B:=hid (show Below w2.heap.size w2 w5 from by rw [hq2];exact Zaa B.out _)
        rw [p2.out]
        clear a0 b0 a1 b1 a2 b2 a3 b3 a4 b4 a5 b5 a6 b6 hq2
        have za:=HCA.out w5 B.out
        have zi:=HCI.out w5 B.out
        have a0:=Kaa _ _ 0 _ _ _ za
        have b0:=Kaa _ _ 0 _ _ _ zi
        have a1:=Kaa _ _ 1 _ _ _ za
        have b1:=Kaa _ _ 1 _ _ _ zi
        have a2:=Kaa _ _ 2 _ _ _ za
        have b2:=Kaa _ _ 2 _ _ _ zi
        have a3:=Kaa _ _ 3 _ _ _ za
        have b3:=Kaa _ _ 3 _ _ _ zi
        have a4:=Kaa _ _ 4 _ _ _ za
        have b4:=Kaa _ _ 4 _ _ _ zi
        have a5:=Kaa _ _ 5 _ _ _ za
        have b5:=Kaa _ _ 5 _ _ _ zi
        have a6:=Kaa _ _ 6 _ _ _ za
        have b6:=Kaa _ _ 6 _ _ _ zi
        clear za zi
        go_wp2
        go_ret
        exact ⟨congrArg (fun b=>Ending.returned (.bool b)) HX.out.symm,bnext HB2.out B.out⟩
      ·have HX:=hid (show R=false from hR.trans (decide_eq_false (fun e=>by injection e;contradiction)))
       have q0:((kd:Int)==(kd':Int))=true:=by rw [d0];simp
       have q1:((pa:Int)==(pa':Int))=true:=by rw [d1];simp
       have q2:((ip:Int)==(ip':Int))=true:=by rw [d2];simp
       have q3:((kk:Int)==(kk':Int))=true:=by rw [d3];simp
       have p0:=hid (show (sh==sh')=true from by rw [d4];simp)
       have p1:=hid (show (ar==ar')=false from by rw [Kaj];exact d5)
       clear hR d0 d1 d2 d3 d4 d5
       go_enter Tryz.func111,Tryz.ntmps111
       go_upto_region 1 with fail
       rw [←HW2.out]
       have B:=hid (Kai w2.heap.size w2)
       have za:=HCA.out w2 B.out
       have zi:=HCI.out w2 B.out
       have a0:=Kaa _ _ 0 _ _ _ za
       have b0:=Kaa _ _ 0 _ _ _ zi
       have a1:=Kaa _ _ 1 _ _ _ za
       have b1:=Kaa _ _ 1 _ _ _ zi
       have a2:=Kaa _ _ 2 _ _ _ za
       have b2:=Kaa _ _ 2 _ _ _ zi
       have a3:=Kaa _ _ 3 _ _ _ za
       have b3:=Kaa _ _ 3 _ _ _ zi
       have a4:=Kaa _ _ 4 _ _ _ za
       have b4:=Kaa _ _ 4 _ _ _ zi
       have a5:=Kaa _ _ 5 _ _ _ za
       have b5:=Kaa _ _ 5 _ _ _ zi
       have a6:=Kaa _ _ 6 _ _ _ za
       have b6:=Kaa _ _ 6 _ _ _ zi
       clear za zi
       go_wp2_with fail
       refine (HE1.out _ B.out).mono ?_
       rintro e w3 ⟨rfl,qq0,hq0⟩
       have B:=hid (show Below w2.heap.size w2 w3 from by rw [hq0];exact Zaa B.out _)
       rw [p0.out]
       clear a0 b0 a1 b1 a2 b2 a3 b3 a4 b4 a5 b5 a6 b6 hq0
       have za:=HCA.out w3 B.out
       have zi:=HCI.out w3 B.out
       have a0:=Kaa _ _ 0 _ _ _ za
       have b0:=Kaa _ _ 0 _ _ _ zi
       have a1:=Kaa _ _ 1 _ _ _ za
       have b1:=Kaa _ _ 1 _ _ _ zi
       have a2:=Kaa _ _ 2 _ _ _ za
       have b2:=Kaa _ _ 2 _ _ _ zi
       have a3:=Kaa _ _ 3 _ _ _ za
       have b3:=Kaa _ _ 3 _ _ _ zi
       have a4:=Kaa _ _ 4 _ _ _ za
       have b4:=Kaa _ _ 4 _ _ _ zi
       have a5:=Kaa _ _ 5 _ _ _ za
       have b5:=Kaa _ _ 5 _ _ _ zi
       have a6:=Kaa _ _ 6 _ _ _ za
       have b6:=Kaa _ _ 6 _ _ _ zi
       clear za zi
       go_wp2_with fail
       refine (HE2.out _ B.out).mono ?_
       rintro e w4 ⟨rfl,qq1,hq1⟩
       have B:=hid (show Below w2.heap.size w2 w4 from by rw [hq1];exact Zaa B.out _)
       rw [HAR.out]
       rw [p1.out]
       clear a0 b0 a1 b1 a2 b2 a3 b3 a4 b4 a5 b5 a6 b6 hq1
       have za:=HCA.out w4 B.out
       have zi:=HCI.out w4 B.out
       have a0:=Kaa _ _ 0 _ _ _ za
       have b0:=Kaa _ _ 0 _ _ _ zi
       have a1:=Kaa _ _ 1 _ _ _ za
       have b1:=Kaa _ _ 1 _ _ _ zi
       have a2:=Kaa _ _ 2 _ _ _ za
       have b2:=Kaa _ _ 2 _ _ _ zi
       have a3:=Kaa _ _ 3 _ _ _ za
       have b3:=Kaa _ _ 3 _ _ _ zi
       have a4:=Kaa _ _ 4 _ _ _ za
       have b4:=Kaa _ _ 4 _ _ _ zi
       have a5:=Kaa _ _ 5 _ _ _ za
       have b5:=Kaa _ _ 5 _ _ _ zi
       have a6:=Kaa _ _ 6 _ _ _ za
       have b6:=Kaa _ _ 6 _ _ _ zi
       clear za zi
       go_wp2
       go_ret
       exact ⟨congrArg (fun b=>Ending.returned (.bool b)) HX.out.symm,bnext HB2.out B.out⟩
     ·have HX:=hid (show R=false from hR.trans (decide_eq_false (fun e=>by injection e;contradiction)))
      have q0:((kd:Int)==(kd':Int))=true:=by rw [d0];simp
      have q1:((pa:Int)==(pa':Int))=true:=by rw [d1];simp
      have q2:((ip:Int)==(ip':Int))=true:=by rw [d2];simp
      have q3:((kk:Int)==(kk':Int))=true:=by rw [d3];simp
      have p0:=hid (show (sh==sh')=false from by rw [Kaj];exact d4)
      clear hR d0 d1 d2 d3 d4
      go_enter Tryz.func111,Tryz.ntmps111
      go_upto_region 1 with fail
      rw [←HW2.out]
      have B:=hid (Kai w2.heap.size w2)
      have za:=HCA.out w2 B.out
      have zi:=HCI.out w2 B.out
      have a0:=Kaa _ _ 0 _ _ _ za
      have b0:=Kaa _ _ 0 _ _ _ zi
      have a1:=Kaa _ _ 1 _ _ _ za
      have b1:=Kaa _ _ 1 _ _ _ zi
      have a2:=Kaa _ _ 2 _ _ _ za
      have b2:=Kaa _ _ 2 _ _ _ zi
      have a3:=Kaa _ _ 3 _ _ _ za
      have b3:=Kaa _ _ 3 _ _ _ zi
      have a4:=Kaa _ _ 4 _ _ _ za
      have b4:=Kaa _ _ 4 _ _ _ zi
      have a5:=Kaa _ _ 5 _ _ _ za
      have b5:=Kaa _ _ 5 _ _ _ zi
      have a6:=Kaa _ _ 6 _ _ _ za
      have b6:=Kaa _ _ 6 _ _ _ zi
      clear za zi
      go_wp2_with fail
      refine (HE1.out _ B.out).mono ?_
      rintro e w3 ⟨rfl,qq0,hq0⟩
      have B:=hid (show Below w2.heap.size w2 w3 from by rw [hq0];exact Zaa B.out _)
      rw [p0.out]
      clear a0 b0 a1 b1 a2 b2 a3 b3 a4 b4 a5 b5 a6 b6 hq0
      have za:=HCA.out w3 B.out
      have zi:=HCI.out w3 B.out
      have a0:=Kaa _ _ 0 _ _ _ za
      have b0:=Kaa _ _ 0 _ _ _ zi
      have a1:=Kaa _ _ 1 _ _ _ za
      have b1:=Kaa _ _ 1 _ _ _ zi
      have a2:=Kaa _ _ 2 _ _ _ za
      have b2:=Kaa _ _ 2 _ _ _ zi
      have a3:=Kaa _ _ 3 _ _ _ za
      have b3:=Kaa _ _ 3 _ _ _ zi
      have a4:=Kaa _ _ 4 _ _ _ za
      have b4:=Kaa _ _ 4 _ _ _ zi
      have a5:=Kaa _ _ 5 _ _ _ za
      have b5:=Kaa _ _ 5 _ _ _ zi
      have a6:=Kaa _ _ 6 _ _ _ za
      have b6:=Kaa _ _ 6 _ _ _ zi
      clear za zi
      go_wp2
      go_ret
      exact ⟨congrArg (fun b=>Ending.returned (.bool b)) HX.out.symm,bnext HB2.out B.out⟩
    ·have HX:=hid (show R=false from hR.trans (decide_eq_false (fun e=>by injection e;contradiction)))
     have q0:((kd:Int)==(kd':Int))=true:=by rw [d0];simp
     have q1:((pa:Int)==(pa':Int))=true:=by rw [d1];simp
     have q2:((ip:Int)==(ip':Int))=true:=by rw [d2];simp
     have q3:((kk:Int)==(kk':Int))=false:=by rw [Kaj];omega
     clear hR d0 d1 d2 d3
     go_enter Tryz.func111,Tryz.ntmps111
     go_upto_region 1 with fail
     rw [←HW2.out]
     have B:=hid (Kai w2.heap.size w2)
     have za:=HCA.out w2 B.out
     have zi:=HCI.out w2 B.out
     have a0:=Kaa _ _ 0 _ _ _ za
     have b0:=Kaa _ _ 0 _ _ _ zi
     have a1:=Kaa _ _ 1 _ _ _ za
     have b1:=Kaa _ _ 1 _ _ _ zi
     have a2:=Kaa _ _ 2 _ _ _ za
     have b2:=Kaa _ _ 2 _ _ _ zi
     have a3:=Kaa _ _ 3 _ _ _ za
     have b3:=Kaa _ _ 3 _ _ _ zi
     have a4:=Kaa _ _ 4 _ _ _ za
     have b4:=Kaa _ _ 4 _ _ _ zi
     have a5:=Kaa _ _ 5 _ _ _ za
     have b5:=Kaa _ _ 5 _ _ _ zi
     have a6:=Kaa _ _ 6 _ _ _ za
     have b6:=Kaa _ _ 6 _ _ _ zi
     clear za zi
     go_wp2
     go_ret
     exact ⟨congrArg (fun b=>Ending.returned (.bool b)) HX.out.symm,bnext HB2.out B.out⟩
   ·have HX:=hid (show R=false from hR.trans (decide_eq_false (fun e=>by injection e;contradiction)))
    have q0:((kd:Int)==(kd':Int))=true:=by rw [d0];simp
    have q1:((pa:Int)==(pa':Int))=true:=by rw [d1];simp
    have q2:((ip:Int)==(ip':Int))=false:=by rw [Kaj];omega
    clear hR d0 d1 d2
    go_enter Tryz.func111,Tryz.ntmps111
    go_upto_region 1 with fail
    rw [←HW2.out]
    have B:=hid (Kai w2.heap.size w2)
    have za:=HCA.out w2 B.out
    have zi:=HCI.out w2 B.out
    have a0:=Kaa _ _ 0 _ _ _ za
    have b0:=Kaa _ _ 0 _ _ _ zi
    have a1:=Kaa _ _ 1 _ _ _ za
    have b1:=Kaa _ _ 1 _ _ _ zi
    have a2:=Kaa _ _ 2 _ _ _ za
    have b2:=Kaa _ _ 2 _ _ _ zi
    have a3:=Kaa _ _ 3 _ _ _ za
    have b3:=Kaa _ _ 3 _ _ _ zi
    have a4:=Kaa _ _ 4 _ _ _ za
    have b4:=Kaa _ _ 4 _ _ _ zi
    have a5:=Kaa _ _ 5 _ _ _ za
    have b5:=Kaa _ _ 5 _ _ _ zi
    have a6:=Kaa _ _ 6 _ _ _ za
    have b6:=Kaa _ _ 6 _ _ _ zi
    clear za zi
    go_wp2
    go_ret
    exact ⟨congrArg (fun b=>Ending.returned (.bool b)) HX.out.symm,bnext HB2.out B.out⟩
  ·have HX:=hid (show R=false from hR.trans (decide_eq_false (fun e=>by injection e;contradiction)))
   have q0:((kd:Int)==(kd':Int))=true:=by rw [d0];simp
   have q1:((pa:Int)==(pa':Int))=false:=by rw [Kaj];omega
   clear hR d0 d1
   go_enter Tryz.func111,Tryz.ntmps111
   go_upto_region 1 with fail
   rw [←HW2.out]
   have B:=hid (Kai w2.heap.size w2)
   have za:=HCA.out w2 B.out
   have zi:=HCI.out w2 B.out
   have a0:=Kaa _ _ 0 _ _ _ za
   have b0:=Kaa _ _ 0 _ _ _ zi
   have a1:=Kaa _ _ 1 _ _ _ za
   have b1:=Kaa _ _ 1 _ _ _ zi
   have a2:=Kaa _ _ 2 _ _ _ za
   have b2:=Kaa _ _ 2 _ _ _ zi
   have a3:=Kaa _ _ 3 _ _ _ za
   have b3:=Kaa _ _ 3 _ _ _ zi
   have a4:=Kaa _ _ 4 _ _ _ za
   have b4:=Kaa _ _ 4 _ _ _ zi
   have a5:=Kaa _ _ 5 _ _ _ za
   have b5:=Kaa _ _ 5 _ _ _ zi
   have a6:=Kaa _ _ 6 _ _ _ za
   have b6:=Kaa _ _ 6 _ _ _ zi
   clear za zi
   go_wp2
   go_ret
   exact ⟨congrArg (fun b=>Ending.returned (.bool b)) HX.out.symm,bnext HB2.out B.out⟩
 ·have HX:=hid (show R=false from hR.trans (decide_eq_false (fun e=>by injection e;contradiction)))
  have q0:((kd:Int)==(kd':Int))=false:=by rw [Kaj];omega
  clear hR d0
  go_enter Tryz.func111,Tryz.ntmps111
  go_upto_region 1 with fail
  rw [←HW2.out]
  have B:=hid (Kai w2.heap.size w2)
  have za:=HCA.out w2 B.out
  have zi:=HCI.out w2 B.out
  have a0:=Kaa _ _ 0 _ _ _ za
  have b0:=Kaa _ _ 0 _ _ _ zi
  have a1:=Kaa _ _ 1 _ _ _ za
  have b1:=Kaa _ _ 1 _ _ _ zi
  have a2:=Kaa _ _ 2 _ _ _ za
  have b2:=Kaa _ _ 2 _ _ _ zi
  have a3:=Kaa _ _ 3 _ _ _ za
  have b3:=Kaa _ _ 3 _ _ _ zi
  have a4:=Kaa _ _ 4 _ _ _ za
  have b4:=Kaa _ _ 4 _ _ _ zi
  have a5:=Kaa _ _ 5 _ _ _ za
  have b5:=Kaa _ _ 5 _ _ _ zi
  have a6:=Kaa _ _ 6 _ _ _ za
  have b6:=Kaa _ _ 6 _ _ _ zi
  clear za zi
  go_wp2
  go_ret
  exact ⟨congrArg (fun b=>Ending.returned (.bool b)) HX.out.symm,bnext HB2.out B.out⟩
theorem oflat_set {α β:Type} (f:α→List β) (k:Nat) (hf:∀ x,(f x).length=k) (x':α) (v:β):∀ (l:List α) (i j:Nat) (x:α),l[i]?=some x→j<k→f x'=(f x).set j v→(l.set i x').flatMap f=(l.flatMap f).set (i*k+j) v
 | [],i,j,x,h,_,_=>by simp at h
 | y::l,0,j,x,h,hj,hv=>by
  simp at h
  subst h
  rw [List.set_cons_zero,List.flatMap_cons,List.flatMap_cons,hv,Nat.zero_mul,Nat.zero_add,List.set_append_left _ _ (by rw [hf];exact hj)]
 | y::l,i+1,j,x,h,hj,hv=>by
  have ih:=oflat_set f k hf x' v l i j x (by simpa using h) hj hv
  rw [List.set_cons_succ,List.flatMap_cons,List.flatMap_cons,ih,List.set_append_right _ _ (by rw [hf,Nat.succ_mul];omega)]
  congr 2
  rw [hf,Nat.succ_mul]
  omega
def ArgI (w:World) (B:Nat) (v:Value) (l:List Int):Prop:=∃ A c,v=.slice A l.length c∧Own w B 3 A c (l.map VI)
theorem owni_keep {w w':World} {b cap:Nat} {A:Option Addr} {xs:List Value} (h:Own w b 3 A cap xs) (hk:∀ (g:Nat) (cur:Array Value),w.heap[g]?=some (.cells cur 3 (0,0))→w'.heap[g]?=some (.cells cur 3 (0,0))):Own w' b 3 A cap xs:=by
 refine ⟨h.1,?_⟩
 rcases h.2 with hv | ⟨g,cap',cur,hv,hb1,hg,r⟩
 ·exact .inl hv
 ·exact .inr ⟨g,cap',cur,hv,hb1,hk g cur hg,r⟩
theorem ArgI.keep {w w':World} {b:Nat} {v:Value} {l:List Int} (h:ArgI w b v l) (hk:∀ (g:Nat) (cur:Array Value),w.heap[g]?=some (.cells cur 3 (0,0))→w'.heap[g]?=some (.cells cur 3 (0,0))):ArgI w' b v l:=by
 obtain ⟨A,c,h1,h2⟩:=h
 exact ⟨A,c,h1,owni_keep h2 hk⟩
theorem ArgI.int {w:World} {b:Nat} {v:Value} {l:List Int} (h:ArgI w b v l):∃ A c,v=.slice A l.length c∧Rd w w.heap.size A (l.map VI)∧l.length≤9223372036854775807∧l.length≤c∧c≤9223372036854775807:=by
 obtain ⟨A,c,h1,h2⟩:=h
 have hc:=Zfl h2
 rw [Kak] at hc
 exact ⟨A,c,h1,h2.rd,hc⟩
def KI (w w':World):Prop:=∀ (g:Nat) (cur:Array Value),w.heap[g]?=some (.cells cur 3 (0,0))→w'.heap[g]?=some (.cells cur 3 (0,0))
theorem KI.below {w w':World} (h:Below w.heap.size w w'):KI w w':=fun g cur hg=>(h.block g (Kab.1 hg).1).trans hg
theorem KI.trans {a b c:World} (h:KI a b) (h':KI b c):KI a c:=fun g cur hg=>h' g cur (h g cur hg)
theorem KI.set {w:World} {b k:Nat} {cs:Array Value} {T:TypeId} {fr:Nat × Nat} (hp:w.heap[b]?=some (.cells cs T fr)) (hT:T≠3) (v:Value):KI w (w.setCell ⟨b,k,none⟩ v):=fun g cur hg=>by
 rw [Below.heap_setCell w ⟨b,k,none⟩ v g (fun e=>by
  have e':g=b:=e
  subst e'
  rw [hp] at hg
  injection hg with hg
  injection hg with _ hg _
  exact hT hg)]
 exact hg
theorem rown_form {w:World} {base size n c:Nat} {T:TypeId} {A:Option Addr} {xs:List Value} (h:w.ownsRow base T size (.slice A n c) n xs):A=none∨∃ g cur,A=some ⟨g,0,none⟩∧base≤g∧w.heap[g]?=some (.cells cur T (0,0)):=by
 rcases h.2 with ⟨hv,_⟩ | ⟨g,cap',cur,hv,hb,hg,_⟩
 ·injection hv with a b c
  exact .inl a
 ·injection hv with a b c
  exact .inr ⟨g,cur,a,hb,hg⟩
theorem rown_keep {w w':World} {base size n c:Nat} {T:TypeId} {A:Option Addr} {xs:List Value} (h:w.ownsRow base T size (.slice A n c) n xs) (hk:∀ k,blk A=some k→w'.heap[k]?=w.heap[k]?):w'.ownsRow base T size (.slice A n c) n xs:=by
 refine ⟨h.1,?_⟩
 rcases h.2 with hv | ⟨g,cap',cur,hv,hb1,hg,r⟩
 ·exact .inl hv
 ·have e:blk A=some g:=by injection hv with a;rw [a];rfl
  exact .inr ⟨g,cap',cur,hv,hb1,(hk g e).trans hg,r⟩
theorem rown_set {w:World} {base size n c k:Nat} {T:TypeId} {g:Nat} {xs:List Value} (h:w.ownsRow base T size (.slice (some ⟨g,0,none⟩) n c) n xs) (v:Value) (hk:k<n*size):(w.setCell ⟨g,k,none⟩ v).ownsRow base T size (.slice (some ⟨g,0,none⟩) n c) n (xs.set k v):=by
 refine ⟨by rw [List.length_set];exact h.1,?_⟩
 rcases h.2 with ⟨hv,_⟩ | ⟨g',cap',cur,hv,hb1,hg,h1,h2,h3,h4⟩
 ·injection hv with a;cases a
 ·have e:g'=g:=by injection hv with a;injection a with a;injection a with a;exact a.symm
  subst e
  refine .inr ⟨g',cap',cur.setIfInBounds k v,hv,hb1,by simp [World.setCell,Array.getElem?_modify,hg],h1,h2,by simpa using h3,?_⟩
  rw [Array.toList_setIfInBounds,List.take_set,h4]
def siC (m:SI × Value):List Value:=[.int .i64 m.1.kind,.int .i64 m.1.party,.string m.1.name,m.2,.int .i64 m.1.expr,.int .i64 m.1.pos]
def OwnSI (w:World) (B:Nat) (A:Option Addr) (c:Nat) (l:List SI):Prop:=
 ∃ ms:List (SI × Value),ms.map Prod.fst=l∧w.ownsRow B 93 6 (.slice A l.length c) l.length (ms.flatMap siC)∧∀ m∈ms,ArgI w B m.2 m.1.shape
theorem OwnSI.keep {w w':World} {B c:Nat} {A:Option Addr} {l:List SI} (h:OwnSI w B A c l) (hi:KI w w') (hk:∀ k,blk A=some k→w'.heap[k]?=w.heap[k]?):OwnSI w' B A c l:=by
 obtain ⟨ms,h1,h2,h3⟩:=h
 exact ⟨ms,h1,rown_keep h2 hk,fun m hm=>(h3 m hm).keep hi⟩
theorem OwnSI.form {w:World} {B c:Nat} {A:Option Addr} {l:List SI} (h:OwnSI w B A c l):A=none∨∃ g cur,A=some ⟨g,0,none⟩∧B≤g∧w.heap[g]?=some (.cells cur 93 (0,0)):=by
 obtain ⟨ms,h1,h2,h3⟩:=h
 exact rown_form h2
theorem OwnSI.lt {w:World} {B c:Nat} {A:Option Addr} {l:List SI} (h:OwnSI w B A c l):∀ k,blk A=some k→B≤k∧k<w.heap.size:=fun k hk=>by
 rcases h.form with rfl | ⟨g,cur,rfl,hb,hg⟩
 ·cases hk
 ·have e:g=k:=by simpa [blk] using hk
  subst e
  exact ⟨hb,(Kab.1 hg).1⟩
theorem OwnSI.next {w w':World} {B c:Nat} {A:Option Addr} {l:List SI} (h:OwnSI w B A c l) (hb:Below w.heap.size w w'):OwnSI w' B A c l:=h.keep (KI.below hb) fun k hk=>hb.block k (h.lt k hk).2
theorem OwnSI.rd {w:World} {B c:Nat} {A:Option Addr} {l:List SI} (h:OwnSI w B A c l):RdSI w w.heap.size A l:=by
 obtain ⟨ms,h1,h2,h3⟩:=h
 by_cases hl:l=[]
 ·subst hl
  exact .inl rfl
 ·obtain ⟨g,hA,hg,_,hc⟩:=Zbm h2 (List.length_pos_iff.2 hl)
  refine .inr ⟨g,0,hA,hg,fun i x hx => ?_⟩
  subst h1
  rw [Kal,Option.map_eq_some_iff] at hx
  obtain ⟨m,hm,rfl⟩:=hx
  have key:∀ j v,(siC m)[j]?=some v→j<6→w.cell? ⟨g,0+i*6+j,none⟩=some v:=fun j v hv hj=>by
   rw [Nat.zero_add]
   exact hc _ v ((Zaq siC 6 (fun _=>rfl) ms i j m hm hj).trans hv)
  obtain ⟨A',c',e1,e2⟩:=(h3 m (Kam hm)).int
  exact ⟨key 0 _ rfl (by omega),key 1 _ rfl (by omega),key 2 _ rfl (by omega),⟨A',c',by rw [←e1];exact key 3 _ rfl (by omega),e2⟩,key 4 _ rfl (by omega),key 5 _ rfl (by omega)⟩
theorem siI_info:(Tryz.prog.info? 93).map (fun i=>(i.zero,i.size,i.bytes))=some (some (.agg #[.int .i64 0,.int .i64 0,.string ⟨#[]⟩,.slice none 0 0,.int .i64 0,.int .i64 0]),6,72):=by kernel_rfl
theorem OwnSI.name {w:World} {B c g k:Nat} {l:List SI} {x:SI} (h:OwnSI w B (some ⟨g,0,none⟩) c l) (hk:l[k]?=some x) (nm:ByteArray):OwnSI (w.setCell ⟨g,k*6+2,none⟩ (.string nm)) B (some ⟨g,0,none⟩) c (l.set k { x with name:=nm }):=by
 obtain ⟨ms,h1,h2,h3⟩:=h
 subst h1
 rw [Kal,Option.map_eq_some_iff] at hk
 obtain ⟨m,hm,rfl⟩:=hk
 have hlt:=(Kaf.1 hm).1
 have hki:KI w (w.setCell ⟨g,k*6+2,none⟩ (.string nm)):=by
  rcases rown_form h2 with e | ⟨g',cur,e,_,hc⟩
  ·cases e
  ·injection e with e
   injection e with e
   subst e
   exact KI.set hc (by decide) _
 refine ⟨ms.set k ({ m.1 with name:=nm },m.2),by rw [List.map_set],?_,?_⟩
 ·rw [oflat_set siC 6 (fun _=>rfl) ({ m.1 with name:=nm },m.2) (.string nm) ms k 2 m hm (by omega) rfl,List.length_set]
  exact rown_set h2 _ (by rw [Kak];omega)
 ·intro y hy
  rw [List.mem_iff_getElem?] at hy
  obtain ⟨i,hi⟩:=hy
  by_cases e:k=i
  ·subst e
   rw [List.getElem?_set_self hlt] at hi
   injection hi with hi
   subst hi
   exact (h3 m (Kam hm)).keep hki
  ·rw [List.getElem?_set_ne e] at hi
   exact (h3 y (Kam hi)).keep hki
def eiC (m:EI × Value):List Value:=[.int .i64 m.1.kind,.string m.1.name,.int .u64 m.1.num,m.2,.int .i64 m.1.pos]
def OwnEI (w:World) (B:Nat) (A:Option Addr) (c:Nat) (l:List EI):Prop:=
 ∃ ms:List (EI × Value),ms.map Prod.fst=l∧w.ownsRow B 90 5 (.slice A l.length c) l.length (ms.flatMap eiC)∧∀ m∈ms,ArgI w B m.2 m.1.args
theorem OwnEI.keep {w w':World} {B c:Nat} {A:Option Addr} {l:List EI} (h:OwnEI w B A c l) (hi:KI w w') (hk:∀ k,blk A=some k→w'.heap[k]?=w.heap[k]?):OwnEI w' B A c l:=by
 obtain ⟨ms,h1,h2,h3⟩:=h
 exact ⟨ms,h1,rown_keep h2 hk,fun m hm=>(h3 m hm).keep hi⟩
theorem OwnEI.form {w:World} {B c:Nat} {A:Option Addr} {l:List EI} (h:OwnEI w B A c l):A=none∨∃ g cur,A=some ⟨g,0,none⟩∧B≤g∧w.heap[g]?=some (.cells cur 90 (0,0)):=by
 obtain ⟨ms,h1,h2,h3⟩:=h
 exact rown_form h2
theorem OwnEI.lt {w:World} {B c:Nat} {A:Option Addr} {l:List EI} (h:OwnEI w B A c l):∀ k,blk A=some k→B≤k∧k<w.heap.size:=fun k hk=>by
 rcases h.form with rfl | ⟨g,cur,rfl,hb,hg⟩
 ·cases hk
 ·have e:g=k:=by simpa [blk] using hk
  subst e
  exact ⟨hb,(Kab.1 hg).1⟩
theorem OwnEI.next {w w':World} {B c:Nat} {A:Option Addr} {l:List EI} (h:OwnEI w B A c l) (hb:Below w.heap.size w w'):OwnEI w' B A c l:=h.keep (KI.below hb) fun k hk=>hb.block k (h.lt k hk).2
theorem OwnEI.rd {w:World} {B c:Nat} {A:Option Addr} {l:List EI} (h:OwnEI w B A c l):RdEI w w.heap.size A l:=by
 obtain ⟨ms,h1,h2,h3⟩:=h
 by_cases hl:l=[]
 ·subst hl
  exact .inl rfl
 ·obtain ⟨g,hA,hg,_,hc⟩:=Zbm h2 (List.length_pos_iff.2 hl)
  refine .inr ⟨g,0,hA,hg,fun i x hx => ?_⟩
  subst h1
  rw [Kal,Option.map_eq_some_iff] at hx
  obtain ⟨m,hm,rfl⟩:=hx
  have key:∀ j v,(eiC m)[j]?=some v→j<5→w.cell? ⟨g,0+i*5+j,none⟩=some v:=fun j v hv hj=>by
   rw [Nat.zero_add]
   exact hc _ v ((Zaq eiC 5 (fun _=>rfl) ms i j m hm hj).trans hv)
  obtain ⟨A',c',e1,e2⟩:=(h3 m (Kam hm)).int
  exact ⟨key 0 _ rfl (by omega),key 1 _ rfl (by omega),key 2 _ rfl (by omega),⟨A',c',by rw [←e1];exact key 3 _ rfl (by omega),e2⟩,key 4 _ rfl (by omega)⟩
theorem eiI_info:(Tryz.prog.info? 90).map (fun i=>(i.zero,i.size,i.bytes))=some (some (.agg #[.int .i64 0,.string ⟨#[]⟩,.int .u64 0,.slice none 0 0,.int .i64 0]),5,64):=by kernel_rfl
theorem OwnEI.name {w:World} {B c g k:Nat} {l:List EI} {x:EI} (h:OwnEI w B (some ⟨g,0,none⟩) c l) (hk:l[k]?=some x) (nm:ByteArray):OwnEI (w.setCell ⟨g,k*5+1,none⟩ (.string nm)) B (some ⟨g,0,none⟩) c (l.set k { x with name:=nm }):=by
 obtain ⟨ms,h1,h2,h3⟩:=h
 subst h1
 rw [Kal,Option.map_eq_some_iff] at hk
 obtain ⟨m,hm,rfl⟩:=hk
 have hlt:=(Kaf.1 hm).1
 have hki:KI w (w.setCell ⟨g,k*5+1,none⟩ (.string nm)):=by
  rcases rown_form h2 with e | ⟨g',cur,e,_,hc⟩
  ·cases e
  ·injection e with e
   injection e with e
   subst e
   exact KI.set hc (by decide) _
 refine ⟨ms.set k ({ m.1 with name:=nm },m.2),by rw [List.map_set],?_,?_⟩
 ·rw [oflat_set eiC 5 (fun _=>rfl) ({ m.1 with name:=nm },m.2) (.string nm) ms k 1 m hm (by omega) rfl,List.length_set]
  exact rown_set h2 _ (by rw [Kak];omega)
 ·intro y hy
  rw [List.mem_iff_getElem?] at hy
  obtain ⟨i,hi⟩:=hy
  by_cases e:k=i
  ·subst e
   rw [List.getElem?_set_self hlt] at hi
   injection hi with hi
   subst hi
   exact (h3 m (Kam hm)).keep hki
  ·rw [List.getElem?_set_ne e] at hi
   exact (h3 y (Kam hi)).keep hki
theorem run_appM {P:Program} (w:World) (base:Nat) (t ty e:TypeId) (i:TypeInfo) (z:Value) (size bytes:Nat) (ht:P.underlying t=some (.slice e)) (hi:P.info? e=some i) (hz:i.zero=some z)
  (hsz:i.size=size) (hs0:0<size) (hby:i.bytes=bytes) (hzs:z.cells.size=size)
  (A:Option Addr) (cap n:Nat) (xs:List Value) (hown:w.ownsRow base e size (.slice A n cap) n xs)
  (b m:Nat) (hm0:0<m) (news:List Value) (hm:news.length=m*size) (hr:∀ (j:Nat) (u:Value),news[j]?=some u→w.cell? ⟨b,j,none⟩=some u) (h1:∀ u∈news,u.oneCell'=true)
  (h63:n+m≤maxLen) (hbytes:((n+m)+(n+m) / 4+192)*bytes≤281474976710656) (hbase:base≤w.heap.size):
  ∃ A' cap' w',(Builtin.append_ #[t,t] ty #[.slice A n cap,.slice (some ⟨b,0,none⟩) m m]).run P w=.ok (.slice A' (n+m) cap') w'∧w'.ownsRow base e size (.slice A' (n+m) cap') (n+m) (xs++news)∧w.grownBy w' (blk A)∧(blk A'=blk A∨blk A'=some w.heap.size):=by
 have hcells:∀ (j:Nat) (u:Value),news[j]?=some u→w.cell? ((⟨b,0,none⟩:Addr).add j)=some u:=by
  intro j u hu
  have e':(⟨b,0,none⟩:Addr).add j=⟨b,j,none⟩:=by unfold Addr.add;split <;> simp_all
  rw [e']
  exact hr j u hu
 have hsmall:n+m≤9223372036854775807:=by simp only [maxLen] at h63;omega
 have hxl:=hown.1
 have hml:news.length=m*i.size:=by rw [hsz,hm]
 have hlen:(xs++news).length=(n+m)*size:=by rw [List.length_append,hxl,hm,Nat.add_mul]
 have grown:∀ (old:Nat),old<n+m→∀ (row:Option Nat),
   (w.drew.alloc (.cells (xs.toArray++news.toArray++Builtin.zeroCells z.cells (grownCap w (n+m) old e-(n+m))) e)).ownsRow base e size (.slice (some ⟨w.heap.size,0,none⟩) (n+m) (grownCap w (n+m) old e)) (n+m) (xs++news) ∧
   w.grownBy (w.drew.alloc (.cells (xs.toArray++news.toArray++Builtin.zeroCells z.cells (grownCap w (n+m) old e-(n+m))) e)) row:=by
  intro old _ row
  have hge:=grownCap_ge w (n+m) old e
  have hcm:grownCap w (n+m) old e≤maxLen:=grownCap_le_maxLen w (n+m) old e h63
  refine ⟨⟨hlen,.inr ⟨w.heap.size,_,_,rfl,hbase,Kac w.drew _,by omega,hcm,?_,?_⟩⟩,⟨rfl,rfl,rfl,by simp,fun k hk _=>Below.heap_alloc w.drew _ k hk⟩⟩
  ·simp only [Array.size_append,List.size_toArray,size_zeroCells,hzs,hxl,hm]
   rw [←Nat.add_mul,←Nat.add_mul]
   congr 1
   omega
  ·simp only [Array.toList_append]
   rw [←hlen]
   exact List.take_left
 rcases hown.2 with ⟨hv,h0⟩ | ⟨g,cap',cur,hv,hbg,hg,hnc,hcm,hcs,htake⟩
 ·injection hv with a1 a2 a3
  subst a1 a3 a2
  have hxs:xs=[]:=List.eq_nil_of_length_eq_zero (by rw [hxl,Nat.zero_mul])
  subst hxs
  have hrun:=run_append_nil (P:=P) w t ty e i z ht hi hz ⟨b,0,none⟩ m m news hml hcells (by omega) (by omega)
   (by rw [hby];have hb:=hbytes;simp only [Nat.zero_add] at hb;exact Kah (Nat.mul_le_mul_right _ (by omega)) hb)
  have hgr:=grown 0 (by omega) (blk none)
  simp only [Nat.zero_add,List.nil_append,Array.empty_append] at hgr ⊢
  exact ⟨_,_,_,hrun,hgr.1,hgr.2,.inr rfl⟩
 ·injection hv with a1 a2 a3
  subst a1 a3
  by_cases hroom:n+m≤cap
  ·have hrun:=run_append_room (P:=P) w t ty e i ht hi g n cap cur hg ⟨b,0,none⟩ m m news hml hcells h1 hroom (by rw [hsz,hcs,hm,←Nat.add_mul];exact Nat.mul_le_mul_right _ hroom)
   refine ⟨_,_,_,hrun,⟨hlen,.inr ⟨g,cap,_,rfl,hbg,setRow_heap w g cur _ e _ hg,by omega,hcm,?_,?_⟩⟩,⟨rfl,rfl,rfl,by simp,fun k _ hk=>setRow_other w g k _ (fun e=>hk (by simp [blk,e]))⟩,.inl rfl⟩
   ·have:(n+m)*size≤cap*size:=Nat.mul_le_mul_right _ hroom
    have h5:n*size≤cap*size:=Nat.mul_le_mul_right _ hnc
    have hs1:(n+m)*size=n*size+m*size:=Nat.add_mul n m size
    simp only [List.size_toArray,List.length_append,List.length_take,List.length_drop,Array.length_toList]
    rw [hsz,hm,hcs]
    omega
   ·rw [hsz,htake,←hlen]
    exact List.take_left
  ·have holds:∀ (j:Nat) (u:Value),xs[j]?=some u→w.cell? ((⟨g,0,none⟩:Addr).add j)=some u:=fun j u hu=>by
    have e':(⟨g,0,none⟩:Addr).add j=⟨g,j,none⟩:=by unfold Addr.add;split <;> simp_all
    rw [e',Kaa w g j cur e (0,0) hg]
    have h2:(cur.toList.take (n*size))[j]?=some u:=by rw [htake];exact hu
    rw [List.getElem?_take] at h2
    split at h2
    ·simpa using h2
    ·cases h2
   have hrun:=run_append_grow (P:=P) w t ty e i z ht hi hz ⟨g,0,none⟩ n cap xs (by rw [hsz];exact hxl) holds ⟨b,0,none⟩ m m news hml hcells (by omega) (by omega) (growslice_fits_wide (by omega) (by rw [hby];exact hbytes))
   have hgr:=grown cap (by omega) (blk (some ⟨g,0,none⟩))
   exact ⟨_,_,_,hrun,hgr.1,hgr.2,.inr rfl⟩
theorem appR {w:World} {ops:Array Oper} {rest:List Oper} {o:Oper} {a:Act} {Q:Exit→Act→World→Prop} (hgd:o.guard=none) (s x:Operand) (t e:TypeId) (z:Value) (size bytes:Nat) (hinf:(Tryz.prog.info? e).map (fun i=>(i.zero,i.size,i.bytes))=some (some z,size,bytes)) (ht : Tryz.prog.underlying t=some (.slice e)) (h0:0<size) (hz:z.cells.size=size) (hbs:bytes≤1000)
  (ho:o.op=.call { callee:=.builtin .append,args:=#[s,x],argTypes:=#[t,t] }) (B:Nat) (A:Option Addr) (cap n:Nat) (xs:List Value) (hs:a.eval s=.slice A n cap) (hown:w.ownsRow B e size (.slice A n cap) n xs)
  (g2 m:Nat) (hm0:0<m) (news:List Value) (hx:a.eval x=.slice (some ⟨g2,0,none⟩) m m) (hm:news.length=m*size) (hb:w.heap[g2]?=some (.cells news.toArray e (0,0))) (h1:∀ u∈news,u.oneCell'=true) (hn:n+m≤1000) (hbase:B≤w.heap.size)
  (h:∀ A' cap' w',w'.ownsRow B e size (.slice A' (n+m) cap') (n+m) (xs++news)→w.grownBy w' (blk A)→wpList Tryz.prog ops Q rest (a.put o.dst (.slice A' (n+m) cap')) w'):
  wpList Tryz.prog ops Q (o::rest) a w:=by
 obtain ⟨i0,hi0,hz0,hz1,hz2⟩:=info_parts hinf
 obtain ⟨A',cap',w',hrun,r1,r2,r3⟩:=run_appM (P := Tryz.prog) w B t o.type e i0 z size bytes ht hi0 hz0 hz1 h0 hz2 hz A cap n xs hown g2 m hm0 news hm
  (fun j u hu=>by rw [Kaa w g2 j _ _ (0,0) hb];simpa using hu) h1 (by simp only [maxLen];omega) (by
   have:((n+m)+(n+m) / 4+192)*bytes≤2000*1000:=Nat.mul_le_mul (by omega) hbs
   omega) hbase
 refine wpList_plain hgd fun K hK => ?_
 unfold Oper.wp execOp
 simp only [ho,resolve,invoke,builtin,Sem.run_bind,Sem.run_pure,Result.andThen_ok,List.map_toArray,List.map_cons,List.map_nil,hs,hx,hrun]
 exact hK _ _ (h A' cap' w' r1 r2)
section
variable {w w':World} {B k n c:Nat} {e:TypeId} {A:Option Addr} {xs:List Value}
theorem trow_next (h:w.ownsRow B e k (.slice A n c) n xs) (hb:Below w.heap.size w w'):w'.ownsRow B e k (.slice A n c) n xs:=ZaK h fun g hg=>hb.block g (Zdg h g hg).2
theorem trow_set {b j:Nat} (h:w.ownsRow B e k (.slice A n c) n xs) (hb:b<B) (v:Value):(w.setCell ⟨b,j,none⟩ v).ownsRow B e k (.slice A n c) n xs:=ZaK h fun g hg=>ZaS _ _ _ (by have:=(Zdg h g hg).1;show g≠b;omega)
theorem trow_typed (h:w.ownsRow B e k (.slice A n c) n xs):∀ g,blk A=some g→∃ cur,w.heap[g]?=some (.cells cur e (0,0)):=by
 intro g hg
 rcases h.2 with ⟨hv,_⟩ | ⟨g',cap',cur,hv,hb,hh,r⟩
 ·injection hv with a
  rw [a] at hg
  cases hg
 ·injection hv with a
  rw [a] at hg
  have:g'=g:=by simpa [blk] using hg
  subst this
  exact ⟨cur,hh⟩
theorem trow_other {B' k' n' c':Nat} {e':TypeId} {A':Option Addr} {xs':List Value} (h:w.ownsRow B e k (.slice A n c) n xs) (h':w.ownsRow B' e' k' (.slice A' n' c') n' xs') (hne:e≠e') (hg:w.grownBy w' (blk A')):w'.ownsRow B e k (.slice A n c) n xs:=
 ZaK h fun g hA=>hg.block g (Zdg h g hA).2 fun q=>by
  obtain ⟨c1,h1⟩:=trow_typed h g hA
  obtain ⟨c2,h2⟩:=trow_typed h' g q.symm
  rw [h1] at h2
  injection h2 with h2
  injection h2 with _ h2 _
  exact hne h2
end
structure TyS (W0 w:World) (BR tb ib eb kd num:Nat) (SA:Option Addr) (sc ns:Nat) (sX:List Value) (EA:Option Addr) (ec ne:Nat) (eX:List Value) (IA:Option Addr) (ic ni:Nat) (iX:List Value) (AA:Option Addr) (ac na:Nat) (aX:List Value):Prop where
 bel:Below W0.heap.size W0 w
 br:BR≤w.heap.size
 b1:W0.heap.size≤tb∧tb<BR
 b2:W0.heap.size≤ib∧ib<BR
 b3:W0.heap.size≤eb∧eb<BR
 n1:tb≠ib
 n2:tb≠eb
 n3:ib≠eb
 ht:w.heap[tb]?=some (.cells #[.slice SA ns sc,.slice EA ne ec] 26 (0,0))
 hi:w.heap[ib]?=some (.cells #[.slice IA ni ic,.slice none 0 0] 45 (0,0))
 he:w.heap[eb]?=some (.cells #[.int .i64 kd,.string ⟨#[]⟩,.int .u64 num,.slice AA na ac,.int .i64 0] 90 (0,0))
 rs:w.ownsRow BR 93 6 (.slice SA ns sc) ns sX
 re:w.ownsRow BR 90 5 (.slice EA ne ec) ne eX
 ri:w.ownsRow BR 43 2 (.slice IA ni ic) ni iX
 ra:w.ownsRow BR 3 1 (.slice AA na ac) na aX
section
variable {W0 w w1 w2 w':World} {BR tb ib eb kd num:Nat} {SA:Option Addr} {sc ns:Nat} {sX:List Value} {EA:Option Addr} {ec ne:Nat} {eX:List Value} {IA:Option Addr} {ic ni:Nat} {iX:List Value} {AA:Option Addr} {ac na:Nat} {aX:List Value}
theorem TyS.next (h:TyS W0 w BR tb ib eb kd num SA sc ns sX EA ec ne eX IA ic ni iX AA ac na aX) (hb:Below w.heap.size w w'):TyS W0 w' BR tb ib eb kd num SA sc ns sX EA ec ne eX IA ic ni iX AA ac na aX:=
 ⟨bnext h.bel hb,Kah h.br hb.size,h.b1,h.b2,h.b3,h.n1,h.n2,h.n3,(hb.block _ (Kab.1 h.ht).1).trans h.ht,(hb.block _ (Kab.1 h.hi).1).trans h.hi,(hb.block _ (Kab.1 h.he).1).trans h.he,trow_next h.rs hb,trow_next h.re hb,trow_next h.ri hb,trow_next h.ra hb⟩
theorem TyS.grow {k' n' c':Nat} {e':TypeId} {A':Option Addr} {xs':List Value} (h:TyS W0 w BR tb ib eb kd num SA sc ns sX EA ec ne eX IA ic ni iX AA ac na aX) (h':w.ownsRow BR e' k' (.slice A' n' c') n' xs') (hg:w.grownBy w' (blk A')):
  Below W0.heap.size W0 w'∧BR≤w'.heap.size∧w'.heap[tb]?=w.heap[tb]?∧w'.heap[ib]?=w.heap[ib]?∧w'.heap[eb]?=w.heap[eb]?:=by
 have hk:∀ b,b<BR→w'.heap[b]?=w.heap[b]?:=fun b hb=>hg.block b (Kae hb h.br) (fun q=>by have:=(Zdg h' b q.symm).1;omega)
 exact ⟨Zal h.bel hg h.bel.size (fun k hk=>by have h1:=(Zdg h' k hk).1;have h2:=h.b1;omega),Kah h.br hg.size,hk tb h.b1.2,hk ib h.b2.2,hk eb h.b3.2⟩
theorem TyS.pushS {A':Option Addr} {n' c':Nat} {X':List Value} (h:TyS W0 w BR tb ib eb kd num SA sc ns sX EA ec ne eX IA ic ni iX AA ac na aX) (hg:w.grownBy w2 (blk SA)) (hr:w2.ownsRow BR 93 6 (.slice A' n' c') n' X'):
  TyS W0 (w2.setCell ⟨tb,0,none⟩ (.slice A' n' c')) BR tb ib eb kd num A' c' n' X' EA ec ne eX IA ic ni iX AA ac na aX:=by
 obtain ⟨g1,g2,g3,g4,g5⟩:=h.grow h.rs hg
 have ht2:=g3.trans h.ht
 exact ⟨Zaf g1 h.b1.1 _,by simpa [World.setCell] using g2,h.b1,h.b2,h.b3,h.n1,h.n2,h.n3,heap_setCell_same _ _ _ _ _ _ ht2,(ZaS _ _ _ (fun e=>h.n1 e.symm)).trans (g4.trans h.hi),(ZaS _ _ _ (fun e=>h.n2 e.symm)).trans (g5.trans h.he),
  trow_set hr h.b1.2 _,trow_set (trow_other h.re h.rs (by decide) hg) h.b1.2 _,trow_set (trow_other h.ri h.rs (by decide) hg) h.b1.2 _,trow_set (trow_other h.ra h.rs (by decide) hg) h.b1.2 _⟩
theorem TyS.pushE {A':Option Addr} {n' c':Nat} {X':List Value} (h:TyS W0 w BR tb ib eb kd num SA sc ns sX EA ec ne eX IA ic ni iX AA ac na aX) (hg:w.grownBy w2 (blk EA)) (hr:w2.ownsRow BR 90 5 (.slice A' n' c') n' X'):
  TyS W0 (w2.setCell ⟨tb,1,none⟩ (.slice A' n' c')) BR tb ib eb kd num SA sc ns sX A' c' n' X' IA ic ni iX AA ac na aX:=by
 obtain ⟨g1,g2,g3,g4,g5⟩:=h.grow h.re hg
 have ht2:=g3.trans h.ht
 exact ⟨Zaf g1 h.b1.1 _,by simpa [World.setCell] using g2,h.b1,h.b2,h.b3,h.n1,h.n2,h.n3,heap_setCell_same _ _ _ _ _ _ ht2,(ZaS _ _ _ (fun e=>h.n1 e.symm)).trans (g4.trans h.hi),(ZaS _ _ _ (fun e=>h.n2 e.symm)).trans (g5.trans h.he),
  trow_set (trow_other h.rs h.re (by decide) hg) h.b1.2 _,trow_set hr h.b1.2 _,trow_set (trow_other h.ri h.re (by decide) hg) h.b1.2 _,trow_set (trow_other h.ra h.re (by decide) hg) h.b1.2 _⟩
theorem TyS.pushI {A':Option Addr} {n' c':Nat} {X':List Value} (h:TyS W0 w BR tb ib eb kd num SA sc ns sX EA ec ne eX IA ic ni iX AA ac na aX) (hg:w.grownBy w2 (blk IA)) (hr:w2.ownsRow BR 43 2 (.slice A' n' c') n' X'):
  TyS W0 (w2.setCell ⟨ib,0,none⟩ (.slice A' n' c')) BR tb ib eb kd num SA sc ns sX EA ec ne eX A' c' n' X' AA ac na aX:=by
 obtain ⟨g1,g2,g3,g4,g5⟩:=h.grow h.ri hg
 have ht2:=g4.trans h.hi
 exact ⟨Zaf g1 h.b2.1 _,by simpa [World.setCell] using g2,h.b1,h.b2,h.b3,h.n1,h.n2,h.n3,(ZaS _ _ _ h.n1).trans (g3.trans h.ht),heap_setCell_same _ _ _ _ _ _ ht2,(ZaS _ _ _ (fun e=>h.n3 e.symm)).trans (g5.trans h.he),
  trow_set (trow_other h.rs h.ri (by decide) hg) h.b2.2 _,trow_set (trow_other h.re h.ri (by decide) hg) h.b2.2 _,trow_set hr h.b2.2 _,trow_set (trow_other h.ra h.ri (by decide) hg) h.b2.2 _⟩
theorem TyS.pushA {A':Option Addr} {n' c':Nat} {X':List Value} (h:TyS W0 w BR tb ib eb kd num SA sc ns sX EA ec ne eX IA ic ni iX AA ac na aX) (hg:w.grownBy w2 (blk AA)) (hr:w2.ownsRow BR 3 1 (.slice A' n' c') n' X'):
  TyS W0 (w2.setCell ⟨eb,3,none⟩ (.slice A' n' c')) BR tb ib eb kd num SA sc ns sX EA ec ne eX IA ic ni iX A' c' n' X':=by
 obtain ⟨g1,g2,g3,g4,g5⟩:=h.grow h.ra hg
 have ht2:=g5.trans h.he
 exact ⟨Zaf g1 h.b3.1 _,by simpa [World.setCell] using g2,h.b1,h.b2,h.b3,h.n1,h.n2,h.n3,(ZaS _ _ _ h.n2).trans (g3.trans h.ht),(ZaS _ _ _ h.n3).trans (g4.trans h.hi),heap_setCell_same _ _ _ _ _ _ ht2,
  trow_set (trow_other h.rs h.ra (by decide) hg) h.b3.2 _,trow_set (trow_other h.re h.ra (by decide) hg) h.b3.2 _,trow_set (trow_other h.ri h.ra (by decide) hg) h.b3.2 _,trow_set hr h.b3.2 _⟩
theorem TyS.cells (h:TyS W0 w BR tb ib eb kd num SA sc ns sX EA ec ne eX IA ic ni iX AA ac na aX):w.cell? ⟨tb,0,none⟩=some (.slice SA ns sc)∧w.cell? ⟨tb,1,none⟩=some (.slice EA ne ec)∧w.cell? ⟨ib,0,none⟩=some (.slice IA ni ic)∧w.cell? ⟨ib,1,none⟩=some (.slice none 0 0) ∧
  w.cell? ⟨eb,0,none⟩=some (.int .i64 kd)∧w.cell? ⟨eb,1,none⟩=some (.string ⟨#[]⟩)∧w.cell? ⟨eb,2,none⟩=some (.int .u64 num)∧w.cell? ⟨eb,3,none⟩=some (.slice AA na ac)∧w.cell? ⟨eb,4,none⟩=some (.int .i64 0):=
 ⟨Kaa _ _ 0 _ _ _ h.ht,Kaa _ _ 1 _ _ _ h.ht,Kaa _ _ 0 _ _ _ h.hi,Kaa _ _ 1 _ _ _ h.hi,Kaa _ _ 0 _ _ _ h.he,Kaa _ _ 1 _ _ _ h.he,Kaa _ _ 2 _ _ _ h.he,Kaa _ _ 3 _ _ _ h.he,Kaa _ _ 4 _ _ _ h.he⟩
end
theorem made1_any (bx cb a:Nat) (B nc n:Nat) (NA:Option Addr) (ms:List (ND × NV)) (m:ND × NV) (w:World) (hbx:w.cell? ⟨bx,0,none⟩=some (.pointer (some ⟨cb,0,none⟩))) (hcb:w.cell? ⟨cb,3,none⟩=some (.slice NA n nc)) (hn:n=ms.length) (hr:NdRow w B NA nc ms) (hm:ms[a]?=some m):
  Calls Tryz.prog 107 #[.int .i64 (a:Int),.pointer (some ⟨bx,0,none⟩)] w fun e w'=>e=.returned (.bool (!(m.1.kind==2)))∧w=w':=by
 obtain ⟨g,rfl,hg,hc,hv⟩:=hr.at_ hm
 have c0:=hc 0 _ rfl (by omega)
 rw [Nat.add_zero] at c0
 have hlt:=(Kaf.1 hm).1
 rw [←hn] at hlt
 have i0:(0:Int)≤(a:Int):=by omega
 have i1:(a:Int)<(n:Int):=by omega
 obtain ⟨kd,hkd⟩:∃ k,k=m.1.kind:=⟨_,rfl⟩
 rw [←hkd] at c0 ⊢
 clear hr hc hv hm hn hkd
 by_cases h2:kd=2
 ·have q1:((kd:Int) != 2)=false:=by subst h2;rfl
  have HX:=hid (show (!(kd==2))=false from by subst h2;rfl)
  clear h2
  go_enter Tryz.func107,Tryz.ntmps107
  go_wp2
  go_ret
  exact ⟨congrArg (fun b=>Ending.returned (.bool b)) HX.out.symm,rfl⟩
 ·have q1:((kd:Int) != 2)=true:=by
   rw [bne_iff_ne]
   omega
  have HX:=hid (show (!(kd==2))=true from by rw [Kaj.2 h2];rfl)
  clear h2
  go_enter Tryz.func107,Tryz.ntmps107
  go_wp2
  go_ret
  exact ⟨congrArg (fun b=>Ending.returned (.bool b)) HX.out.symm,rfl⟩
theorem constD_at {ms:List (ND × NV)} {a:Nat} {m:ND × NV} (h:ms[a]?=some m):constD (ms.map Prod.fst) a=(m.1.kind==2):=by
 unfold constD
 rw [atD_some (show (ms.map Prod.fst)[a]?=some m.1 by rw [Kal,h];rfl)]
theorem idxA_any (bx cb:Nat) (B nc N:Nat) (NA:Option Addr) (ms:List (ND × NV)) (A:Option Addr) (n c:Nat) (l:List Nat) (w:World) (hbx:w.cell? ⟨bx,0,none⟩=some (.pointer (some ⟨cb,0,none⟩))) (hcb:w.cell? ⟨cb,3,none⟩=some (.slice NA N nc)) (hN:N=ms.length) (hr:NdRow w B NA nc ms) (ha:∀ a∈l,a<ms.length)
  (hn:n=l.length) (hl:n≤9223372036854775807) (h:Rd w w.heap.size A (l.map VNt)):
  Calls Tryz.prog 118 #[.slice A n c,.func (.func 107) #[] #[.pointer (some ⟨bx,0,none⟩)]] w fun e w'=>(∃ r:Int,e=.returned (.int .i64 r)∧decide ((0:Int)≤r) = !l.all (constD (ms.map Prod.fst)))∧w=w':=by
 have HN:=hid hn
 have H:=hid h
 have HA:=hid ha
 have HC:=hid (fun a m (hm:ms[a]?=some m)=>made1_any bx cb a B nc N NA ms m w hbx hcb hN hr hm)
 clear h hbx hcb hn hN hr ha
 go_enter Tryz.func118,Tryz.ntmps118
 go_wp2
 go_loop [5,8] (fun _ iv=>∃ k:Nat,k≤n∧iv=.int .i64 k∧l.all (constD (ms.map Prod.fst))=(l.drop k).all (constD (ms.map Prod.fst))) (fun _ iv=>n-(intOf iv).toNat)
 case atStart=>exact ⟨0,by omega,rfl,rfl⟩
 case round=>
  obtain ⟨k,hk,rfl,hr⟩:=hrel
  have HR:=hid hr
  clear hr
  by_cases hlt:k<n
  ·have ht:l[k]?=some (l[k]'(by rw [←HN.out];exact hlt)):=Kad _
   obtain ⟨d,hd⟩:∃ d,d=l[k]'(by rw [←HN.out];exact hlt):=⟨_,rfl⟩
   rw [←hd] at ht
   have ht2:(l.map VNt)[k]?=some (VNt d):=by rw [Kal,ht];rfl
   obtain ⟨b,o,rfl,hbl,c0⟩:=H.out.at_ ht2
   have c0':w.cell? ⟨b,o+k,none⟩=some (.int .i64 (d:Int)):=c0
   have i0:(0:Int)≤(k:Int):=by omega
   have i1:(k:Int)<(n:Int):=by omega
   have hD:=hid (show (l.drop k).all (constD (ms.map Prod.fst))=(constD (ms.map Prod.fst) d&&(l.drop (k+1)).all (constD (ms.map Prod.fst))) from by
    obtain ⟨hi,he⟩:=Kaf.1 ht
    rw [List.drop_eq_getElem_cons hi,List.all_cons,he])
   have hdl:=HA.out d (Kam ht)
   have hm:ms[d]?=some (ms[d]'hdl):=Kad hdl
   have hcall:=HC.out d _ hm
   rw [←constD_at hm] at hcall
   clear ht ht2 hd c0 hm
   cases ho:constD (ms.map Prod.fst) d with
   | false=>
    have HO:=hid ho
    rw [ho] at hcall
    clear ho
    go_wp2_with (go_at_call 107;refine hcall.mono ?_;rintro e w' ⟨rfl,rfl⟩)
    go_ret
    exact ⟨⟨_,rfl,by rw [HR.out,hD.out,HO.out];simp⟩,rfl⟩
   | true=>
    have HO:=hid ho
    rw [ho] at hcall
    clear ho
    go_wp2_with (go_at_call 107;refine hcall.mono ?_;rintro e w' ⟨rfl,rfl⟩)
    exact ⟨⟨k+1,by omega,rfl,(by rw [HR.out,hD.out,HO.out];rfl)⟩,by simp [intOf];omega⟩
  ·obtain rfl:n=k:=by omega
   have HE:=hid (show l.all (constD (ms.map Prod.fst))=true from by rw [HR.out,HN.out,List.drop_length];rfl)
   go_wp2
   go_ret
   exact ⟨⟨-1,rfl,by rw [HE.out];rfl⟩,rfl⟩
theorem conA_any (bx cb:Nat) (B nc N:Nat) (NA:Option Addr) (ms:List (ND × NV)) (A:Option Addr) (n c:Nat) (l:List Nat) (w:World) (hbx:w.cell? ⟨bx,0,none⟩=some (.pointer (some ⟨cb,0,none⟩))) (hcb:w.cell? ⟨cb,3,none⟩=some (.slice NA N nc)) (hN:N=ms.length) (hr:NdRow w B NA nc ms) (ha:∀ a∈l,a<ms.length)
  (hn:n=l.length) (hl:n≤9223372036854775807) (h:Rd w w.heap.size A (l.map VNt)):
  Calls Tryz.prog 75 #[.slice A n c,.func (.func 107) #[] #[.pointer (some ⟨bx,0,none⟩)]] w fun e w'=>e=.returned (.bool (!l.all (constD (ms.map Prod.fst))))∧w=w':=by
 have HC:=hid (idxA_any bx cb B nc N NA ms A n c l w hbx hcb hN hr ha hn hl h)
 clear h hbx hcb hn hN hr ha
 go_enter Tryz.func75,Tryz.ntmps75
 go_wp2_with (go_at_call 118;refine HC.out.mono ?_;rintro e w' ⟨⟨r,rfl,hr⟩,rfl⟩)
 go_ret
 exact ⟨rfl,rfl⟩
theorem cells_node {w:World} {g:Nat} {m:ND × NV} (h:w.heap[g]?=some (.cells (ndC m).toArray 77 (0,0))):∀ k v,(ndC m)[k]?=some v→w.cell? ⟨g,k,none⟩=some v:=fun k v hv=>by rw [Kaa w g k _ _ (0,0) h];simpa using hv
theorem made2_any (nb:Nat) (m m':ND × NV) (w:World) (hnb:w.heap[nb]?=some (.cells (ndC m').toArray 77 (0,0))) (h:NdR w m) (h':NdR w m'):
  Calls Tryz.prog 110 #[ndA m,.pointer (some ⟨nb,0,none⟩)] w fun e w'=>e=.returned (.bool (decide (m.1=m'.1)))∧Below w.heap.size w w':=by
 obtain ⟨w2,hw2⟩:∃ w2,w2=w.alloc (.cells #[.int .i64 m.1.kind,m.2.sv,m.2.av,.int .i64 m.1.party,.int .i64 m.1.input,.int .i64 m.1.k,m.2.ev] 77):=⟨_,rfl⟩
 have hb2:Below w.heap.size w w2:=by rw [hw2];exact (Kai _ _).alloc (Kag _) _
 have hA:w2.heap[w.heap.size]?=some (.cells (ndC m).toArray 77 (0,0)):=by rw [hw2];exact Kac w _
 have hnb2:=(hb2.block _ (Kab.1 hnb).1).trans hnb
 have HCALL:=hid (dsame_any m m' w2 (h.next hb2) (h'.next hb2))
 have HB2:=hid hb2
 obtain ⟨R,hR⟩:∃ R,R=decide (m.1=m'.1):=⟨_,rfl⟩
 rw [←hR] at HCALL ⊢
 have a:=fun k v hv=>cells_node hA k v hv
 have b:=fun k v hv=>cells_node hnb2 k v hv
 have HW2:=hid hw2
 have a0:=a 0 _ rfl
 have a1:=a 1 _ rfl
 have a2:=a 2 _ rfl
 have a3:=a 3 _ rfl
 have a4:=a 4 _ rfl
 have a5:=a 5 _ rfl
 have a6:=a 6 _ rfl
 have b0:=b 0 _ rfl
 have b1:=b 1 _ rfl
 have b2:=b 2 _ rfl
 have b3:=b 3 _ rfl
 have b4:=b 4 _ rfl
 have b5:=b 5 _ rfl
 have b6:=b 6 _ rfl
 clear hnb h h' hb2 hA hnb2 hR a b hw2
 unfold ndA
 go_enter Tryz.func110,Tryz.ntmps110
 go_upto_region 1 with fail
 rw [←HW2.out]
 go_wp2_with fail
 refine HCALL.out.mono ?_
 rintro e w3 ⟨rfl,hb3⟩
 have HB3:=hid (bnext HB2.out hb3)
 clear hb3 a0 a1 a2 a3 a4 a5 a6 b0 b1 b2 b3 b4 b5 b6
 go_wp2
 go_ret
 exact ⟨rfl,HB3.out⟩
theorem idxD_first {l:List ND} {n:ND} {k:Nat} (h:∀ j,j<k→l[j]?≠some n) (hk:l[k]?=some n):idxD l n=some k:=by
 cases hc:idxD l n with
 | none=>exact absurd hk (idxD_none hc k)
 | some i=>
  obtain ⟨h1,h2⟩:=idxD_some hc
  rcases Nat.lt_trichotomy i k with h3 | h3 | h3
  ·exact absurd h1 (h i h3)
  ·rw [h3]
  ·exact absurd hk (h2 k h3)
theorem idxD_not {l:List ND} {n:ND} (h:∀ j,j<l.length→l[j]?≠some n):idxD l n=none:=by
 cases hc:idxD l n with
 | none=>rfl
 | some i=>
  obtain ⟨h1,h2⟩:=idxD_some hc
  exact absurd h1 (h i (Kaf.1 h1).1)
def idxV (o:Option Nat):Int:=match o with | some i=>i | none => -1
theorem idxN_any (nb:Nat) (B n nc:Nat) (NA:Option Addr) (ms:List (ND × NV)) (m':ND × NV) (w:World) (hn:n=ms.length) (hl:n≤100000) (hr:NdRow w B NA nc ms) (hnb:w.heap[nb]?=some (.cells (ndC m').toArray 77 (0,0))) (h':NdR w m'):
  Calls Tryz.prog 109 #[.slice NA n nc,.func (.func 110) #[] #[.pointer (some ⟨nb,0,none⟩)]] w fun e w'=>e=.returned (.int .i64 (idxV (idxD (ms.map Prod.fst) m'.1)))∧Below w.heap.size w w':=by
 have HN:=hid hn
 have HR:=hid (fun W (hW:Below w.heap.size w W)=>hr.next hW)
 have HC:=hid (fun (m:ND × NV) W (hW:Below w.heap.size w W) (hm:NdR W m)=>made2_any nb m m' W ((hW.block _ (Kab.1 hnb).1).trans hnb) hm (h'.next hW))
 obtain ⟨R,hRR⟩:∃ R,R=idxV (idxD (ms.map Prod.fst) m'.1):=⟨_,rfl⟩
 rw [←hRR]
 have HRR:=hid hRR
 clear hn hr hnb h' hRR
 go_enter Tryz.func109,Tryz.ntmps109
 go_wp2
 go_loopw [5,8] (fun _ iv wr=>∃ k:Nat,k≤n∧iv=.int .i64 k∧Below w.heap.size w wr∧∀ j,j<k→(ms.map Prod.fst)[j]?≠some m'.1) (fun _ iv _=>n-(intOf iv).toNat)
 case atStart=>exact ⟨0,by omega,rfl,Kai _ _,fun j hj=>by omega⟩
 case round=>
  obtain ⟨k,hk,rfl,hb,hno⟩:=hrel
  have HB:=hid hb
  have HNO:=hid hno
  clear hno
  by_cases hlt:k<n
  ·have hm:ms[k]?=some (ms[k]'(by rw [←HN.out];exact hlt)):=Kad _
   obtain ⟨m,hmm⟩:∃ m,m=ms[k]'(by rw [←HN.out];exact hlt):=⟨_,rfl⟩
   rw [←hmm] at hm
   obtain ⟨g,rfl,hg,hc,hv⟩:=(HR.out _ hb).at_ hm
   have HM:=hid (show (ms.map Prod.fst)[k]?=some m.1 by rw [Kal,hm];rfl)
   have HCM:=hid (HC.out m wr hb hv.rd)
   have c0:=hc 0 _ rfl (by omega)
   rw [Nat.add_zero] at c0
   have c1:=hc 1 _ rfl (by omega)
   have c2:=hc 2 _ rfl (by omega)
   have c3:=hc 3 _ rfl (by omega)
   have c4:=hc 4 _ rfl (by omega)
   have c5:=hc 5 _ rfl (by omega)
   have c6:=hc 6 _ rfl (by omega)
   have i0:(0:Int)≤(k:Int):=by omega
   have i1:(k:Int)<(n:Int):=by omega
   clear hm hmm hc hv hb hg
   by_cases he:m.1=m'.1
   ·rw [show decide (m.1=m'.1)=true from decide_eq_true he] at HCM
    have HX:=hid (show R=(k:Int) from by rw [HRR.out,idxD_first HNO.out (by rw [HM.out,he])];rfl)
    clear he
    go_wp2_with fail
    refine HCM.out.mono ?_
    rintro e w3 ⟨rfl,hb3⟩
    have HB3:=hid (bnext HB.out hb3)
    clear hb3 c0 c1 c2 c3 c4 c5 c6
    go_wp2
    go_ret
    exact ⟨by rw [HX.out];rfl,HB3.out⟩
   ·rw [show decide (m.1=m'.1)=false from decide_eq_false he] at HCM
    have HX:=hid (show ∀ j,j<k+1→(ms.map Prod.fst)[j]?≠some m'.1 from fun j hj=>by
     rcases Nat.lt_or_ge j k with h1 | h1
     ·exact HNO.out j h1
     ·rw [show j=k from by omega,HM.out]
      exact fun e=>he (Option.some.inj e))
    clear he
    go_wp2_with fail
    refine HCM.out.mono ?_
    rintro e w3 ⟨rfl,hb3⟩
    have HB3:=hid (bnext HB.out hb3)
    clear hb3 c0 c1 c2 c3 c4 c5 c6
    go_wp2
    exact ⟨⟨k+1,by omega,rfl,HB3.out,HX.out⟩,by simp [intOf];omega⟩
  ·obtain rfl:n=k:=by omega
   have HX:=hid (show R = -1 from by rw [HRR.out,idxD_not (fun j hj=>HNO.out j (by rw [HN.out,←Kak (f:=Prod.fst)];exact hj))];rfl)
   go_wp2
   go_ret
   exact ⟨by rw [HX.out];rfl,HB.out⟩
end Go.Proofs.YtghlnncfigkkaaaGreatDoor
