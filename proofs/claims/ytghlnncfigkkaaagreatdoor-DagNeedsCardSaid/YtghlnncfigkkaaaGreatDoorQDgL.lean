/-
 Two nodes held together: the document's Same.
-/
import Derived.Test.YtghlnncfigkkaaaGreatDoorQDgB
import Derived.Test.YtghlnncfigkkaaaGreatDoorQDgE
import Derived.Test.YtghlnncfigkkaaaGreatDoorQChkQ
import Derived.Test.YtghlnncfigkkaaaGreatDoorQDgJ
import Derived.Test.YtghlnncfigkkaaaGreatDoorQEvAT
set_option maxRecDepth 100000
set_option maxHeartbeats 8000000
open Go.Lib (hid)
set_option linter.unusedVariables false
set_option linter.unusedSimpArgs false
namespace Go.Proofs.YtghlnncfigkkaaaGreatDoor
open Go.RowKit
theorem rsame_any (m m':ND × NV) (w:World) (h:NdR w m) (h':NdR w m'):Calls Tryz.prog 36 #[ndA m,ndA m'] w fun e w'=>e=.returned (.bool (decide (m.1=m'.1)))∧Below w.heap.size w w':=by
 obtain ⟨⟨kd,sh,ar,pa,ip,kk,el⟩,⟨sv,av,ev⟩⟩:=m
 obtain ⟨⟨kd',sh',ar',pa',ip',kk',el'⟩,⟨sv',av',ev'⟩⟩:=m'
 obtain ⟨l1,l2,l3,⟨A1,c1,e1,r1,_⟩,⟨A2,c2,e2,r2,_⟩,A3,c3,e3,r3,_⟩:=h
 obtain ⟨l1',l2',l3',⟨A1',c1',e1',r1',_⟩,⟨A2',c2',e2',r2',_⟩,A3',c3',e3',r3',_⟩:=h'
 dsimp only at l1 l2 l3 e1 e2 e3 r1 r2 r3 l1' l2' l3' e1' e2' e3' r1' r2' r3'
 subst e1 e2 e3 e1' e2' e3'
 rw [vnt_map] at r2 r2'
 obtain ⟨n1,hn1⟩:∃ n,n=sh.length:=⟨_,rfl⟩
 obtain ⟨n2,hn2⟩:∃ n,n=ar.length:=⟨_,rfl⟩
 obtain ⟨n3,hn3⟩:∃ n,n=el.length:=⟨_,rfl⟩
 obtain ⟨n1',hn1'⟩:∃ n,n=sh'.length:=⟨_,rfl⟩
 obtain ⟨n2',hn2'⟩:∃ n,n=ar'.length:=⟨_,rfl⟩
 obtain ⟨n3',hn3'⟩:∃ n,n=el'.length:=⟨_,rfl⟩
 rw [←hn1] at l1
 rw [←hn2] at l2
 rw [←hn3] at l3
 rw [←hn1'] at l1'
 rw [←hn2'] at l2'
 rw [←hn3'] at l3'
 obtain ⟨w2,hw2⟩:∃ w2,w2=(w.alloc (.cells #[.int .i64 kd,.slice A1 n1 c1,.slice A2 n2 c2,.int .i64 pa,.int .i64 ip,.int .i64 kk,.slice A3 n3 c3] 77)).alloc (.cells #[.int .i64 kd',.slice A1' n1' c1',.slice A2' n2' c2',.int .i64 pa',.int .i64 ip',.int .i64 kk',.slice A3' n3' c3'] 77):=⟨_,rfl⟩
 have hb2:Below w.heap.size w w2:=by rw [hw2];exact ((Kai _ _).alloc (Kag _) _).alloc (by simp) _
 have hA:w2.heap[w.heap.size]?=some (.cells #[.int .i64 kd,.slice A1 n1 c1,.slice A2 n2 c2,.int .i64 pa,.int .i64 ip,.int .i64 kk,.slice A3 n3 c3] 77 (0,0)):=by
  rw [hw2,Below.heap_alloc _ _ _ (by simp)];exact Kac w _
 have hI:w2.heap[w.heap.size+1]?=some (.cells #[.int .i64 kd',.slice A1' n1' c1',.slice A2' n2' c2',.int .i64 pa',.int .i64 ip',.int .i64 kk',.slice A3' n3' c3'] 77 (0,0)):=by
  rw [hw2]
  have:=Kac (w.alloc (.cells #[.int .i64 kd,.slice A1 n1 c1,.slice A2 n2 c2,.int .i64 pa,.int .i64 ip,.int .i64 kk,.slice A3 n3 c3] 77)) (.cells #[.int .i64 kd',.slice A1' n1' c1',.slice A2' n2' c2',.int .i64 pa',.int .i64 ip',.int .i64 kk',.slice A3' n3' c3'] 77)
  rwa [World.size_alloc] at this
 have HW2:=hid hw2
 have HB2:=hid hb2
 have HCA:=hid (fun W (hW:Below w2.heap.size w2 W)=>(hW.block _ (Kab.1 hA).1).trans hA)
 have HCI:=hid (fun W (hW:Below w2.heap.size w2 W)=>(hW.block _ (Kab.1 hI).1).trans hI)
 have HE1:=hid (fun W (hW:Below w2.heap.size w2 W)=>Zba A1 A1' n1 n1' c1 c1' sh sh' W hn1 hn1' (by omega) (by omega) ((r1.next hb2).next hW) ((r1'.next hb2).next hW))
 have HE2:=hid (fun W (hW:Below w2.heap.size w2 W)=>Zba A2 A2' n2 n2' c2 c2' (ar.map Int.ofNat) (ar'.map Int.ofNat) W (by rw [Kak];exact hn2) (by rw [Kak];exact hn2') (by omega) (by omega) ((r2.next hb2).next hW) ((r2'.next hb2).next hW))
 have HE3:=hid (fun W (hW:Below w2.heap.size w2 W)=>words2_any A3 A3' n3 n3' c3 c3' el el' W hn3 hn3' (by omega) (by omega) ((r3.next hb2).next hW) ((r3'.next hb2).next hW))
 have HAR:=hid (show ((ar.map Int.ofNat)==(ar'.map Int.ofNat))=(ar==ar') from mapN_beq ar ar')
 unfold ndA
 dsimp only
 obtain ⟨R,hR⟩:∃ R,R=decide ((⟨kd,sh,ar,pa,ip,kk,el⟩:ND)=⟨kd',sh',ar',pa',ip',kk',el'⟩):=⟨_,rfl⟩
 rw [←hR]
 rw [←hn1,←hn2,←hn3,←hn1',←hn2',←hn3']
 clear hw2 hb2 hn1 hn2 hn3 hn1' hn2' hn3' r1 r2 r3 r1' r2' r3'
 by_cases d0:kd=kd'
 ·by_cases d1:pa=pa'
  ·by_cases d2:ip=ip'
   ·by_cases d3:kk=kk'
    ·by_cases d4:sh=sh'
     ·by_cases d5:ar=ar'
      ·by_cases d6:el=el'
       ·have HX:=hid (show R=true from hR.trans (decide_eq_true (by rw [d0,d1,d2,d3,d4,d5,d6])))
        have q0:((kd:Int)==(kd':Int))=true:=by rw [d0];simp
        have q1:((pa:Int)==(pa':Int))=true:=by rw [d1];simp
        have q2:((ip:Int)==(ip':Int))=true:=by rw [d2];simp
        have q3:((kk:Int)==(kk':Int))=true:=by rw [d3];simp
        have p0:=hid (show (sh==sh')=true from by rw [d4];simp)
        have p1:=hid (show (ar==ar')=true from by rw [d5];simp)
        have p2:=hid (show (el==el')=true from by rw [d6];simp)
        clear hR d0 d1 d2 d3 d4 d5 d6
        go_enter Tryz.func36,Tryz.ntmps36
        go_upto_region 1 with fail
        rw [←HW2.out]
        have B:=hid (Kai w2.heap.size w2)
        have za:=HCA.out w2 B.out
        have zi:=HCI.out w2 B.out
        have a0:=Kaa _ _ 0 _ _ _ za
        have b0:=Kaa _ _ 0 _ _ _ zi
        have a1:=Kaa _ _ 1 _ _ _ za
        have b1:=Kaa _ _ 1 _ _ _ zi
        have a2:=Kaa _ _ 2 _ _ _ za
        have b2:=Kaa _ _ 2 _ _ _ zi
        have a3:=Kaa _ _ 3 _ _ _ za
        have b3:=Kaa _ _ 3 _ _ _ zi
        have a4:=Kaa _ _ 4 _ _ _ za
        have b4:=Kaa _ _ 4 _ _ _ zi
        have a5:=Kaa _ _ 5 _ _ _ za
        have b5:=Kaa _ _ 5 _ _ _ zi
        have a6:=Kaa _ _ 6 _ _ _ za
        have b6:=Kaa _ _ 6 _ _ _ zi
        clear za zi
        go_wp2_with fail
        refine (HE1.out _ B.out).mono ?_
        rintro e w3 ⟨rfl,qq0,hq0⟩
        have B:=hid (show Below w2.heap.size w2 w3 from by rw [hq0];exact Zaa B.out _)
        rw [p0.out]
        clear a0 b0 a1 b1 a2 b2 a3 b3 a4 b4 a5 b5 a6 b6 hq0
        have za:=HCA.out w3 B.out
        have zi:=HCI.out w3 B.out
        have a0:=Kaa _ _ 0 _ _ _ za
        have b0:=Kaa _ _ 0 _ _ _ zi
        have a1:=Kaa _ _ 1 _ _ _ za
        have b1:=Kaa _ _ 1 _ _ _ zi
        have a2:=Kaa _ _ 2 _ _ _ za
        have b2:=Kaa _ _ 2 _ _ _ zi
        have a3:=Kaa _ _ 3 _ _ _ za
        have b3:=Kaa _ _ 3 _ _ _ zi
        have a4:=Kaa _ _ 4 _ _ _ za
        have b4:=Kaa _ _ 4 _ _ _ zi
        have a5:=Kaa _ _ 5 _ _ _ za
        have b5:=Kaa _ _ 5 _ _ _ zi
        have a6:=Kaa _ _ 6 _ _ _ za
        have b6:=Kaa _ _ 6 _ _ _ zi
        clear za zi
        go_wp2_with fail
        refine (HE2.out _ B.out).mono ?_
        rintro e w4 ⟨rfl,qq1,hq1⟩
        have B:=hid (show Below w2.heap.size w2 w4 from by rw [hq1];exact Zaa B.out _)
        rw [HAR.out]
        rw [p1.out]
        clear a0 b0 a1 b1 a2 b2 a3 b3 a4 b4 a5 b5 a6 b6 hq1
        have za:=HCA.out w4 B.out
        have zi:=HCI.out w4 B.out
        have a0:=Kaa _ _ 0 _ _ _ za
        have b0:=Kaa _ _ 0 _ _ _ zi
        have a1:=Kaa _ _ 1 _ _ _ za
        have b1:=Kaa _ _ 1 _ _ _ zi
        have a2:=Kaa _ _ 2 _ _ _ za
        have b2:=Kaa _ _ 2 _ _ _ zi
        have a3:=Kaa _ _ 3 _ _ _ za
        have b3:=Kaa _ _ 3 _ _ _ zi
        have a4:=Kaa _ _ 4 _ _ _ za
        have b4:=Kaa _ _ 4 _ _ _ zi
        have a5:=Kaa _ _ 5 _ _ _ za
        have b5:=Kaa _ _ 5 _ _ _ zi
        have a6:=Kaa _ _ 6 _ _ _ za
        have b6:=Kaa _ _ 6 _ _ _ zi
        clear za zi
        go_wp2_with fail
        refine (HE3.out _ B.out).mono ?_
        rintro e w5 ⟨rfl,qq2,hq2⟩
        have B:=hid (show Below w2.heap.size w2 w5 from by rw [hq2];exact Zaa B.out _)
        rw [p2.out]
        clear a0 b0 a1 b1 a2 b2 a3 b3 a4 b4 a5 b5 a6 b6 hq2
        have za:=HCA.out w5 B.out
        have zi:=HCI.out w5 B.out
        have a0:=Kaa _ _ 0 _ _ _ za
        have b0:=Kaa _ _ 0 _ _ _ zi
        have a1:=Kaa _ _ 1 _ _ _ za
        have b1:=Kaa _ _ 1 _ _ _ zi
        have a2:=Kaa _ _ 2 _ _ _ za
        have b2:=Kaa _ _ 2 _ _ _ zi
        have a3:=Kaa _ _ 3 _ _ _ za
        have b3:=Kaa _ _ 3 _ _ _ zi
        have a4:=Kaa _ _ 4 _ _ _ za
        have b4:=Kaa _ _ 4 _ _ _ zi
        have a5:=Kaa _ _ 5 _ _ _ za
        have b5:=Kaa _ _ 5 _ _ _ zi
        have a6:=Kaa _ _ 6 _ _ _ za
        have b6:=Kaa _ _ 6 _ _ _ zi
        clear za zi
        go_wp2
        go_ret
        exact ⟨congrArg (fun b=>Ending.returned (.bool b)) HX.out.symm,bnext HB2.out B.out⟩
       ·have HX:=hid (show R=false from hR.trans (decide_eq_false (fun e=>by injection e;contradiction)))
        have q0:((kd:Int)==(kd':Int))=true:=by rw [d0];simp
        have q1:((pa:Int)==(pa':Int))=true:=by rw [d1];simp
        have q2:((ip:Int)==(ip':Int))=true:=by rw [d2];simp
        have q3:((kk:Int)==(kk':Int))=true:=by rw [d3];simp
        have p0:=hid (show (sh==sh')=true from by rw [d4];simp)
        have p1:=hid (show (ar==ar')=true from by rw [d5];simp)
        have p2:=hid (show (el==el')=false from by rw [Kaj];exact d6)
        clear hR d0 d1 d2 d3 d4 d5 d6
        go_enter Tryz.func36,Tryz.ntmps36
        go_upto_region 1 with fail
        rw [←HW2.out]
        have B:=hid (Kai w2.heap.size w2)
        have za:=HCA.out w2 B.out
        have zi:=HCI.out w2 B.out
        have a0:=Kaa _ _ 0 _ _ _ za
        have b0:=Kaa _ _ 0 _ _ _ zi
        have a1:=Kaa _ _ 1 _ _ _ za
        have b1:=Kaa _ _ 1 _ _ _ zi
        have a2:=Kaa _ _ 2 _ _ _ za
        have b2:=Kaa _ _ 2 _ _ _ zi
        have a3:=Kaa _ _ 3 _ _ _ za
        have b3:=Kaa _ _ 3 _ _ _ zi
        have a4:=Kaa _ _ 4 _ _ _ za
        have b4:=Kaa _ _ 4 _ _ _ zi
        have a5:=Kaa _ _ 5 _ _ _ za
        have b5:=Kaa _ _ 5 _ _ _ zi
        have a6:=Kaa _ _ 6 _ _ _ za
        have b6:=Kaa _ _ 6 _ _ _ zi
        clear za zi
        go_wp2_with fail
        refine (HE1.out _ B.out).mono ?_
        rintro e w3 ⟨rfl,qq0,hq0⟩
        have B:=hid (show Below w2.heap.size w2 w3 from by rw [hq0];exact Zaa B.out _)
        rw [p0.out]
        clear a0 b0 a1 b1 a2 b2 a3 b3 a4 b4 a5 b5 a6 b6 hq0
        have za:=HCA.out w3 B.out
        have zi:=HCI.out w3 B.out
        have a0:=Kaa _ _ 0 _ _ _ za
        have b0:=Kaa _ _ 0 _ _ _ zi
        have a1:=Kaa _ _ 1 _ _ _ za
        have b1:=Kaa _ _ 1 _ _ _ zi
        have a2:=Kaa _ _ 2 _ _ _ za
        have b2:=Kaa _ _ 2 _ _ _ zi
        have a3:=Kaa _ _ 3 _ _ _ za
        have b3:=Kaa _ _ 3 _ _ _ zi
        have a4:=Kaa _ _ 4 _ _ _ za
        have b4:=Kaa _ _ 4 _ _ _ zi
        have a5:=Kaa _ _ 5 _ _ _ za
        have b5:=Kaa _ _ 5 _ _ _ zi
        have a6:=Kaa _ _ 6 _ _ _ za
        have b6:=Kaa _ _ 6 _ _ _ zi
        clear za zi
        go_wp2_with fail
        refine (HE2.out _ B.out).mono ?_
        rintro e w4 ⟨rfl,qq1,hq1⟩
        have B:=hid (show Below w2.heap.size w2 w4 from by rw [hq1];exact Zaa B.out _)
        rw [HAR.out]
        rw [p1.out]
        clear a0 b0 a1 b1 a2 b2 a3 b3 a4 b4 a5 b5 a6 b6 hq1
        have za:=HCA.out w4 B.out
        have zi:=HCI.out w4 B.out
        have a0:=Kaa _ _ 0 _ _ _ za
        have b0:=Kaa _ _ 0 _ _ _ zi
        have a1:=Kaa _ _ 1 _ _ _ za
        have b1:=Kaa _ _ 1 _ _ _ zi
        have a2:=Kaa _ _ 2 _ _ _ za
        have b2:=Kaa _ _ 2 _ _ _ zi
        have a3:=Kaa _ _ 3 _ _ _ za
        have b3:=Kaa _ _ 3 _ _ _ zi
        have a4:=Kaa _ _ 4 _ _ _ za
        have b4:=Kaa _ _ 4 _ _ _ zi
        have a5:=Kaa _ _ 5 _ _ _ za
        have b5:=Kaa _ _ 5 _ _ _ zi
        have a6:=Kaa _ _ 6 _ _ _ za
        have b6:=Kaa _ _ 6 _ _ _ zi
        clear za zi
        go_wp2_with fail
        refine (HE3.out _ B.out).mono ?_
        rintro e w5 ⟨rfl,qq2,hq2⟩
        have B:=hid (show Below w2.heap.size w2 w5 from by rw [hq2];exact Zaa B.out _)
        rw [p2.out]
        clear a0 b0 a1 b1 a2 b2 a3 b3 a4 b4 a5 b5 a6 b6 hq2
        have za:=HCA.out w5 B.out
        have zi:=HCI.out w5 B.out
        have a0:=Kaa _ _ 0 _ _ _ za
        have b0:=Kaa _ _ 0 _ _ _ zi
        have a1:=Kaa _ _ 1 _ _ _ za
        have b1:=Kaa _ _ 1 _ _ _ zi
        have a2:=Kaa _ _ 2 _ _ _ za
        have b2:=Kaa _ _ 2 _ _ _ zi
        have a3:=Kaa _ _ 3 _ _ _ za
        have b3:=Kaa _ _ 3 _ _ _ zi
        have a4:=Kaa _ _ 4 _ _ _ za
        have b4:=Kaa _ _ 4 _ _ _ zi
        have a5:=Kaa _ _ 5 _ _ _ za
        have b5:=Kaa _ _ 5 _ _ _ zi
        have a6:=Kaa _ _ 6 _ _ _ za
        have b6:=Kaa _ _ 6 _ _ _ zi
        clear za zi
        go_wp2
        go_ret
        exact ⟨congrArg (fun b=>Ending.returned (.bool b)) HX.out.symm,bnext HB2.out B.out⟩
      ·have HX:=hid (show R=false from hR.trans (decide_eq_false (fun e=>by injection e;contradiction)))
       have q0:((kd:Int)==(kd':Int))=true:=by rw [d0];simp
       have q1:((pa:Int)==(pa':Int))=true:=by rw [d1];simp
       have q2:((ip:Int)==(ip':Int))=true:=by rw [d2];simp
       have q3:((kk:Int)==(kk':Int))=true:=by rw [d3];simp
       have p0:=hid (show (sh==sh')=true from by rw [d4];simp)
       have p1:=hid (show (ar==ar')=false from by rw [Kaj];exact d5)
       clear hR d0 d1 d2 d3 d4 d5
       go_enter Tryz.func36,Tryz.ntmps36
       go_upto_region 1 with fail
       rw [←HW2.out]
       have B:=hid (Kai w2.heap.size w2)
       have za:=HCA.out w2 B.out
       have zi:=HCI.out w2 B.out
       have a0:=Kaa _ _ 0 _ _ _ za
       have b0:=Kaa _ _ 0 _ _ _ zi
       have a1:=Kaa _ _ 1 _ _ _ za
       have b1:=Kaa _ _ 1 _ _ _ zi
       have a2:=Kaa _ _ 2 _ _ _ za
       have b2:=Kaa _ _ 2 _ _ _ zi
       have a3:=Kaa _ _ 3 _ _ _ za
       have b3:=Kaa _ _ 3 _ _ _ zi
       have a4:=Kaa _ _ 4 _ _ _ za
       have b4:=Kaa _ _ 4 _ _ _ zi
       have a5:=Kaa _ _ 5 _ _ _ za
       have b5:=Kaa _ _ 5 _ _ _ zi
       have a6:=Kaa _ _ 6 _ _ _ za
       have b6:=Kaa _ _ 6 _ _ _ zi
       clear za zi
       go_wp2_with fail
       refine (HE1.out _ B.out).mono ?_
       rintro e w3 ⟨rfl,qq0,hq0⟩
       have B:=hid (show Below w2.heap.size w2 w3 from by rw [hq0];exact Zaa B.out _)
       rw [p0.out]
       clear a0 b0 a1 b1 a2 b2 a3 b3 a4 b4 a5 b5 a6 b6 hq0
       have za:=HCA.out w3 B.out
       have zi:=HCI.out w3 B.out
       have a0:=Kaa _ _ 0 _ _ _ za
       have b0:=Kaa _ _ 0 _ _ _ zi
       have a1:=Kaa _ _ 1 _ _ _ za
       have b1:=Kaa _ _ 1 _ _ _ zi
       have a2:=Kaa _ _ 2 _ _ _ za
       have b2:=Kaa _ _ 2 _ _ _ zi
       have a3:=Kaa _ _ 3 _ _ _ za
       have b3:=Kaa _ _ 3 _ _ _ zi
       have a4:=Kaa _ _ 4 _ _ _ za
       have b4:=Kaa _ _ 4 _ _ _ zi
       have a5:=Kaa _ _ 5 _ _ _ za
       have b5:=Kaa _ _ 5 _ _ _ zi
       have a6:=Kaa _ _ 6 _ _ _ za
       have b6:=Kaa _ _ 6 _ _ _ zi
       clear za zi
       go_wp2_with fail
       refine (HE2.out _ B.out).mono ?_
       rintro e w4 ⟨rfl,qq1,hq1⟩
       have B:=hid (show Below w2.heap.size w2 w4 from by rw [hq1];exact Zaa B.out _)
       rw [HAR.out]
       rw [p1.out]
       clear a0 b0 a1 b1 a2 b2 a3 b3 a4 b4 a5 b5 a6 b6 hq1
       have za:=HCA.out w4 B.out
       have zi:=HCI.out w4 B.out
       have a0:=Kaa _ _ 0 _ _ _ za
       have b0:=Kaa _ _ 0 _ _ _ zi
       have a1:=Kaa _ _ 1 _ _ _ za
       have b1:=Kaa _ _ 1 _ _ _ zi
       have a2:=Kaa _ _ 2 _ _ _ za
       have b2:=Kaa _ _ 2 _ _ _ zi
       have a3:=Kaa _ _ 3 _ _ _ za
       have b3:=Kaa _ _ 3 _ _ _ zi
       have a4:=Kaa _ _ 4 _ _ _ za
       have b4:=Kaa _ _ 4 _ _ _ zi
       have a5:=Kaa _ _ 5 _ _ _ za
       have b5:=Kaa _ _ 5 _ _ _ zi
       have a6:=Kaa _ _ 6 _ _ _ za
       have b6:=Kaa _ _ 6 _ _ _ zi
       clear za zi
       go_wp2
       go_ret
       exact ⟨congrArg (fun b=>Ending.returned (.bool b)) HX.out.symm,bnext HB2.out B.out⟩
     ·have HX:=hid (show R=false from hR.trans (decide_eq_false (fun e=>by injection e;contradiction)))
      have q0:((kd:Int)==(kd':Int))=true:=by rw [d0];simp
      have q1:((pa:Int)==(pa':Int))=true:=by rw [d1];simp
      have q2:((ip:Int)==(ip':Int))=true:=by rw [d2];simp
      have q3:((kk:Int)==(kk':Int))=true:=by rw [d3];simp
      have p0:=hid (show (sh==sh')=false from by rw [Kaj];exact d4)
      clear hR d0 d1 d2 d3 d4
      go_enter Tryz.func36,Tryz.ntmps36
      go_upto_region 1 with fail
      rw [←HW2.out]
      have B:=hid (Kai w2.heap.size w2)
      have za:=HCA.out w2 B.out
      have zi:=HCI.out w2 B.out
      have a0:=Kaa _ _ 0 _ _ _ za
      have b0:=Kaa _ _ 0 _ _ _ zi
      have a1:=Kaa _ _ 1 _ _ _ za
      have b1:=Kaa _ _ 1 _ _ _ zi
      have a2:=Kaa _ _ 2 _ _ _ za
      have b2:=Kaa _ _ 2 _ _ _ zi
      have a3:=Kaa _ _ 3 _ _ _ za
      have b3:=Kaa _ _ 3 _ _ _ zi
      have a4:=Kaa _ _ 4 _ _ _ za
      have b4:=Kaa _ _ 4 _ _ _ zi
      have a5:=Kaa _ _ 5 _ _ _ za
      have b5:=Kaa _ _ 5 _ _ _ zi
      have a6:=Kaa _ _ 6 _ _ _ za
      have b6:=Kaa _ _ 6 _ _ _ zi
      clear za zi
      go_wp2_with fail
      refine (HE1.out _ B.out).mono ?_
      rintro e w3 ⟨rfl,qq0,hq0⟩
      have B:=hid (show Below w2.heap.size w2 w3 from by rw [hq0];exact Zaa B.out _)
      rw [p0.out]
      clear a0 b0 a1 b1 a2 b2 a3 b3 a4 b4 a5 b5 a6 b6 hq0
      have za:=HCA.out w3 B.out
      have zi:=HCI.out w3 B.out
      have a0:=Kaa _ _ 0 _ _ _ za
      have b0:=Kaa _ _ 0 _ _ _ zi
      have a1:=Kaa _ _ 1 _ _ _ za
      have b1:=Kaa _ _ 1 _ _ _ zi
      have a2:=Kaa _ _ 2 _ _ _ za
      have b2:=Kaa _ _ 2 _ _ _ zi
      have a3:=Kaa _ _ 3 _ _ _ za
      have b3:=Kaa _ _ 3 _ _ _ zi
      have a4:=Kaa _ _ 4 _ _ _ za
      have b4:=Kaa _ _ 4 _ _ _ zi
      have a5:=Kaa _ _ 5 _ _ _ za
      have b5:=Kaa _ _ 5 _ _ _ zi
      have a6:=Kaa _ _ 6 _ _ _ za
      have b6:=Kaa _ _ 6 _ _ _ zi
      clear za zi
      go_wp2
      go_ret
      exact ⟨congrArg (fun b=>Ending.returned (.bool b)) HX.out.symm,bnext HB2.out B.out⟩
    ·have HX:=hid (show R=false from hR.trans (decide_eq_false (fun e=>by injection e;contradiction)))
     have q0:((kd:Int)==(kd':Int))=true:=by rw [d0];simp
     have q1:((pa:Int)==(pa':Int))=true:=by rw [d1];simp
     have q2:((ip:Int)==(ip':Int))=true:=by rw [d2];simp
     have q3:((kk:Int)==(kk':Int))=false:=by rw [Kaj];omega
     clear hR d0 d1 d2 d3
     go_enter Tryz.func36,Tryz.ntmps36
     go_upto_region 1 with fail
     rw [←HW2.out]
     have B:=hid (Kai w2.heap.size w2)
     have za:=HCA.out w2 B.out
     have zi:=HCI.out w2 B.out
     have a0:=Kaa _ _ 0 _ _ _ za
     have b0:=Kaa _ _ 0 _ _ _ zi
     have a1:=Kaa _ _ 1 _ _ _ za
     have b1:=Kaa _ _ 1 _ _ _ zi
     have a2:=Kaa _ _ 2 _ _ _ za
     have b2:=Kaa _ _ 2 _ _ _ zi
     have a3:=Kaa _ _ 3 _ _ _ za
     have b3:=Kaa _ _ 3 _ _ _ zi
     have a4:=Kaa _ _ 4 _ _ _ za
     have b4:=Kaa _ _ 4 _ _ _ zi
     have a5:=Kaa _ _ 5 _ _ _ za
     have b5:=Kaa _ _ 5 _ _ _ zi
     have a6:=Kaa _ _ 6 _ _ _ za
     have b6:=Kaa _ _ 6 _ _ _ zi
     clear za zi
     go_wp2
     go_ret
     exact ⟨congrArg (fun b=>Ending.returned (.bool b)) HX.out.symm,bnext HB2.out B.out⟩
   ·have HX:=hid (show R=false from hR.trans (decide_eq_false (fun e=>by injection e;contradiction)))
    have q0:((kd:Int)==(kd':Int))=true:=by rw [d0];simp
    have q1:((pa:Int)==(pa':Int))=true:=by rw [d1];simp
    have q2:((ip:Int)==(ip':Int))=false:=by rw [Kaj];omega
    clear hR d0 d1 d2
    go_enter Tryz.func36,Tryz.ntmps36
    go_upto_region 1 with fail
    rw [←HW2.out]
    have B:=hid (Kai w2.heap.size w2)
    have za:=HCA.out w2 B.out
    have zi:=HCI.out w2 B.out
    have a0:=Kaa _ _ 0 _ _ _ za
    have b0:=Kaa _ _ 0 _ _ _ zi
    have a1:=Kaa _ _ 1 _ _ _ za
    have b1:=Kaa _ _ 1 _ _ _ zi
    have a2:=Kaa _ _ 2 _ _ _ za
    have b2:=Kaa _ _ 2 _ _ _ zi
    have a3:=Kaa _ _ 3 _ _ _ za
    have b3:=Kaa _ _ 3 _ _ _ zi
    have a4:=Kaa _ _ 4 _ _ _ za
    have b4:=Kaa _ _ 4 _ _ _ zi
    have a5:=Kaa _ _ 5 _ _ _ za
    have b5:=Kaa _ _ 5 _ _ _ zi
    have a6:=Kaa _ _ 6 _ _ _ za
    have b6:=Kaa _ _ 6 _ _ _ zi
    clear za zi
    go_wp2
    go_ret
    exact ⟨congrArg (fun b=>Ending.returned (.bool b)) HX.out.symm,bnext HB2.out B.out⟩
  ·have HX:=hid (show R=false from hR.trans (decide_eq_false (fun e=>by injection e;contradiction)))
   have q0:((kd:Int)==(kd':Int))=true:=by rw [d0];simp
   have q1:((pa:Int)==(pa':Int))=false:=by rw [Kaj];omega
   clear hR d0 d1
   go_enter Tryz.func36,Tryz.ntmps36
   go_upto_region 1 with fail
   rw [←HW2.out]
   have B:=hid (Kai w2.heap.size w2)
   have za:=HCA.out w2 B.out
   have zi:=HCI.out w2 B.out
   have a0:=Kaa _ _ 0 _ _ _ za
   have b0:=Kaa _ _ 0 _ _ _ zi
   have a1:=Kaa _ _ 1 _ _ _ za
   have b1:=Kaa _ _ 1 _ _ _ zi
   have a2:=Kaa _ _ 2 _ _ _ za
   have b2:=Kaa _ _ 2 _ _ _ zi
   have a3:=Kaa _ _ 3 _ _ _ za
   have b3:=Kaa _ _ 3 _ _ _ zi
   have a4:=Kaa _ _ 4 _ _ _ za
   have b4:=Kaa _ _ 4 _ _ _ zi
   have a5:=Kaa _ _ 5 _ _ _ za
   have b5:=Kaa _ _ 5 _ _ _ zi
   have a6:=Kaa _ _ 6 _ _ _ za
   have b6:=Kaa _ _ 6 _ _ _ zi
   clear za zi
   go_wp2
   go_ret
   exact ⟨congrArg (fun b=>Ending.returned (.bool b)) HX.out.symm,bnext HB2.out B.out⟩
 ·have HX:=hid (show R=false from hR.trans (decide_eq_false (fun e=>by injection e;contradiction)))
  have q0:((kd:Int)==(kd':Int))=false:=by rw [Kaj];omega
  clear hR d0
  go_enter Tryz.func36,Tryz.ntmps36
  go_upto_region 1 with fail
  rw [←HW2.out]
  have B:=hid (Kai w2.heap.size w2)
  have za:=HCA.out w2 B.out
  have zi:=HCI.out w2 B.out
  have a0:=Kaa _ _ 0 _ _ _ za
  have b0:=Kaa _ _ 0 _ _ _ zi
  have a1:=Kaa _ _ 1 _ _ _ za
  have b1:=Kaa _ _ 1 _ _ _ zi
  have a2:=Kaa _ _ 2 _ _ _ za
  have b2:=Kaa _ _ 2 _ _ _ zi
  have a3:=Kaa _ _ 3 _ _ _ za
  have b3:=Kaa _ _ 3 _ _ _ zi
  have a4:=Kaa _ _ 4 _ _ _ za
  have b4:=Kaa _ _ 4 _ _ _ zi
  have a5:=Kaa _ _ 5 _ _ _ za
  have b5:=Kaa _ _ 5 _ _ _ zi
  have a6:=Kaa _ _ 6 _ _ _ za
  have b6:=Kaa _ _ 6 _ _ _ zi
  clear za zi
  go_wp2
  go_ret
  exact ⟨congrArg (fun b=>Ending.returned (.bool b)) HX.out.symm,bnext HB2.out B.out⟩
theorem needed_any (in0 in1:List (List Int)) (B nc oc:Nat) (NA OA:Option Addr) (ms:List (ND × NV)) (outs:List Nat) (A0 A1:Option Addr) (n0 c0 n1 c1:Nat) (w:World) (hr:NdRow w B NA nc ms) (ho:Own w B 3 OA oc (outs.map VNt)) (hw:WfD in0 in1 (ms.map Prod.fst)) (hou:∀ o∈outs,o<ms.length) (hl:ms.length≤1000) (hol:outs.length≤1000):
  Calls Tryz.prog 35 #[.agg #[.slice NA ms.length nc,.slice OA outs.length oc,.slice A0 n0 c0,.slice A1 n1 c1]] w fun e w'=>∃ q,e=.returned (.slice (some ⟨q,0,none⟩) ms.length ms.length)∧w.heap.size≤q∧MkB w' 4 q ms.length (fun a=>.bool (needD (ms.map Prod.fst) outs a))∧Below w.heap.size w w':=by
 obtain ⟨w2,hw2⟩:∃ w2,w2=w.alloc (.cells #[.slice NA ms.length nc,.slice OA outs.length oc,.slice A0 n0 c0,.slice A1 n1 c1] 68):=⟨_,rfl⟩
 have hb2:Below w.heap.size w w2:=by rw [hw2];exact alloc_below _ _
 have hA:w2.heap[w.heap.size]?=some (.cells #[.slice NA ms.length nc,.slice OA outs.length oc,.slice A0 n0 c0,.slice A1 n1 c1] 68 (0,0)):=by rw [hw2];exact Kac w _
 obtain ⟨l,hl0⟩:∃ l,l=ms.map Prod.fst:=⟨_,rfl⟩
 obtain ⟨N,hN⟩:∃ N,N=needD l outs:=⟨_,rfl⟩
 have HAH:=hid (show ∀ i m,ms[i]?=some m→∀ a∈m.1.args,a<i from fun i m hm=>(hw i m.1 (by rw [Kal,hm];rfl)).ahead)
 have HAT:=hid (show ∀ i m,ms[i]?=some m→atD l i=m.1 from fun i m hm=>atD_some (by rw [hl0,Kal,hm];rfl))
 have HLL:=hid (show l.length=ms.length from by rw [hl0,Kak])
 rw [←hl0,←hN]
 have HL:=hid hl0
 have HN:=hid hN
 have HB2:=hid hb2
 have HW2:=hid hw2
 have HC:=hid (fun W (hW:Below w2.heap.size w2 W)=>And.intro (Kaa _ _ 0 _ _ _ ((hW.block _ (Kab.1 hA).1).trans hA)) (Kaa _ _ 1 _ _ _ ((hW.block _ (Kab.1 hA).1).trans hA)))
 obtain ⟨gn,hgn⟩:∃ b,b=w2.heap.size:=⟨_,rfl⟩
 obtain ⟨W0,hW0⟩:∃ W0,W0=w2.alloc (.cells ((List.range ms.length).map fun _=>Value.bool false).toArray 4):=⟨_,rfl⟩
 have hm0:MkB W0 4 gn ms.length (fun _=>.bool false):=by rw [hW0,hgn];exact Kac w2 _
 have hb0:Below w2.heap.size w2 W0:=by rw [hW0];exact alloc_below _ _
 have hmk:(Instr.makeSlice 73 (.int .i64 (ms.length:Int)) (.int .i64 (ms.length:Int))).run Tryz.prog w2=.ok (.slice (some ⟨gn,0,none⟩) ms.length ms.length) W0:=by
  rw [hW0,hgn];exact Zer ms.length (by omega) w2 (ms.length:Int) rfl
 have HGN:=hid (show w2.heap.size≤gn from Nat.le_of_eq hgn.symm)
 have HR:=hid (hr.next hb2)
 have HO:=hid (ho.next hb2)
 have HOU:=hid hou
 have HM0:=hid hm0
 have HB0:=hid hb0
 obtain ⟨cc3,cc4⟩:=HC.out w2 (Kai _ _)
 obtain ⟨tb,htb⟩:∃ b,b=w.heap.size:=⟨_,rfl⟩
 have HTB:=hid htb
 rw [←htb] at HC cc3 cc4
 have cc4':=(HC.out W0 HB0.out).2
 clear hW0 hgn hm0 hb0 hr ho hou hw hl0 hN hw2 hb2 hA htb
 go_enter Tryz.func35,Tryz.ntmps35
 go_upto_region 1 with fail
 rw [←HW2.out,←HTB.out]
 go_wp2_with fail
 clear hmk cc3 cc4 cc4'
 go_loopw [14] (fun iv wr=>(∃ k:Nat,k≤outs.length∧iv=.int .i64 k∧MkB wr 4 gn ms.length (fun a=>.bool ((outs.take k).any fun b=>b==a)))∧Below w2.heap.size w2 wr) (fun iv _=>outs.length-(intOf iv).toNat)
 case atStart=>exact ⟨⟨0,by omega,rfl,by simpa using HM0.out⟩,HB0.out⟩
 case round=>
  clear HM0 HB0
  obtain ⟨⟨k,hk,rfl,hM⟩,hb⟩:=hrel
  have HM:=hid hM
  have HB:=hid hb
  clear hM hb
  by_cases hlk:k<outs.length
  ·have ht:outs[k]?=some (outs[k]'hlk):=Kad _
   obtain ⟨o,hoo⟩:∃ a,a=outs[k]'hlk:=⟨_,rfl⟩
   rw [←hoo] at ht
   have hool:=HOU.out o (Kam ht)
   obtain ⟨b,p,hOA,hbl,d1⟩:=(HO.out.next HB.out).rd.at_ (show (outs.map VNt)[k]?=some (VNt o) by rw [Kal,ht];rfl)
   subst hOA
   have d0:wr.cell? ⟨b,p+k,none⟩=some (.int .i64 (o:Int)):=d1
   clear d1
   have cc4:=(HC.out _ HB.out).2
   have k0:(0:Int)≤(k:Int):=by omega
   have k1:(k:Int)<(outs.length:Int):=by omega
   have o0:(0:Int)≤(o:Int):=by omega
   have o1:(o:Int)<(ms.length:Int):=by omega
   have fa:=HM.out.free o
   have ca:=HM.out.cell (i:=o) (by omega)
   have HST:=hid (HM.out.set (i:=o) hool (.bool true) (fun y=>.bool ((outs.take (k+1)).any fun b=>b==y)) (fun y=>by
    rw [outs_step ht]
    split <;> rfl))
   have HBT:=hid (Zaf (k:=o) HB.out HGN.out (.bool true))
   clear ht hoo hbl
   go_wp2_with fail
   exact ⟨⟨⟨k+1,by omega,rfl,HST.out⟩,HBT.out⟩,by simp [intOf];omega⟩
  ·obtain rfl:k=outs.length:=by omega
   have HX:=hid (show MkB wr 4 gn ms.length (fun a=>.bool (outs.any fun b=>b==a)) from by
    have:=HM.out
    rw [List.take_length] at this
    exact this)
   clear HM hk
   have cc3:=(HC.out wr HB.out).1
   go_wp2_with fail
   clear cc3
   go_loopw [5] (fun iv wr=>(∃ (j:Nat) (m:Nat→Bool),j≤ms.length∧iv=.int .i64 ((j:Int)-1)∧N=markD l j m∧MkB wr 4 gn ms.length (fun a=>.bool (m a)))∧Below w2.heap.size w2 wr) (fun iv _=>(intOf iv+1).toNat)
   case atStart=>exact ⟨⟨ms.length,_,Kag _,rfl,by rw [HN.out];unfold needD;rw [HLL.out],HX.out⟩,HB.out⟩
   case round=>
    clear HX HB
    obtain ⟨⟨j,m,hj,rfl,hwm,hM⟩,hb⟩:=hrel
    have HW:=hid hwm
    have HM:=hid hM
    have HB:=hid hb
    clear hwm hM hb
    match j,hj,HW with
    | 0,hj,HW=>
     rw [show (((0:Nat):Int)-1) = -1 by omega]
     have HM:=hid (show MkB wr 4 gn ms.length (fun a=>.bool (N a)) from by rw [HW.out];exact HM.out)
     clear HW
     go_wp2_with fail
     go_ret
     exact ⟨gn,rfl,Kah HB2.out.size HGN.out,HM.out,bnext HB2.out HB.out⟩
    | i+1,hj,HW=>
     obtain ⟨mm,hmm⟩:∃ x,ms[i]?=some x:=⟨ms[i]'(by omega),Kad (by omega)⟩
     have hat:=HAT.out i mm hmm
     obtain ⟨q,hNA,hql,hc,hv⟩:=HR.out.at_ hmm
     subst hNA
     obtain ⟨_,l2,_,_,⟨AA,ca,e2,o2⟩,_⟩:=hv
     have c2:=hc 2 _ rfl (by omega)
     rw [e2] at c2
     obtain ⟨args,hargs⟩:∃ x,x=mm.1.args:=⟨_,rfl⟩
     rw [←hargs] at c2 o2 l2
     have HC2:=hid (show ∀ W,Below w2.heap.size w2 W→W.cell? ⟨q,i*7+2,none⟩=some (.slice AA args.length ca) from fun W hW=>(hW.cell (p:=⟨q,i*7+2,none⟩) hql).trans c2)
     have HWA:=hid (show (atD l i).args=args from by rw [hat,hargs])
     have hah:=HAH.out i mm hmm
     rw [←hargs] at hah
     have HAA:=hid hah
     have HRA:=hid (show ∀ W,Below w2.heap.size w2 W→Rd W W.heap.size AA (args.map VNt) from fun W hW=>o2.rd.next hW)
     rw [show (((i+1:Nat):Int)-1)=(i:Int) by omega]
     have i0:(0:Int)≤(i:Int):=by omega
     have i1:(i:Int)<(ms.length:Int):=by omega
     clear hmm hat hc e2 o2 hargs hah c2
     go_wp2_with fail
     go_loopw [6] (fun kv wr=>(∃ k:Nat,k≤args.length∧kv=.int .i64 k∧MkB wr 4 gn ms.length (fun a=>.bool (mrkN m i args k a)))∧Below w2.heap.size w2 wr) (fun kv _=>args.length-(intOf kv).toNat)
     case atStart=>exact ⟨⟨0,by omega,rfl,by rw [mrkN_zero];exact HM.out⟩,HB.out⟩
     case round=>
      clear HM HB
      obtain ⟨⟨k,hk,rfl,hM⟩,hb⟩:=hrel
      have HM:=hid hM
      have HB:=hid hb
      have cc3:=(HC.out _ hb).1
      have c2:=HC2.out _ hb
      clear hM hb
      have ci:=HM.out.cell (i:=i) (by omega)
      rw [mrkN_self HAA.out] at ci
      cases hmi:m i with
      | false=>
       rw [hmi] at ci
       have HX:=hid (show N=markD l i (mrkN m i args k) from by
        rw [HW.out,markD_step,HWA.out]
        congr 1
        funext a
        unfold mrkN
        rw [hmi]
        simp)
       clear hk hmi
       go_wp2_with fail
       exact ⟨⟨⟨i,_,by omega,rfl,HX.out,HM.out⟩,HB.out⟩,by simp [intOf]⟩
      | true=>
       rw [hmi] at ci
       have HMI:=hid hmi
       clear hmi
       by_cases hlk:k<args.length
       ·have ht:args[k]?=some (args[k]'hlk):=Kad _
        obtain ⟨a,hx⟩:∃ d,d=args[k]'hlk:=⟨_,rfl⟩
        rw [←hx] at ht
        have ha:=HAA.out a (Kam ht)
        obtain ⟨b2,o2,hAA,hbl2,d1⟩:=(HRA.out _ HB.out).at_ (show (args.map VNt)[k]?=some (VNt a) by rw [Kal,ht];rfl)
        subst hAA
        have d0:wr.cell? ⟨b2,o2+k,none⟩=some (.int .i64 (a:Int)):=d1
        have k0:(0:Int)≤(k:Int):=by omega
        have k1:(k:Int)<(args.length:Int):=by omega
        have k2:decide ((k:Int)<(args.length:Int))=true:=by simp;omega
        have a0:(0:Int)≤(a:Int):=by omega
        have a1:(a:Int)<(ms.length:Int):=by omega
        have ca:=HM.out.cell (i:=a) (by omega)
        have fa:=HM.out.free a
        have HST:=hid (HM.out.set (i:=a) (by omega) (.bool true) (fun y=>.bool (mrkN m i args (k+1) y)) (fun y=>by
         rw [mrkN_step m i args ht y,HMI.out]
         split
         ·simp
         ·rfl))
        have HBT:=hid (Zaf (k:=a) HB.out HGN.out (.bool true))
        clear ht hx hbl2 d1
        go_wp2_with fail
        exact ⟨⟨⟨k+1,by omega,rfl,HST.out⟩,HBT.out⟩,by simp [intOf];omega⟩
       ·obtain rfl:args.length=k:=by omega
        have k2:decide ((args.length:Int)<(args.length:Int))=false:=by simp
        have HX:=hid (show N=markD l i (mrkN m i args args.length) from by rw [HW.out,markD_step,HWA.out])
        clear hk hlk
        go_wp2_with fail
        exact ⟨⟨⟨i,_,by omega,rfl,HX.out,HM.out⟩,HB.out⟩,by simp [intOf]⟩
theorem DagNeeds_walk (w:World) (hg:ETyped w) (ht:ErrT w) (s:ByteArray) (hsz:s.size≤maxLen):
  Calls Tryz.prog 10 #[.string s] w fun e w'=>e=.returned (.bool true)∧Below w.heap.size w w':=by
 obtain ⟨s2,hs2⟩:∃ s2,s2=s.extract 0 (minN s.size 4200):=⟨_,rfl⟩
 have hz2:s2.size≤100000:=by
  have:=(Zjt s.size 4200).2.1
  rw [hs2,ByteArray.size_extract]
  omega
 obtain ⟨F,hF,hF2⟩:∃ F,(∀ l,scanM s2=.toks l→12*l.length+20≤F)∧F≤10000:=by
  cases h:scanM s2 with
  | toks l=>exact ⟨12*l.length+20,fun l' h'=>by injection h' with h';subst h';exact Kag _,by have:=(ZdU h).1;omega⟩
  | err c p=>exact ⟨0,fun l' h'=>(by cases h'),by omega⟩
 have HF:=hid hF
 have HZ2:=hid hz2
 have HW:=hid (dawake_true w hg ht)
 have HCUT:=hid (fun W=>Zml s hsz W)
 rw [←hs2] at HCUT
 have HG:=hid hg
 have HT:=hid ht
 clear hs2 hz2 hF hg ht
 go_enter Tryz.func10,Tryz.ntmps10
 go_wp2_with (first
  | (go_at_call 33;refine HW.out.mono ?_;rintro e w1 ⟨rfl,b1⟩;have HB1:=hid b1;have HG1:=hid (HG.out.next b1);have HT1:=hid (HT.out.next b1);clear b1)
  | (go_at_call 17;refine (HCUT.out _).mono ?_;rintro e w' ⟨rfl,rfl⟩))
 refine (Zhh s2 F w1 HZ2.out HG1.out HT1.out HF.out).mono ?_
 rintro e w2 ⟨hb2,h⟩
 rcases h with ⟨l,hl,he,SA,sc,EA,ec,rfl,oS,oE⟩ | ⟨l,c,p,v,hl,he,rfl,hv⟩ | ⟨c,p,v,hl,rfl,hv⟩
 ·have hlen:=(ZdU hl).1
  have hns:=Zih he
  have hne:=ZlE F l
  have hnm:=ZhK (ZhJ hl) F
  have hsp:=ZkK (Zgp hl) F
  have hS:=oS.int
  have hE:=oE.int
  obtain ⟨ss,hss⟩:∃ ss,ss=(Zao F l).ss.map SI.of:=⟨_,rfl⟩
  obtain ⟨es,hes⟩:∃ es,es=(Zao F l).es.map EI.of:=⟨_,rfl⟩
  rw [←hss] at hS
  rw [←hes] at hE
  have HNM:=hid (show ∀ e∈es,e.num≤18446744073709551615 from fun e he=>by
   rw [hes] at he
   obtain ⟨x,hx,rfl⟩:=List.mem_map.1 he
   exact hnm x hx)
  have HSP:=hid (show ∀ s∈ss,s.shape.length≤1000000 from fun e he=>by
   rw [hss] at he
   obtain ⟨x,hx,rfl⟩:=List.mem_map.1 he
   have:=(hsp x hx).2
   show (x.shape.map Int.ofNat).length≤_
   rw [Kak]
   omega)
  obtain ⟨ns,hn1⟩:∃ ns,ns=(Zao F l).ss.length:=⟨_,rfl⟩
  obtain ⟨ne,hn2⟩:∃ ne,ne=(Zao F l).es.length:=⟨_,rfl⟩
  have hls:=hid (show ns=ss.length from by rw [hss,Kak,hn1])
  have hle:=hid (show ne=es.length from by rw [hes,Kak,hn2])
  have hns':ns≤64:=by rw [hn1];exact hns
  have hne':ne≤513:=by rw [hn2];exact Kah hne hlen
  rw [←hn1,←hn2]
  have HG2:=hid (HG1.out.next hb2)
  have HB2:=hid (bnext HB1.out hb2)
  have HS2:=hid hS
  have HE2:=hid hE
  clear hlen hns hne hS hE hss hes hn1 hn2 oS oE hl he hb2 hnm hsp
  go_upto_region 6 with fail
  obtain ⟨w3,hw3⟩:∃ w3,w3=w2.alloc (.cells #[.slice SA ns sc,.slice EA ne ec] 26):=⟨_,rfl⟩
  rw [←hw3]
  have hb3:Below w2.heap.size w2 w3:=by rw [hw3];exact alloc_below _ _
  have hA:w3.heap[w2.heap.size]?=some (.cells #[.slice SA ns sc,.slice EA ne ec] 26 (0,0)):=by rw [hw3];exact Kac w2 _
  have z0:=Kaa _ _ 0 _ _ _ hA
  have z1:=Kaa _ _ 1 _ _ _ hA
  have HB3:=hid (bnext HB2.out hb3)
  have HBD:=hid (build_any SA EA ns ne sc ec ss es true true true w3 hls.out hle.out (by omega) (by omega) (HS2.out.next hb3) (HE2.out.next hb3) (HG2.out.next hb3) HNM.out HSP.out)
  clear hw3 hb3 hA
  cases hbd:buildD true true true ss es with
  | inr c=>
   rw [hbd] at HBD
   go_wp2_with (go_at_call 34;refine HBD.out.mono ?_;rintro e w4 hb;obtain ⟨hb4,ti,xi,ps,rfl,hve⟩:=hb.bad)
   go_ret
   exact ⟨rfl,(bnext HB3.out hb4).alloc (Kah HB3.out.size hb4.size) _⟩
  | inl G=>
   rw [hbd] at HBD
   have HNEAT:=hid (needs_law hbd).1
   have HNEED:=hid (needs_law hbd).2
   obtain ⟨wf1,wf2,wf3,wf4⟩:=built_wf hbd
   have HWF:=hid wf1
   have HOB:=hid wf2
   have hol:G.2.length≤1000:=by have:=hls.out;have:=outsN_le ss;omega
   clear hbd wf1 wf2 wf4
   go_upto_region 9 with (go_at_call 34;refine HBD.out.mono ?_;rintro e w4 hb;obtain ⟨hb4,NA,nc,ms,OA,oc,A0,n0,c0,A1,n1,c1,B,rfl,hB,hfst,hr,ho,h0,h1⟩:=hb.ok)
   have HFST:=hid hfst
   have hml:ms.length≤64:=by have:=congrArg List.length hfst;rw [Kak] at this;omega
   obtain ⟨on,hon⟩:∃ n,n=G.2.length:=⟨_,rfl⟩
   rw [←hon] at hol ⊢
   obtain ⟨w5,hw5⟩:∃ w5,w5=w4.alloc (.cells #[.slice NA ms.length nc,.slice OA on oc,.slice A0 n0 c0,.slice A1 n1 c1] 68):=⟨_,rfl⟩
   obtain ⟨gb,hgb⟩:∃ q,q=w4.heap.size:=⟨_,rfl⟩
   rw [←hw5,←hgb]
   have hb5:Below w4.heap.size w4 w5:=by rw [hw5];exact alloc_below _ _
   have hGB:w5.heap[gb]?=some (.cells #[.slice NA ms.length nc,.slice OA on oc,.slice A0 n0 c0,.slice A1 n1 c1] 68 (0,0)):=by rw [hw5,hgb];exact Kac w4 _
   have y0:=Kaa _ _ 0 _ _ _ hGB
   have y1:=Kaa _ _ 1 _ _ _ hGB
   have y2:=Kaa _ _ 2 _ _ _ hGB
   have y3:=Kaa _ _ 3 _ _ _ hGB
   have HND:=hid (needed_any (Zae ss 0) (Zae ss 1) B nc oc NA OA ms G.2 A0 A1 n0 c0 n1 c1 w5 (hr.next hb5) (ho.next hb5) (by rw [hfst];exact HWF.out) (fun o h=>by have:=HOB.out o h;rw [←hfst,Kak] at this;exact this) (by omega) (by omega))
   rw [←hon] at HND
   have HB5:=hid (bnext (bnext HB3.out hb4) hb5)
   have HR5:=hid (hr.next hb5)
   have HGB5:=hid hGB
   clear z0 z1 hb4 hB hfst hr ho h0 h1 hon hw5 hgb hb5 hGB
   go_upto_region 10 with (go_at_call 35;refine HND.out.mono ?_;rintro e w6 ⟨qn,rfl,hq6,hmk,hb6⟩)
   have HMK:=hid (show MkB w6 4 qn ms.length (fun a=>.bool (needD G.1 G.2 a)) from by rw [←HFST.out];exact hmk)
   have HB6:=hid (bnext HB5.out hb6)
   have HR6:=hid (HR5.out.next hb6)
   have HGC:=hid (fun W (hW:Below w6.heap.size w6 W)=>Kaa _ _ 0 _ _ _ ((hW.block gb (Kae (Kab.1 HGB5.out).1 hb6.size)).trans ((hb6.block gb (Kab.1 HGB5.out).1).trans HGB5.out)))
   clear y0 y1 y2 y3 hq6 hmk hb6 HND
   have y0:=HGC.out _ (Kai _ _)
   go_wp2_with fail
   clear y0
   go_loopw [40] (fun iv wr=>∃ i:Nat,i≤ms.length∧iv=.int .i64 i∧Below w6.heap.size w6 wr) (fun iv _=>ms.length-(intOf iv).toNat)
   case atStart=>exact ⟨0,by omega,rfl,Kai _ _⟩
   case round=>
   obtain ⟨i,hi,rfl,hb⟩:=hrel
   have HBr:=hid hb
   clear hb
   by_cases hlt:i<ms.length
   ·obtain ⟨⟨n,⟨sv,av,ev⟩⟩,hmi⟩:∃ x,ms[i]?=some x:=⟨ms[i]'hlt,Kad hlt⟩
    obtain ⟨q,hNA,hql,hc,hv⟩:=HR6.out.at_ hmi
    subst hNA
    have HV0:=hid hv
    obtain ⟨_,hla,_,⟨X1,x1,e1,_⟩,⟨X2,x2,e2,oa⟩,X3,x3,e3,_⟩:=hv
    change sv=.slice X1 n.shape.length x1 at e1
    change av=.slice X2 n.args.length x2 at e2
    change ev=.slice X3 n.elems.length x3 at e3
    subst e1 e2 e3
    change n.args.length≤1000000 at hla
    have HNV1:=hid (show NdV w6 B (n,⟨.slice X1 n.shape.length x1,.slice X2 n.args.length x2,.slice X3 n.elems.length x3⟩) from HV0.out)
    have HMI:=hid hmi
    have hat:G.1[i]?=some n:=by rw [←HFST.out,Kal,hmi];rfl
    have HAT:=hid hat
    have HAH:=hid (HWF.out i n hat).ahead
    have HQC:=hid (show ∀ W,Below w6.heap.size w6 W→∀ j v,(ndC (n,(⟨.slice X1 n.shape.length x1,.slice X2 n.args.length x2,.slice X3 n.elems.length x3⟩:NV)))[j]?=some v→j<7→W.cell? ⟨q,i*7+j,none⟩=some v from fun W hW j v h1 h2=>(hW.cell (p:=⟨q,i*7+j,none⟩) hql).trans (hc j v h1 h2))
    have HRA:=hid (show ∀ W,Below w6.heap.size w6 W→Rd W W.heap.size X2 (n.args.map VNt) from fun W hW=>oa.rd.next hW)
    have c0':wr.cell? ⟨q,i*7,none⟩=some (.int .i64 n.kind):=HQC.out _ HBr.out 0 _ rfl (by omega)
    have c1':wr.cell? ⟨q,i*7+1,none⟩=some (.slice X1 n.shape.length x1):=HQC.out _ HBr.out 1 _ rfl (by omega)
    have c2':wr.cell? ⟨q,i*7+2,none⟩=some (.slice X2 n.args.length x2):=HQC.out _ HBr.out 2 _ rfl (by omega)
    have c3':wr.cell? ⟨q,i*7+3,none⟩=some (.int .i64 n.party):=HQC.out _ HBr.out 3 _ rfl (by omega)
    have c4':wr.cell? ⟨q,i*7+4,none⟩=some (.int .i64 n.input):=HQC.out _ HBr.out 4 _ rfl (by omega)
    have c5':wr.cell? ⟨q,i*7+5,none⟩=some (.int .i64 n.k):=HQC.out _ HBr.out 5 _ rfl (by omega)
    have c6':wr.cell? ⟨q,i*7+6,none⟩=some (.slice X3 n.elems.length x3):=HQC.out _ HBr.out 6 _ rfl (by omega)
    obtain ⟨w8,hw8⟩:∃ w8,w8=wr.alloc (.cells #[.int .i64 n.kind,.slice X1 n.shape.length x1,.slice X2 n.args.length x2,.int .i64 n.party,.int .i64 n.input,.int .i64 n.k,.slice X3 n.elems.length x3] 77):=⟨_,rfl⟩
    obtain ⟨nb,hnb⟩:∃ q,q=wr.heap.size:=⟨_,rfl⟩
    have HN8:=hid (show w8.heap[nb]?=some (.cells #[.int .i64 n.kind,.slice X1 n.shape.length x1,.slice X2 n.args.length x2,.int .i64 n.party,.int .i64 n.input,.int .i64 n.k,.slice X3 n.elems.length x3] 77 (0,0)) from by rw [hw8,hnb];exact Kac wr _)
    have HNBL:=hid (show nb<w8.heap.size from (Kab.1 HN8.out).1)
    have HB68:=hid (show Below w6.heap.size w6 w8 from by rw [hw8];exact HBr.out.alloc HBr.out.size _)
    have HW8:=hid hw8
    have HNB:=hid hnb
    have i0:(0:Int)≤(i:Int):=by omega
    have i1:(i:Int)<(ms.length:Int):=by omega
    clear hmi hc hat oa hw8 hnb HV0
    obtain ⟨al,hal⟩:∃ a,a=n.args.length:=⟨_,rfl⟩
    go_upto_region 13 with fail
    rw [←HW8.out,←HNB.out]
    clear c0' c1' c2' c3' c4' c5' c6'
    have e2:=Kaa _ _ 2 _ _ _ HN8.out
    obtain ⟨b0,hb0⟩:∃ b,b=decide ((0:Int)<(n.args.length:Int)):=⟨_,rfl⟩
    have hb0n:decide (0<n.args.length)=b0:=by rw [hb0];simp
    have HB0:=hid hb0
    have HB0N:=hid hb0n
    clear hb0
    go_wp2_with fail
    clear e2
    clear hb0n
    go_loopw [9,52] (fun av jv wq=>∃ k:Nat,k≤n.args.length∧jv=.int .i64 k∧av=.bool (b0&&(n.args.take k).all (constD G.1))∧Below w8.heap.size w8 wq) (fun _ jv _=>n.args.length-(intOf jv).toNat)
    case atStart=>exact ⟨0,by omega,rfl,by simp [HB0N.out],Kai _ _⟩
    case round=>
    rename World=>wq
    obtain ⟨k,hk,rfl,rfl,hbq⟩:=hrel
    have HBq:=hid hbq
    have HB6q:=hid (bnext HB68.out hbq)
    clear hbq
    by_cases hlk:k<n.args.length
    ·have htk:n.args[k]?=some (n.args[k]'hlk):=Kad _
     obtain ⟨a,hx⟩:∃ d,d=n.args[k]'hlk:=⟨_,rfl⟩
     rw [←hx] at htk
     have ha:=HAH.out a (Kam htk)
     obtain ⟨b2,o2,hX2,hbl2,d1⟩:=(HRA.out _ HB6q.out).at_ (show (n.args.map VNt)[k]?=some (VNt a) by rw [Kal,htk];rfl)
     have d0:wq.cell? ⟨b2,o2+k,none⟩=some (.int .i64 (a:Int)):=d1
     subst hX2
     obtain ⟨⟨m,mv⟩,hma⟩:∃ x,ms[a]?=some x:=⟨ms[a]'(by omega),Kad (by omega)⟩
     obtain ⟨q',hq',hql',hc',hv'⟩:=HR6.out.at_ hma
     have hqq:q'=q:=by injection hq' with h;injection h with h _;exact h.symm
     subst hqq
     have ck:wq.cell? ⟨q',a*7,none⟩=some (.int .i64 m.kind):=((HB6q.out.cell (p:=⟨q',a*7,none⟩) hql').trans (hc' 0 _ rfl (by omega)))
     have hka:constD G.1 a=((m.kind:Int)==2):=by
      unfold constD
      rw [atD_some (by rw [←HFST.out,Kal,hma];rfl)]
      show (m.kind==2)=((m.kind:Int)==2)
      rw [Bool.eq_iff_iff,beq_iff_eq,beq_iff_eq]
      omega
     have y0:=HGC.out _ HB6q.out
     have HST:=hid (show (b0&&(n.args.take (k+1)).all (constD G.1))=((b0&&(n.args.take k).all (constD G.1))&&((m.kind:Int)==2)) from by
      obtain ⟨hi',he'⟩:=Kaf.1 htk
      rw [List.take_succ_eq_append_getElem hi',he',List.all_append,←hka,Bool.and_assoc]
      simp)
     obtain ⟨bk,hbk⟩:∃ b,b=(b0&&(n.args.take k).all (constD G.1)):=⟨_,rfl⟩
     rw [←hbk] at HST ⊢
     obtain ⟨bm,hbm⟩:∃ b,b=((m.kind:Int)==2):=⟨_,rfl⟩
     rw [←hbm] at HST
     have hbm':=hbm.symm
     have k0:(0:Int)≤(k:Int):=by omega
     have k1:(k:Int)<(n.args.length:Int):=by omega
     have a0:(0:Int)≤(a:Int):=by omega
     have a1:(a:Int)<(ms.length:Int):=by omega
     clear htk hx hbl2 d1 hma hq' hql' hc' hv' hka hbk hbm
     cases bk
     ·go_wp2_with fail
      exact ⟨⟨k+1,by omega,rfl,by rw [HST.out];rfl,HBq.out⟩,by simp [intOf];omega⟩
     ·go_wp2_with fail
      exact ⟨⟨k+1,by omega,rfl,by rw [HST.out];rfl,HBq.out⟩,by simp [intOf];omega⟩
    obtain rfl:n.args.length=k:=by omega
    have HAL:=hid (show (b0&&(n.args.take n.args.length).all (constD G.1))=false from by
     rw [List.take_length,Bool.and_eq_false_iff,HB0.out]
     by_cases h0:n.args=[]
     ·left
      rw [h0]
      rfl
     ·right
      have:=HNEAT.out.1 i n HAT.out
      rw [Bool.eq_false_iff]
      exact fun h=>this ⟨h0,h⟩)
    rw [HAL.out]
    have ci:=(HMK.out.next HB6q.out).cell (i:=i) hlt
    rw [HNEED.out i (by rw [←HFST.out,Kak];exact hlt)] at ci
    clear hlk hk
    go_wp2_with fail
    clear ci
    go_loopw [12] (fun kv wq=>∃ k:Nat,k≤i∧kv=.int .i64 k∧Below w8.heap.size w8 wq) (fun kv _=>i-(intOf kv).toNat)
    case atStart=>exact ⟨0,by omega,rfl,HBq.out⟩
    case round=>
    clear HBq HB6q
    rename World=>wq
    obtain ⟨k,hk,rfl,hbq⟩:=hrel
    have HBq:=hid hbq
    have HB6q:=hid (bnext HB68.out hbq)
    clear hbq
    by_cases hlk:k<i
    ·obtain ⟨⟨m,⟨sv,av,ev⟩⟩,hmk⟩:∃ x,ms[k]?=some x:=⟨ms[k]'(by omega),Kad (by omega)⟩
     obtain ⟨q',hq',hql2,hc2,hv⟩:=HR6.out.at_ hmk
     have hqq:q'=q:=by injection hq' with h;injection h with h _;exact h.symm
     subst hqq
     have HV0:=hid hv
     obtain ⟨_,_,_,⟨Y1,y1,e1,_⟩,⟨Y2,y2,e2,_⟩,Y3,y3,e3,_⟩:=hv
     change sv=.slice Y1 m.shape.length y1 at e1
     change av=.slice Y2 m.args.length y2 at e2
     change ev=.slice Y3 m.elems.length y3 at e3
     subst e1 e2 e3
     have HNV2:=hid (show NdV w6 B (m,⟨.slice Y1 m.shape.length y1,.slice Y2 m.args.length y2,.slice Y3 m.elems.length y3⟩) from HV0.out)
     have HMK':=hid hmk
     have k0:(0:Int)≤(k:Int):=by omega
     have k1:(k:Int)<(ms.length:Int):=by omega
     clear hmk hq' HV0
     have HSC:=hid (show ∀ W,Below w8.heap.size w8 W→W.cell? ⟨gb,0,none⟩=some (.slice (some ⟨q',0,none⟩) ms.length nc)∧W.cell? ⟨q',k*7,none⟩=some (.int .i64 m.kind)∧W.cell? ⟨q',k*7+1,none⟩=some (.slice Y1 m.shape.length y1)∧W.cell? ⟨q',k*7+2,none⟩=some (.slice Y2 m.args.length y2)∧W.cell? ⟨q',k*7+3,none⟩=some (.int .i64 m.party)∧W.cell? ⟨q',k*7+4,none⟩=some (.int .i64 m.input)∧W.cell? ⟨q',k*7+5,none⟩=some (.int .i64 m.k)∧W.cell? ⟨q',k*7+6,none⟩=some (.slice Y3 m.elems.length y3)∧W.cell? ⟨nb,0,none⟩=some (.int .i64 n.kind)∧W.cell? ⟨nb,1,none⟩=some (.slice X1 n.shape.length x1)∧W.cell? ⟨nb,2,none⟩=some (.slice X2 n.args.length x2)∧W.cell? ⟨nb,3,none⟩=some (.int .i64 n.party)∧W.cell? ⟨nb,4,none⟩=some (.int .i64 n.input)∧W.cell? ⟨nb,5,none⟩=some (.int .i64 n.k)∧W.cell? ⟨nb,6,none⟩=some (.slice X3 n.elems.length x3) from fun W hW=>by
      have hN:=(hW.block nb HNBL.out).trans HN8.out
      have hc:=fun j v h1 h2=>(((HB68.out.trans (hW.mono HB68.out.size)).cell (p:=⟨q',k*7+j,none⟩) hql2).trans (hc2 j v h1 h2))
      exact ⟨HGC.out W (HB68.out.trans (hW.mono HB68.out.size)),hc 0 _ rfl (by omega),hc 1 _ rfl (by omega),hc 2 _ rfl (by omega),hc 3 _ rfl (by omega),hc 4 _ rfl (by omega),hc 5 _ rfl (by omega),hc 6 _ rfl (by omega),Kaa _ _ 0 _ _ _ hN,Kaa _ _ 1 _ _ _ hN,Kaa _ _ 2 _ _ _ hN,Kaa _ _ 3 _ _ _ hN,Kaa _ _ 4 _ _ _ hN,Kaa _ _ 5 _ _ _ hN,Kaa _ _ 6 _ _ _ hN⟩)
     have HSM:=hid (fun W (hW:Below w8.heap.size w8 W)=>rsame_any (m,⟨.slice Y1 m.shape.length y1,.slice Y2 m.args.length y2,.slice Y3 m.elems.length y3⟩) (n,⟨.slice X1 n.shape.length x1,.slice X2 n.args.length x2,.slice X3 n.elems.length x3⟩) W ((HNV2.out.rd.next (bnext HB68.out hW))) ((HNV1.out.rd.next (bnext HB68.out hW))))
     have HNE:=hid (show decide (m=n)=false from by rw [decide_eq_false_iff_not];intro e;subst e;have:=HNEAT.out.2 k i m (by rw [HFST.out.symm,Kal,HMK'.out];rfl) (by rw [HFST.out.symm,Kal,HMI.out];rfl);omega)
     clear hc2 hql2
     go_upto_region 24 with fail
     refine wp_region_held_drew (S:=(fun w'=>w'.cell? ⟨gb,0,none⟩=some (.slice (some ⟨q',0,none⟩) ms.length nc)∧w'.cell? ⟨q',k*7,none⟩=some (.int .i64 m.kind)∧w'.cell? ⟨q',k*7+1,none⟩=some (.slice Y1 m.shape.length y1)∧w'.cell? ⟨q',k*7+2,none⟩=some (.slice Y2 m.args.length y2)∧w'.cell? ⟨q',k*7+3,none⟩=some (.int .i64 m.party)∧w'.cell? ⟨q',k*7+4,none⟩=some (.int .i64 m.input)∧w'.cell? ⟨q',k*7+5,none⟩=some (.int .i64 m.k)∧w'.cell? ⟨q',k*7+6,none⟩=some (.slice Y3 m.elems.length y3)∧w'.cell? ⟨nb,0,none⟩=some (.int .i64 n.kind)∧w'.cell? ⟨nb,1,none⟩=some (.slice X1 n.shape.length x1)∧w'.cell? ⟨nb,2,none⟩=some (.slice X2 n.args.length x2)∧w'.cell? ⟨nb,3,none⟩=some (.int .i64 n.party)∧w'.cell? ⟨nb,4,none⟩=some (.int .i64 n.input)∧w'.cell? ⟨nb,5,none⟩=some (.int .i64 n.k)∧w'.cell? ⟨nb,6,none⟩=some (.slice X3 n.elems.length x3))) (by kernel_rfl) (HSC.out _ HBq.out.drew) (fun hHeld => ?_)
     obtain ⟨wd,hwd⟩:∃ wd,wd=wq.drew:=⟨_,rfl⟩
     rw [←hwd] at hHeld ⊢
     have BD:=hid (show Below w8.heap.size w8 wd from by rw [hwd];exact HBq.out.drew)
     clear hwd
     refine tk 0 ?_
     simp only [tkS]
     refine tk 1 ?_
     simp only [tkS]
     refine tk 2 ?_
     simp only [tkS]
     refine tk 3 ?_
     simp only [tkS]
     refine tk 4 ?_
     simp only [tkS]
     refine tk 5 ?_
     simp only [tkS]
     refine wpAnyH_ready (rs:=[6]) (by kernel_rfl) (by simp) ?_
     refine AllReadyH.cons (o:=_) rfl (fun K hK => ?_) (AllReadyH.nil)
     go_simp
     go_at_call 36
     refine (HSM.out wd BD.out).mono ?_
     rintro e w9 ⟨rfl,b9⟩
     have B9:=hid (bnext BD.out b9)
     clear b9
     rw [HNE.out]
     refine hK.out _ _ (HSC.out _ B9.out) (fun hHeld => ?_)
     clear hK K
     try simp only [tkS]
     refine wpAnyH_done (by kernel_rfl) ?_ _
     go_wp2_with fail
     exact ⟨⟨k+1,by omega,rfl,B9.out⟩,by simp [intOf];omega⟩
    obtain rfl:i=k:=by omega
    clear hlk hk
    go_wp2_with fail
    exact ⟨⟨i+1,by omega,rfl,HB6q.out⟩,by simp [intOf];omega⟩
   obtain rfl:ms.length=i:=by omega
   go_wp2_with fail
   go_ret
   exact ⟨rfl,bnext HB6.out HBr.out⟩
 ·obtain ⟨ti,xi,rfl⟩:=hv.iface
  go_wp2_with fail
  go_ret
  exact ⟨rfl,(bnext HB1.out hb2).alloc (Kah HB1.out.size hb2.size) _⟩
 ·obtain ⟨ti,xi,rfl⟩:=hv.iface
  go_wp2_with fail
  go_ret
  exact ⟨rfl,(bnext HB1.out hb2).alloc (Kah HB1.out.size hb2.size) _⟩
end Go.Proofs.YtghlnncfigkkaaaGreatDoor
