/-
 Two nodes held together: dag.same.
-/
import Derived.Test.YtghlnncfigkkaaaGreatDoorQDgA
import Derived.Test.YtghlnncfigkkaaaGreatDoorQChkB
import Derived.Test.YtghlnncfigkkaaaGreatDoorQAppN
set_option maxRecDepth 100000
set_option maxHeartbeats 4000000
set_option linter.unusedVariables false
set_option linter.unusedSimpArgs false
namespace Go.Proofs.YtghlnncfigkkaaaGreatDoor
open Go.RowKit
theorem mapN_beq:∀ l l':List Nat,((l.map Int.ofNat)==(l'.map Int.ofNat))=(l==l')
 | [],[]=>rfl
 | [],_::_=>rfl
 | _::_,[]=>rfl
 | a::l,b::l'=>by
  have h:((Int.ofNat a==Int.ofNat b))=(a==b):=by
   by_cases e:a=b
   ·rw [e];simp
   ·rw [Kaj.2 e,Kaj];exact fun h=>e (Int.ofNat.inj h)
  show ((Int.ofNat a==Int.ofNat b)&&(l.map Int.ofNat==l'.map Int.ofNat))=((a==b)&&(l==l'))
  rw [h,mapN_beq l l']
theorem dsame_any (m m':ND × NV) (w:World) (h:NdR w m) (f5:NdR w m'):Calls Tryz.prog 111 #[ndA m,ndA m'] w fun e w'=>e=.returned (.bool (decide (m.1=m'.1)))∧Below w.heap.size w w':=by
 obtain ⟨⟨kd,a0,V,N,R,X,el⟩,⟨f7,f8,f9⟩⟩:=m;obtain ⟨⟨M,a1,Y,O,S,Z,a7⟩,⟨g0,g1,g2⟩⟩:=m';obtain ⟨l1,l2,l3,⟨A1,c1,e1,r1,_⟩,⟨A2,c2,e2,r2,_⟩,A3,c3,e3,r3,_⟩:=h;obtain ⟨e5,e6,e7,⟨b0,b1,e8,d7,_⟩,⟨b2,b3,e9,b4,_⟩,b5,b6,f0,d8,_⟩:=f5;dsimp only at l1 l2 l3 e1 e2 e3 r1 r2 r3 e5 e6 e7 e8 e9 f0 d7 b4 d8;subst e1 e2 e3 e8 e9 f0;rw [vnt_map] at r2 b4;obtain ⟨n1,b7⟩:=Ky a0.length;obtain ⟨n2,b8⟩:=Ky V.length;obtain ⟨n3,b9⟩:=Ky el.length;obtain ⟨c6,c7⟩:=Ky a1.length;obtain ⟨c8,c9⟩:=Ky Y.length;obtain ⟨d0,d1⟩:=Ky a7.length;rw [←b7] at l1;rw [←b8] at l2;rw [←b9] at l3;rw [←c7] at e5;rw [←c9] at e6;rw [←d1] at e7;obtain ⟨w2,a8⟩:=Ky ((w.alloc (.cells #[.int .i64 kd,.slice A1 n1 c1,.slice A2 n2 c2,.int .i64 N,.int .i64 R,.int .i64 X,.slice A3 n3 c3] 77)).alloc (.cells #[.int .i64 M,.slice b0 c6 b1,.slice b2 c8 b3,.int .i64 O,.int .i64 S,.int .i64 Z,.slice b5 d0 b6] 77));have a2:Below w.heap.size w w2:=by rw [a8];exact ((Kai _ _).alloc (Kag _) _).alloc (by simp) _
 have f1:w2.heap[w.heap.size]?=some (.cells #[.int .i64 kd,.slice A1 n1 c1,.slice A2 n2 c2,.int .i64 N,.int .i64 R,.int .i64 X,.slice A3 n3 c3] 77 (0,0)):=by
  rw [a8,Below.heap_alloc _ _ _ (by simp)];exact Kac w _
 have f2:w2.heap[w.heap.size+1]?=some (.cells #[.int .i64 M,.slice b0 c6 b1,.slice b2 c8 b3,.int .i64 O,.int .i64 S,.int .i64 Z,.slice b5 d0 b6] 77 (0,0)):=by
  rw [a8];have:=Kac (w.alloc (.cells #[.int .i64 kd,.slice A1 n1 c1,.slice A2 n2 c2,.int .i64 N,.int .i64 R,.int .i64 X,.slice A3 n3 c3] 77)) (.cells #[.int .i64 M,.slice b0 c6 b1,.slice b2 c8 b3,.int .i64 O,.int .i64 S,.int .i64 Z,.slice b5 d0 b6] 77);rwa [World.size_alloc] at this
 have a3:=Kz a8;have a4:=Kz a2;have E:=Kz (fun W (P:Below w2.heap.size w2 W)=>(P.block _ (Kab.1 f1).1).trans f1)
 have F:=Kz (fun W (P:Below w2.heap.size w2 W)=>(P.block _ (Kab.1 f2).1).trans f2)
 have d2:=Kz (fun W (P:Below w2.heap.size w2 W)=>ZcA A1 b0 n1 c6 c1 b1 a0 a1 W b7 c7 (by omega) (by omega) ((r1.next a2).next P) ((d7.next a2).next P))
 have d9:=Kz (fun W (P:Below w2.heap.size w2 W)=>ZcA A2 b2 n2 c8 c2 b3 (V.map Int.ofNat) (Y.map Int.ofNat) W (by rw [Kak];exact b8) (by rw [Kak];exact c9) (by omega) (by omega) ((r2.next a2).next P) ((b4.next a2).next P))
 have f3:=Kz (fun W (P:Below w2.heap.size w2 W)=>equalW_any A3 b5 n3 d0 c3 b6 el a7 W b9 d1 (by omega) (by omega) ((r3.next a2).next P) ((d8.next a2).next P))
 have e0:=Kz (show ((V.map Int.ofNat)==(Y.map Int.ofNat))=(V==Y) from mapN_beq V Y)
 unfold ndA;dsimp only;obtain ⟨a5,H⟩:=Ky (decide ((⟨kd,a0,V,N,R,X,el⟩:ND)=⟨M,a1,Y,O,S,Z,a7⟩));rw [←H];rw [←b7,←b8,←b9,←c7,←c9,←d1];clear a8 a2 b7 b8 b9 c7 c9 d1 r1 r2 r3 d7 b4 d8
 by_cases I:kd=M
 ·by_cases L:N=O
  ·by_cases Q:R=S
   ·by_cases d3:X=Z
    ·by_cases d4:a0=a1
     ·by_cases d5:V=Y
      ·by_cases d6:el=a7
       ·have J:=Kz (show a5=true from H.trans (decide_eq_true (by rw [I,L,Q,d3,d4,d5,d6])))
        have q0:((kd:Int)==(M:Int))=true:=by rw [I];simp
        have q1:((N:Int)==(O:Int))=true:=by rw [L];simp
        have q2:((R:Int)==(S:Int))=true:=by rw [Q];simp
        have q3:((X:Int)==(Z:Int))=true:=by rw [d3];simp
        have p0:=Kz (show (a0==a1)=true from by rw [d4];simp)
        have p1:=Kz (show (V==Y)=true from by rw [d5];simp)
        have p2:=Kz (show (el==a7)=true from by rw [d6];simp)
        clear H I L Q d3 d4 d5 d6
        go_enter Tryz.func111,Tryz.ntmps111
        go_upto_region 1 with fail
        rw [←a3.o];have B:=Kz (Kai w2.heap.size w2);have a:=E.o w2 B.o;have d:=F.o w2 B.o;have g:=Kaa 0 a;have i:=Kaa 0 d;have j:=Kaa 1 a;have l:=Kaa 1 d;have p:=Kaa 2 a;have q:=Kaa 2 d;have r:=Kaa 3 a;have s:=Kaa 3 d;have v:=Kaa 4 a;have x:=Kaa 4 d;have y:=Kaa 5 a;have z:=Kaa 5 d;have C:=Kaa 6 a;have D:=Kaa 6 d;clear a d
        go_wp2_with fail
        refine (d2.o _ B.o).mono ?_
        rintro e w3 ⟨rfl,e4,T⟩
        have B:=Kz (show Below w2.heap.size w2 w3 from by rw [T];exact Zaa B.o _)
        rw [p0.o];clear g i j l p q r s v x y z C D T;have a:=E.o w3 B.o;have d:=F.o w3 B.o;have g:=Kaa 0 a;have i:=Kaa 0 d;have j:=Kaa 1 a;have l:=Kaa 1 d;have p:=Kaa 2 a;have q:=Kaa 2 d;have r:=Kaa 3 a;have s:=Kaa 3 d;have v:=Kaa 4 a;have x:=Kaa 4 d;have y:=Kaa 5 a;have z:=Kaa 5 d;have C:=Kaa 6 a;have D:=Kaa 6 d;clear a d
        go_wp2_with fail
        refine (d9.o _ B.o).mono ?_
        rintro e w4 ⟨rfl,f4,a6⟩
        have B:=Kz (show Below w2.heap.size w2 w4 from by rw [a6];exact Zaa B.o _)
        rw [e0.o];rw [p1.o];clear g i j l p q r s v x y z C D a6;have a:=E.o w4 B.o;have d:=F.o w4 B.o;have g:=Kaa 0 a;have i:=Kaa 0 d;have j:=Kaa 1 a;have l:=Kaa 1 d;have p:=Kaa 2 a;have q:=Kaa 2 d;have r:=Kaa 3 a;have s:=Kaa 3 d;have v:=Kaa 4 a;have x:=Kaa 4 d;have y:=Kaa 5 a;have z:=Kaa 5 d;have C:=Kaa 6 a;have D:=Kaa 6 d;clear a d
        go_wp2_with fail
        refine (f3.o _ B.o).mono ?_
        rintro e w5 ⟨rfl,f6,a9⟩
        have B:=Kz (show Below w2.heap.size w2 w5 from by rw [a9];exact Zaa B.o _)
        rw [p2.o];clear g i j l p q r s v x y z C D a9;have a:=E.o w5 B.o;have d:=F.o w5 B.o;have g:=Kaa 0 a;have i:=Kaa 0 d;have j:=Kaa 1 a;have l:=Kaa 1 d;have p:=Kaa 2 a;have q:=Kaa 2 d;have r:=Kaa 3 a;have s:=Kaa 3 d;have v:=Kaa 4 a;have x:=Kaa 4 d;have y:=Kaa 5 a;have z:=Kaa 5 d;have C:=Kaa 6 a;have D:=Kaa 6 d;clear a d
        go_wp2
        go_ret;exact ⟨congrArg (fun b=>Ending.returned (.bool b)) J.o.symm,bnext a4.o B.o⟩
       ·have J:=Kz (show a5=false from H.trans (decide_eq_false (fun e=>by injection e;contradiction)))
        have q0:((kd:Int)==(M:Int))=true:=by rw [I];simp
        have q1:((N:Int)==(O:Int))=true:=by rw [L];simp
        have q2:((R:Int)==(S:Int))=true:=by rw [Q];simp
        have q3:((X:Int)==(Z:Int))=true:=by rw [d3];simp
        have p0:=Kz (show (a0==a1)=true from by rw [d4];simp)
        have p1:=Kz (show (V==Y)=true from by rw [d5];simp)
        have p2:=Kz (show (el==a7)=false from by rw [Kaj];exact d6)
        clear H I L Q d3 d4 d5 d6
        go_enter Tryz.func111,Tryz.ntmps111
        go_upto_region 1 with fail
        rw [←a3.o];have B:=Kz (Kai w2.heap.size w2);have a:=E.o w2 B.o;have d:=F.o w2 B.o;have g:=Kaa 0 a;have i:=Kaa 0 d;have j:=Kaa 1 a;have l:=Kaa 1 d;have p:=Kaa 2 a;have q:=Kaa 2 d;have r:=Kaa 3 a;have s:=Kaa 3 d;have v:=Kaa 4 a;have x:=Kaa 4 d;have y:=Kaa 5 a;have z:=Kaa 5 d;have C:=Kaa 6 a;have D:=Kaa 6 d;clear a d
        go_wp2_with fail
        refine (d2.o _ B.o).mono ?_
        rintro e w3 ⟨rfl,e4,T⟩
        have B:=Kz (show Below w2.heap.size w2 w3 from by rw [T];exact Zaa B.o _)
        rw [p0.o];clear g i j l p q r s v x y z C D T;have a:=E.o w3 B.o;have d:=F.o w3 B.o;have g:=Kaa 0 a;have i:=Kaa 0 d;have j:=Kaa 1 a;have l:=Kaa 1 d;have p:=Kaa 2 a;have q:=Kaa 2 d;have r:=Kaa 3 a;have s:=Kaa 3 d;have v:=Kaa 4 a;have x:=Kaa 4 d;have y:=Kaa 5 a;have z:=Kaa 5 d;have C:=Kaa 6 a;have D:=Kaa 6 d;clear a d
        go_wp2_with fail
        refine (d9.o _ B.o).mono ?_
        rintro e w4 ⟨rfl,f4,a6⟩
        have B:=Kz (show Below w2.heap.size w2 w4 from by rw [a6];exact Zaa B.o _)
        rw [e0.o];rw [p1.o];clear g i j l p q r s v x y z C D a6;have a:=E.o w4 B.o;have d:=F.o w4 B.o;have g:=Kaa 0 a;have i:=Kaa 0 d;have j:=Kaa 1 a;have l:=Kaa 1 d;have p:=Kaa 2 a;have q:=Kaa 2 d;have r:=Kaa 3 a;have s:=Kaa 3 d;have v:=Kaa 4 a;have x:=Kaa 4 d;have y:=Kaa 5 a;have z:=Kaa 5 d;have C:=Kaa 6 a;have D:=Kaa 6 d;clear a d
        go_wp2_with fail
        refine (f3.o _ B.o).mono ?_
        rintro e w5 ⟨rfl,f6,a9⟩
        have B:=Kz (show Below w2.heap.size w2 w5 from by rw [a9];exact Zaa B.o _)
        rw [p2.o];clear g i j l p q r s v x y z C D a9;have a:=E.o w5 B.o;have d:=F.o w5 B.o;have g:=Kaa 0 a;have i:=Kaa 0 d;have j:=Kaa 1 a;have l:=Kaa 1 d;have p:=Kaa 2 a;have q:=Kaa 2 d;have r:=Kaa 3 a;have s:=Kaa 3 d;have v:=Kaa 4 a;have x:=Kaa 4 d;have y:=Kaa 5 a;have z:=Kaa 5 d;have C:=Kaa 6 a;have D:=Kaa 6 d;clear a d
        go_wp2
        go_ret;exact ⟨congrArg (fun b=>Ending.returned (.bool b)) J.o.symm,bnext a4.o B.o⟩
      ·have J:=Kz (show a5=false from H.trans (decide_eq_false (fun e=>by injection e;contradiction)))
       have q0:((kd:Int)==(M:Int))=true:=by rw [I];simp
       have q1:((N:Int)==(O:Int))=true:=by rw [L];simp
       have q2:((R:Int)==(S:Int))=true:=by rw [Q];simp
       have q3:((X:Int)==(Z:Int))=true:=by rw [d3];simp
       have p0:=Kz (show (a0==a1)=true from by rw [d4];simp)
       have p1:=Kz (show (V==Y)=false from by rw [Kaj];exact d5)
       clear H I L Q d3 d4 d5
       go_enter Tryz.func111,Tryz.ntmps111
       go_upto_region 1 with fail
       rw [←a3.o];have B:=Kz (Kai w2.heap.size w2);have a:=E.o w2 B.o;have d:=F.o w2 B.o;have g:=Kaa 0 a;have i:=Kaa 0 d;have j:=Kaa 1 a;have l:=Kaa 1 d;have p:=Kaa 2 a;have q:=Kaa 2 d;have r:=Kaa 3 a;have s:=Kaa 3 d;have v:=Kaa 4 a;have x:=Kaa 4 d;have y:=Kaa 5 a;have z:=Kaa 5 d;have C:=Kaa 6 a;have D:=Kaa 6 d;clear a d
       go_wp2_with fail
       refine (d2.o _ B.o).mono ?_
       rintro e w3 ⟨rfl,e4,T⟩
       have B:=Kz (show Below w2.heap.size w2 w3 from by rw [T];exact Zaa B.o _)
       rw [p0.o];clear g i j l p q r s v x y z C D T;have a:=E.o w3 B.o;have d:=F.o w3 B.o;have g:=Kaa 0 a;have i:=Kaa 0 d;have j:=Kaa 1 a;have l:=Kaa 1 d;have p:=Kaa 2 a;have q:=Kaa 2 d;have r:=Kaa 3 a;have s:=Kaa 3 d;have v:=Kaa 4 a;have x:=Kaa 4 d;have y:=Kaa 5 a;have z:=Kaa 5 d;have C:=Kaa 6 a;have D:=Kaa 6 d;clear a d
       go_wp2_with fail
       refine (d9.o _ B.o).mono ?_
       rintro e w4 ⟨rfl,f4,a6⟩
       have B:=Kz (show Below w2.heap.size w2 w4 from by rw [a6];exact Zaa B.o _)
       rw [e0.o];rw [p1.o];clear g i j l p q r s v x y z C D a6;have a:=E.o w4 B.o;have d:=F.o w4 B.o;have g:=Kaa 0 a;have i:=Kaa 0 d;have j:=Kaa 1 a;have l:=Kaa 1 d;have p:=Kaa 2 a;have q:=Kaa 2 d;have r:=Kaa 3 a;have s:=Kaa 3 d;have v:=Kaa 4 a;have x:=Kaa 4 d;have y:=Kaa 5 a;have z:=Kaa 5 d;have C:=Kaa 6 a;have D:=Kaa 6 d;clear a d
       go_wp2
       go_ret;exact ⟨congrArg (fun b=>Ending.returned (.bool b)) J.o.symm,bnext a4.o B.o⟩
     ·have J:=Kz (show a5=false from H.trans (decide_eq_false (fun e=>by injection e;contradiction)))
      have q0:((kd:Int)==(M:Int))=true:=by rw [I];simp
      have q1:((N:Int)==(O:Int))=true:=by rw [L];simp
      have q2:((R:Int)==(S:Int))=true:=by rw [Q];simp
      have q3:((X:Int)==(Z:Int))=true:=by rw [d3];simp
      have p0:=Kz (show (a0==a1)=false from by rw [Kaj];exact d4)
      clear H I L Q d3 d4
      go_enter Tryz.func111,Tryz.ntmps111
      go_upto_region 1 with fail
      rw [←a3.o];have B:=Kz (Kai w2.heap.size w2);have a:=E.o w2 B.o;have d:=F.o w2 B.o;have g:=Kaa 0 a;have i:=Kaa 0 d;have j:=Kaa 1 a;have l:=Kaa 1 d;have p:=Kaa 2 a;have q:=Kaa 2 d;have r:=Kaa 3 a;have s:=Kaa 3 d;have v:=Kaa 4 a;have x:=Kaa 4 d;have y:=Kaa 5 a;have z:=Kaa 5 d;have C:=Kaa 6 a;have D:=Kaa 6 d;clear a d
      go_wp2_with fail
      refine (d2.o _ B.o).mono ?_
      rintro e w3 ⟨rfl,e4,T⟩
      have B:=Kz (show Below w2.heap.size w2 w3 from by rw [T];exact Zaa B.o _)
      rw [p0.o];clear g i j l p q r s v x y z C D T;have a:=E.o w3 B.o;have d:=F.o w3 B.o;have g:=Kaa 0 a;have i:=Kaa 0 d;have j:=Kaa 1 a;have l:=Kaa 1 d;have p:=Kaa 2 a;have q:=Kaa 2 d;have r:=Kaa 3 a;have s:=Kaa 3 d;have v:=Kaa 4 a;have x:=Kaa 4 d;have y:=Kaa 5 a;have z:=Kaa 5 d;have C:=Kaa 6 a;have D:=Kaa 6 d;clear a d
      go_wp2
      go_ret;exact ⟨congrArg (fun b=>Ending.returned (.bool b)) J.o.symm,bnext a4.o B.o⟩
    ·have J:=Kz (show a5=false from H.trans (decide_eq_false (fun e=>by injection e;contradiction)))
     have q0:((kd:Int)==(M:Int))=true:=by rw [I];simp
     have q1:((N:Int)==(O:Int))=true:=by rw [L];simp
     have q2:((R:Int)==(S:Int))=true:=by rw [Q];simp
     have q3:((X:Int)==(Z:Int))=false:=by rw [Kaj];omega
     clear H I L Q d3
     go_enter Tryz.func111,Tryz.ntmps111
     go_upto_region 1 with fail
     rw [←a3.o];have B:=Kz (Kai w2.heap.size w2);have a:=E.o w2 B.o;have d:=F.o w2 B.o;have g:=Kaa 0 a;have i:=Kaa 0 d;have j:=Kaa 1 a;have l:=Kaa 1 d;have p:=Kaa 2 a;have q:=Kaa 2 d;have r:=Kaa 3 a;have s:=Kaa 3 d;have v:=Kaa 4 a;have x:=Kaa 4 d;have y:=Kaa 5 a;have z:=Kaa 5 d;have C:=Kaa 6 a;have D:=Kaa 6 d;clear a d
     go_wp2
     go_ret;exact ⟨congrArg (fun b=>Ending.returned (.bool b)) J.o.symm,bnext a4.o B.o⟩
   ·have J:=Kz (show a5=false from H.trans (decide_eq_false (fun e=>by injection e;contradiction)))
    have q0:((kd:Int)==(M:Int))=true:=by rw [I];simp
    have q1:((N:Int)==(O:Int))=true:=by rw [L];simp
    have q2:((R:Int)==(S:Int))=false:=by rw [Kaj];omega
    clear H I L Q
    go_enter Tryz.func111,Tryz.ntmps111
    go_upto_region 1 with fail
    rw [←a3.o];have B:=Kz (Kai w2.heap.size w2);have a:=E.o w2 B.o;have d:=F.o w2 B.o;have g:=Kaa 0 a;have i:=Kaa 0 d;have j:=Kaa 1 a;have l:=Kaa 1 d;have p:=Kaa 2 a;have q:=Kaa 2 d;have r:=Kaa 3 a;have s:=Kaa 3 d;have v:=Kaa 4 a;have x:=Kaa 4 d;have y:=Kaa 5 a;have z:=Kaa 5 d;have C:=Kaa 6 a;have D:=Kaa 6 d;clear a d
    go_wp2
    go_ret;exact ⟨congrArg (fun b=>Ending.returned (.bool b)) J.o.symm,bnext a4.o B.o⟩
  ·have J:=Kz (show a5=false from H.trans (decide_eq_false (fun e=>by injection e;contradiction)))
   have q0:((kd:Int)==(M:Int))=true:=by rw [I];simp
   have q1:((N:Int)==(O:Int))=false:=by rw [Kaj];omega
   clear H I L
   go_enter Tryz.func111,Tryz.ntmps111
   go_upto_region 1 with fail
   rw [←a3.o];have B:=Kz (Kai w2.heap.size w2);have a:=E.o w2 B.o;have d:=F.o w2 B.o;have g:=Kaa 0 a;have i:=Kaa 0 d;have j:=Kaa 1 a;have l:=Kaa 1 d;have p:=Kaa 2 a;have q:=Kaa 2 d;have r:=Kaa 3 a;have s:=Kaa 3 d;have v:=Kaa 4 a;have x:=Kaa 4 d;have y:=Kaa 5 a;have z:=Kaa 5 d;have C:=Kaa 6 a;have D:=Kaa 6 d;clear a d
   go_wp2
   go_ret;exact ⟨congrArg (fun b=>Ending.returned (.bool b)) J.o.symm,bnext a4.o B.o⟩
 ·have J:=Kz (show a5=false from H.trans (decide_eq_false (fun e=>by injection e;contradiction)))
  have q0:((kd:Int)==(M:Int))=false:=by rw [Kaj];omega
  clear H I
  go_enter Tryz.func111,Tryz.ntmps111
  go_upto_region 1 with fail
  rw [←a3.o];have B:=Kz (Kai w2.heap.size w2);have a:=E.o w2 B.o;have d:=F.o w2 B.o;have g:=Kaa 0 a;have i:=Kaa 0 d;have j:=Kaa 1 a;have l:=Kaa 1 d;have p:=Kaa 2 a;have q:=Kaa 2 d;have r:=Kaa 3 a;have s:=Kaa 3 d;have v:=Kaa 4 a;have x:=Kaa 4 d;have y:=Kaa 5 a;have z:=Kaa 5 d;have C:=Kaa 6 a;have D:=Kaa 6 d;clear a d
  go_wp2
  go_ret;exact ⟨congrArg (fun b=>Ending.returned (.bool b)) J.o.symm,bnext a4.o B.o⟩
theorem oflat_set {a g:Type} (f:a→List g) (k:Nat) (b:∀ x,(f x).length=k) (d:a) (v:g):∀ (l:List a) (i j:Nat) (x:a),l[i]?=some x→j<k→f d=(f x).set j v→(l.set i d).flatMap f=(l.flatMap f).set (i*k+j) v
 | [],i,j,x,h,_,_=>by simp at h
 | y::l,0,j,x,h,hj,hv=>by
  simp at h;subst h;rw [List.set_cons_zero,List.flatMap_cons,List.flatMap_cons,hv,Nat.zero_mul,Nat.zero_add,List.set_append_left _ _ (by rw [b];exact hj)]
 | y::l,i+1,j,x,h,hj,hv=>by
  have m:=oflat_set f k b d v l i j x (by simpa using h) hj hv
  rw [List.set_cons_succ,List.flatMap_cons,List.flatMap_cons,m,List.set_append_right _ _ (by rw [b,Nat.succ_mul];omega)]
  congr 2
  rw [b,Nat.succ_mul];omega
def ArgI (w:World) (B:Nat) (v:Value) (l:List Int):Prop:=∃ A c,v=.slice A l.length c∧Own w B 3 A c (l.map VI)
theorem owni_keep {w w':World} {b d:Nat} {A:Option Addr} {xs:List Value} (h:Own w b 3 A d xs) (f:∀ (g:Nat) (cur:Array Value),w.heap[g]?=some (.cells cur 3 (0,0))→w'.heap[g]?=some (.cells cur 3 (0,0))):Own w' b 3 A d xs:=by
 refine ⟨h.1,?_⟩;rcases h.2 with a | ⟨g,i,cur,a,j,l,r⟩
 ·exact .inl a
 ·exact .inr ⟨g,i,cur,a,j,f g cur l,r⟩
theorem ArgI.keep {w w':World} {b:Nat} {v:Value} {l:List Int} (h:ArgI w b v l) (a:∀ (g:Nat) (cur:Array Value),w.heap[g]?=some (.cells cur 3 (0,0))→w'.heap[g]?=some (.cells cur 3 (0,0))):ArgI w' b v l:=by
 obtain ⟨A,c,d,f⟩:=h;exact ⟨A,c,d,owni_keep f a⟩
theorem ArgI.int {w:World} {b:Nat} {v:Value} {l:List Int} (h:ArgI w b v l):∃ A c,v=.slice A l.length c∧Rd w w.heap.size A (l.map VI)∧l.length≤9223372036854775807∧l.length≤c∧c≤9223372036854775807:=by
 obtain ⟨A,c,f,a⟩:=h;have d:=Zfl a;rw [Kak] at d;exact ⟨A,c,f,a.rd,d⟩
def KI (w w':World):Prop:=∀ (g:Nat) (cur:Array Value),w.heap[g]?=some (.cells cur 3 (0,0))→w'.heap[g]?=some (.cells cur 3 (0,0))
theorem KI.trans {a b c:World} (h:KI a b) (d:KI b c):KI a c:=fun g cur f=>d g cur (h g cur f)
theorem KI.set {w:World} {b k:Nat} {d:Array Value} {T:TypeId} {f:Nat × Nat} (h:w.heap[b]?=some (.cells d T f)) (i:T≠3) (v:Value):KI w (w.setCell ⟨b,k,none⟩ v):=fun g cur a=>by
 rw [Below.heap_setCell w ⟨b,k,none⟩ v g (fun e=>by
  have j:g=b:=e;subst j;rw [h] at a;injection a with a
  injection a with _ a _
  exact i a)]
 exact a
theorem rown_form {w:World} {base size n c:Nat} {T:TypeId} {A:Option Addr} {xs:List Value} (h:w.ownsRow base T size (.slice A n c) n xs):A=none∨∃ g cur,A=some ⟨g,0,none⟩∧base≤g∧w.heap[g]?=some (.cells cur T (0,0)):=by
 rcases h.2 with ⟨d,_⟩ | ⟨g,j,cur,d,f,i,_⟩
 ·injection d with a b c
  exact .inl a
 ·injection d with a b c
  exact .inr ⟨g,cur,a,f,i⟩
theorem rown_keep {w w':World} {base size n c:Nat} {T:TypeId} {A:Option Addr} {xs:List Value} (h:w.ownsRow base T size (.slice A n c) n xs) (d:∀ k,blk A=some k→w'.heap[k]?=w.heap[k]?):w'.ownsRow base T size (.slice A n c) n xs:=by
 refine ⟨h.1,?_⟩;rcases h.2 with b | ⟨g,f,cur,b,i,j,r⟩
 ·exact .inl b
 ·have e:blk A=some g:=by injection b with a;rw [a];rfl
  exact .inr ⟨g,f,cur,b,i,(d g e).trans j,r⟩
theorem rown_set {w:World} {base size n c k:Nat} {T:TypeId} {g:Nat} {xs:List Value} (h:w.ownsRow base T size (.slice (some ⟨g,0,none⟩) n c) n xs) (v:Value) (r:k<n*size):(w.setCell ⟨g,k,none⟩ v).ownsRow base T size (.slice (some ⟨g,0,none⟩) n c) n (xs.set k v):=by
 refine ⟨by rw [List.length_set];exact h.1,?_⟩
 rcases h.2 with ⟨b,_⟩ | ⟨d,f,cur,b,i,j,l,m,p,q⟩
 ·injection b with a;cases a
 ·have e:d=g:=by injection b with a;injection a with a;injection a with a;exact a.symm
  subst e;refine .inr ⟨d,f,cur.setIfInBounds k v,b,i,by simp [World.setCell,Array.getElem?_modify,j],l,m,by simpa using p,?_⟩
  rw [Array.toList_setIfInBounds,List.take_set,q]
def siC (m:SI × Value):List Value:=[.int .i64 m.1.kind,.int .i64 m.1.party,.string m.1.name,m.2,.int .i64 m.1.expr,.int .i64 m.1.pos]
def OwnSI (w:World) (B:Nat) (A:Option Addr) (c:Nat) (l:List SI):Prop:=
 ∃ ms:List (SI × Value),ms.map Prod.fst=l∧w.ownsRow B 93 6 (.slice A l.length c) l.length (ms.flatMap siC)∧∀ m∈ms,ArgI w B m.2 m.1.shape
theorem OwnSI.keep {w w':World} {B c:Nat} {A:Option Addr} {l:List SI} (h:OwnSI w B A c l) (a:KI w w') (b:∀ k,blk A=some k→w'.heap[k]?=w.heap[k]?):OwnSI w' B A c l:=by
 obtain ⟨d,f,g,i⟩:=h;exact ⟨d,f,rown_keep g b,fun m j=>(i m j).keep a⟩
theorem OwnSI.rd {w:World} {B c:Nat} {A:Option Addr} {l:List SI} (h:OwnSI w B A c l):RdSI w w.heap.size A l:=by
 obtain ⟨p,q,r,s⟩:=h
 by_cases b:l=[]
 ·subst b;exact .inl rfl
 ·obtain ⟨g,t,y,_,z⟩:=Zbm r (List.length_pos_iff.2 b);refine .inr ⟨g,0,t,y,fun i x d => ?_⟩
  subst q;rw [Kal,Option.map_eq_some_iff] at d;obtain ⟨m,f,rfl⟩:=d;have a:∀ j v,(siC m)[j]?=some v→j<6→w.cell? ⟨g,0+i*6+j,none⟩=some v:=fun j v C D=>by
   rw [Nat.zero_add];exact z _ v ((Zaq siC 6 (fun _=>rfl) p i j m f D).trans C)
  obtain ⟨E,F,H,I⟩:=(s m (Kam f)).int;exact ⟨a 0 _ rfl (by omega),a 1 _ rfl (by omega),a 2 _ rfl (by omega),⟨E,F,by rw [←H];exact a 3 _ rfl (by omega),I⟩,a 4 _ rfl (by omega),a 5 _ rfl (by omega)⟩
theorem siI_info:(Tryz.prog.info? 93).map (fun i=>(i.zero,i.size,i.bytes))=some (some (.agg #[.int .i64 0,.int .i64 0,.string ⟨#[]⟩,.slice none 0 0,.int .i64 0,.int .i64 0]),6,72):=by kernel_rfl
theorem OwnSI.name {w:World} {B c g k:Nat} {l:List SI} {x:SI} (h:OwnSI w B (some ⟨g,0,none⟩) c l) (f:l[k]?=some x) (a:ByteArray):OwnSI (w.setCell ⟨g,k*6+2,none⟩ (.string a)) B (some ⟨g,0,none⟩) c (l.set k { x with name:=a }):=by
 obtain ⟨j,t,p,q⟩:=h;subst t;rw [Kal,Option.map_eq_some_iff] at f;obtain ⟨m,d,rfl⟩:=f;have v:=(Kaf.1 d).1;have r:KI w (w.setCell ⟨g,k*6+2,none⟩ (.string a)):=by
  rcases rown_form p with e | ⟨C,cur,e,_,z⟩
  ·cases e
  ·injection e with e
   injection e with e
   subst e;exact KI.set z (by decide) _
 refine ⟨j.set k ({ m.1 with name:=a },m.2),by rw [List.map_set],?_,?_⟩
 ·rw [oflat_set siC 6 (fun _=>rfl) ({ m.1 with name:=a },m.2) (.string a) j k 2 m d (by omega) rfl,List.length_set]
  exact rown_set p _ (by rw [Kak];omega)
 ·intro y s
  rw [List.mem_iff_getElem?] at s;obtain ⟨i,b⟩:=s
  by_cases e:k=i
  ·subst e;rw [List.getElem?_set_self v] at b;injection b with b
   subst b;exact (q m (Kam d)).keep r
  ·rw [List.getElem?_set_ne e] at b;exact (q y (Kam b)).keep r
def eiC (m:EI × Value):List Value:=[.int .i64 m.1.kind,.string m.1.name,.int .u64 m.1.num,m.2,.int .i64 m.1.pos]
def OwnEI (w:World) (B:Nat) (A:Option Addr) (c:Nat) (l:List EI):Prop:=
 ∃ ms:List (EI × Value),ms.map Prod.fst=l∧w.ownsRow B 90 5 (.slice A l.length c) l.length (ms.flatMap eiC)∧∀ m∈ms,ArgI w B m.2 m.1.args
theorem OwnEI.keep {w w':World} {B c:Nat} {A:Option Addr} {l:List EI} (h:OwnEI w B A c l) (a:KI w w') (b:∀ k,blk A=some k→w'.heap[k]?=w.heap[k]?):OwnEI w' B A c l:=by
 obtain ⟨d,f,g,i⟩:=h;exact ⟨d,f,rown_keep g b,fun m j=>(i m j).keep a⟩
theorem OwnEI.rd {w:World} {B c:Nat} {A:Option Addr} {l:List EI} (h:OwnEI w B A c l):RdEI w w.heap.size A l:=by
 obtain ⟨p,q,r,s⟩:=h
 by_cases b:l=[]
 ·subst b;exact .inl rfl
 ·obtain ⟨g,t,y,_,z⟩:=Zbm r (List.length_pos_iff.2 b);refine .inr ⟨g,0,t,y,fun i x d => ?_⟩
  subst q;rw [Kal,Option.map_eq_some_iff] at d;obtain ⟨m,f,rfl⟩:=d;have a:∀ j v,(eiC m)[j]?=some v→j<5→w.cell? ⟨g,0+i*5+j,none⟩=some v:=fun j v C D=>by
   rw [Nat.zero_add];exact z _ v ((Zaq eiC 5 (fun _=>rfl) p i j m f D).trans C)
  obtain ⟨E,F,H,I⟩:=(s m (Kam f)).int;exact ⟨a 0 _ rfl (by omega),a 1 _ rfl (by omega),a 2 _ rfl (by omega),⟨E,F,by rw [←H];exact a 3 _ rfl (by omega),I⟩,a 4 _ rfl (by omega)⟩
theorem eiI_info:(Tryz.prog.info? 90).map (fun i=>(i.zero,i.size,i.bytes))=some (some (.agg #[.int .i64 0,.string ⟨#[]⟩,.int .u64 0,.slice none 0 0,.int .i64 0]),5,64):=by kernel_rfl
theorem OwnEI.name {w:World} {B c g k:Nat} {l:List EI} {x:EI} (h:OwnEI w B (some ⟨g,0,none⟩) c l) (f:l[k]?=some x) (a:ByteArray):OwnEI (w.setCell ⟨g,k*5+1,none⟩ (.string a)) B (some ⟨g,0,none⟩) c (l.set k { x with name:=a }):=by
 obtain ⟨j,t,p,q⟩:=h;subst t;rw [Kal,Option.map_eq_some_iff] at f;obtain ⟨m,d,rfl⟩:=f;have v:=(Kaf.1 d).1;have r:KI w (w.setCell ⟨g,k*5+1,none⟩ (.string a)):=by
  rcases rown_form p with e | ⟨C,cur,e,_,z⟩
  ·cases e
  ·injection e with e
   injection e with e
   subst e;exact KI.set z (by decide) _
 refine ⟨j.set k ({ m.1 with name:=a },m.2),by rw [List.map_set],?_,?_⟩
 ·rw [oflat_set eiC 5 (fun _=>rfl) ({ m.1 with name:=a },m.2) (.string a) j k 1 m d (by omega) rfl,List.length_set]
  exact rown_set p _ (by rw [Kak];omega)
 ·intro y s
  rw [List.mem_iff_getElem?] at s;obtain ⟨i,b⟩:=s
  by_cases e:k=i
  ·subst e;rw [List.getElem?_set_self v] at b;injection b with b
   subst b;exact (q m (Kam d)).keep r
  ·rw [List.getElem?_set_ne e] at b;exact (q y (Kam b)).keep r
theorem run_appM {P:Program} (w:World) (base:Nat) (t s e:TypeId) (i:TypeInfo) (z:Value) (size T:Nat) (C:P.underlying t=some (.slice e)) (D:P.info? e=some i) (V:i.zero=some z)
  (p:i.size=size) (b2:0<size) (W:i.bytes=T) (a5:z.cells.size=size)
  (A:Option Addr) (f n:Nat) (xs:List Value) (X:w.ownsRow base e size (.slice A n f) n xs)
  (b m:Nat) (b3:0<m) (d:List Value) (q:d.length=m*size) (a6:∀ (j:Nat) (a:Value),d[j]?=some a→w.cell? ⟨b,j,none⟩=some a) (h1:∀ a∈d,a.oneCell'=true)
  (Y:n+m≤maxLen) (Z:((n+m)+(n+m) / 4+192)*T≤281474976710656) (a7:base≤w.heap.size):
  ∃ A' E w',(Builtin.append_ #[t,t] s #[.slice A n f,.slice (some ⟨b,0,none⟩) m m]).run P w=.ok (.slice A' (n+m) E) w'∧w'.ownsRow base e size (.slice A' (n+m) E) (n+m) (xs++d)∧w.grownBy w' (blk A)∧(blk A'=blk A∨blk A'=some w.heap.size):=by
 have F:∀ (j:Nat) (a:Value),d[j]?=some a→w.cell? ((⟨b,0,none⟩:Addr).add j)=some a:=by
  intro j a H
  have I:(⟨b,0,none⟩:Addr).add j=⟨b,j,none⟩:=by unfold Addr.add;split <;> simp_all
  rw [I];exact a6 j a H
 have b4:n+m≤9223372036854775807:=by simp only [maxLen] at Y;omega
 have v:=X.1;have J:d.length=m*i.size:=by rw [p,q]
 have x:(xs++d).length=(n+m)*size:=by rw [List.length_append,v,q,Nat.add_mul]
 have grown:∀ (h:Nat),h<n+m→∀ (a0:Option Nat),
   (w.drew.alloc (.cells (xs.toArray++d.toArray++Builtin.zeroCells z.cells (grownCap w (n+m) h e-(n+m))) e)).ownsRow base e size (.slice (some ⟨w.heap.size,0,none⟩) (n+m) (grownCap w (n+m) h e)) (n+m) (xs++d) ∧
   w.grownBy (w.drew.alloc (.cells (xs.toArray++d.toArray++Builtin.zeroCells z.cells (grownCap w (n+m) h e-(n+m))) e)) a0:=by
  intro h _ a0
  have b5:=grownCap_ge w (n+m) h e;have L:grownCap w (n+m) h e≤maxLen:=grownCap_le_maxLen w (n+m) h e Y;refine ⟨⟨x,.inr ⟨w.heap.size,_,_,rfl,a7,Kac w.drew _,by omega,L,?_,?_⟩⟩,⟨rfl,rfl,rfl,by simp,fun k M _=>Below.heap_alloc w.drew _ k M⟩⟩
  ·simp only [Array.size_append,List.size_toArray,size_zeroCells,a5,v,q];rw [←Nat.add_mul,←Nat.add_mul]
   congr 1
   omega
  ·simp only [Array.toList_append];rw [←x];exact List.take_left
 rcases X.2 with ⟨N,h0⟩ | ⟨g,E,cur,N,a8,O,a9,L,a1,a3⟩
 ·injection N with Q a2 R
  subst Q R a2;have b0:xs=[]:=List.eq_nil_of_length_eq_zero (by rw [v,Nat.zero_mul])
  subst b0;have r:=run_append_nil (P:=P) w t s e i z C D V ⟨b,0,none⟩ m m d J F (by omega) (by omega)
   (by rw [W];have a4:=Z;simp only [Nat.zero_add] at a4;exact Kah (Nat.mul_le_mul_right _ (by omega)) a4)
  have l:=grown 0 (by omega) (blk none)
  simp only [Nat.zero_add,List.nil_append,Array.empty_append] at l ⊢;exact ⟨_,_,_,r,l.1,l.2,.inr rfl⟩
 ·injection N with Q a2 R
  subst Q R
  by_cases S:n+m≤f
  ·have r:=run_append_room (P:=P) w t s e i C D g n f cur O ⟨b,0,none⟩ m m d J F h1 S (by rw [p,a1,q,←Nat.add_mul];exact Nat.mul_le_mul_right _ S)
   refine ⟨_,_,_,r,⟨x,.inr ⟨g,f,_,rfl,a8,setRow_heap w g cur _ e _ O,by omega,L,?_,?_⟩⟩,⟨rfl,rfl,rfl,by simp,fun k _ M=>setRow_other w g k _ (fun e=>M (by simp [blk,e]))⟩,.inl rfl⟩
   ·have:(n+m)*size≤f*size:=Nat.mul_le_mul_right _ S;have h5:n*size≤f*size:=Nat.mul_le_mul_right _ a9;have b6:(n+m)*size=n*size+m*size:=Nat.add_mul n m size;simp only [List.size_toArray,List.length_append,List.length_take,List.length_drop,Array.length_toList];rw [p,q,a1];omega
   ·rw [p,a3,←x];exact List.take_left
  ·have b1:∀ (j:Nat) (a:Value),xs[j]?=some a→w.cell? ((⟨g,0,none⟩:Addr).add j)=some a:=fun j a H=>by
    have I:(⟨g,0,none⟩:Addr).add j=⟨g,j,none⟩:=by unfold Addr.add;split <;> simp_all
    rw [I,cell_of_row w g j cur e (0,0) O];have y:(cur.toList.take (n*size))[j]?=some a:=by rw [a3];exact H
    rw [List.getElem?_take] at y;split at y
    ·simpa using y
    ·cases y
   have r:=run_append_grow (P:=P) w t s e i z C D V ⟨g,0,none⟩ n f xs (by rw [p];exact v) b1 ⟨b,0,none⟩ m m d J F (by omega) (by omega) (growslice_fits_wide (by omega) (by rw [W];exact Z))
   have l:=grown f (by omega) (blk (some ⟨g,0,none⟩))
   exact ⟨_,_,_,r,l.1,l.2,.inr rfl⟩
theorem appR {w:World} {p:Array Oper} {rest:List Oper} {o:Oper} {a:Act} {Q:Exit→Act→World→Prop} (r:o.guard=none) (s x:Operand) (t e:TypeId) (z:Value) (size d:Nat) (v:(Tryz.prog.info? e).map (fun i=>(i.zero,i.size,i.bytes))=some (some z,size,d)) (y : Tryz.prog.underlying t=some (.slice e)) (C:0<size) (D:z.cells.size=size) (E:d≤1000)
  (F:o.op=.call { callee:=.builtin .append,args:=#[s,x],argTypes:=#[t,t] }) (B:Nat) (A:Option Addr) (l n:Nat) (xs:List Value) (H:a.eval s=.slice A n l) (I:w.ownsRow B e size (.slice A n l) n xs)
  (f m:Nat) (J:0<m) (b:List Value) (L:a.eval x=.slice (some ⟨f,0,none⟩) m m) (M:b.length=m*size) (N:w.heap[f]?=some (.cells b.toArray e (0,0))) (O:∀ q∈b,q.oneCell'=true) (a2:n+m≤1000) (R:B≤w.heap.size)
  (h:∀ g j w',w'.ownsRow B e size (.slice g (n+m) j) (n+m) (xs++b)→w.grownBy w' (blk A)→wpList Tryz.prog p Q rest (a.put o.dst (.slice g (n+m) j)) w'):
  wpList Tryz.prog p Q (o::rest) a w:=by
 obtain ⟨S,T,V,W,X⟩:=info_parts v;obtain ⟨g,j,w',Y,Z,r2,r3⟩:=run_appM (P := Tryz.prog) w B t o.type e S z size d y T V W C X D A l n xs I f m J b M
  (fun a0 q a1=>by rw [cell_of_row w f a0 _ _ (0,0) N];simpa using a1) O (by simp only [maxLen];omega) (by
   have:((n+m)+(n+m) / 4+192)*d≤2000*1000:=Nat.mul_le_mul (by omega) E
   omega) R
 refine wpList_plain r fun K hK => ?_
 unfold Oper.wp execOp;simp only [F,resolve,invoke,builtin,Sem.run_bind,Sem.run_pure,Result.andThen_ok,List.map_toArray,List.map_cons,List.map_nil,H,L,Y];exact hK _ _ (h g j w' Z r2)
section
variable {w w':World} {B k n c:Nat} {e:TypeId} {A:Option Addr} {xs:List Value}
theorem trow_next (h:w.ownsRow B e k (.slice A n c) n xs) (a:Below w.heap.size w w'):w'.ownsRow B e k (.slice A n c) n xs:=ZaK h fun g b=>a.block g (Zdg h g b).2
theorem trow_set {b j:Nat} (h:w.ownsRow B e k (.slice A n c) n xs) (d:b<B) (v:Value):(w.setCell ⟨b,j,none⟩ v).ownsRow B e k (.slice A n c) n xs:=ZaK h fun g a=>ZaS _ _ _ (by have:=(Zdg h g a).1;show g≠b;omega)
theorem trow_typed (h:w.ownsRow B e k (.slice A n c) n xs):∀ g,blk A=some g→∃ cur,w.heap[g]?=some (.cells cur e (0,0)):=by
 intro g b
 rcases h.2 with ⟨d,_⟩ | ⟨f,j,cur,d,l,i,r⟩
 ·injection d with a
  rw [a] at b
  cases b
 ·injection d with a
  rw [a] at b;have:f=g:=by simpa [blk] using b
  subst this;exact ⟨cur,i⟩
theorem trow_other {j l b m:Nat} {d:TypeId} {f:Option Addr} {p:List Value} (h:w.ownsRow B e k (.slice A n c) n xs) (r:w.ownsRow j d l (.slice f b m) b p) (s:e≠d) (t:w.grownBy w' (blk f)):w'.ownsRow B e k (.slice A n c) n xs:=
 ZaK h fun g i=>t.block g (Zdg h g i).2 fun q=>by
  obtain ⟨c1,v⟩:=trow_typed h g i;obtain ⟨c2,a⟩:=trow_typed r g q.symm;rw [v] at a;injection a with a
  injection a with _ a _
  exact s a
end
structure TyS (W0 w:World) (BR tb ib eb kd num:Nat) (SA:Option Addr) (sc ns:Nat) (sX:List Value) (EA:Option Addr) (ec ne:Nat) (eX:List Value) (IA:Option Addr) (ic ni:Nat) (iX:List Value) (AA:Option Addr) (ac na:Nat) (aX:List Value):Prop where
 bel:Below W0.heap.size W0 w
 br:BR≤w.heap.size
 b1:W0.heap.size≤tb∧tb<BR
 b2:W0.heap.size≤ib∧ib<BR
 b3:W0.heap.size≤eb∧eb<BR
 n1:tb≠ib
 n2:tb≠eb
 n3:ib≠eb
 ht:w.heap[tb]?=some (.cells #[.slice SA ns sc,.slice EA ne ec] 26 (0,0))
 hi:w.heap[ib]?=some (.cells #[.slice IA ni ic,.slice none 0 0] 45 (0,0))
 he:w.heap[eb]?=some (.cells #[.int .i64 kd,.string ⟨#[]⟩,.int .u64 num,.slice AA na ac,.int .i64 0] 90 (0,0))
 rs:w.ownsRow BR 93 6 (.slice SA ns sc) ns sX
 re:w.ownsRow BR 90 5 (.slice EA ne ec) ne eX
 ri:w.ownsRow BR 43 2 (.slice IA ni ic) ni iX
 ra:w.ownsRow BR 3 1 (.slice AA na ac) na aX
section
variable {W0 w w1 w2 w':World} {BR tb ib eb kd num:Nat} {SA:Option Addr} {sc ns:Nat} {sX:List Value} {EA:Option Addr} {ec ne:Nat} {eX:List Value} {IA:Option Addr} {ic ni:Nat} {iX:List Value} {AA:Option Addr} {ac na:Nat} {aX:List Value}
theorem TyS.next (h:TyS W0 w BR tb ib eb kd num SA sc ns sX EA ec ne eX IA ic ni iX AA ac na aX) (a:Below w.heap.size w w'):TyS W0 w' BR tb ib eb kd num SA sc ns sX EA ec ne eX IA ic ni iX AA ac na aX:=
 ⟨bnext h.bel a,Kah h.br a.size,h.b1,h.b2,h.b3,h.n1,h.n2,h.n3,(a.block _ (Kab.1 h.ht).1).trans h.ht,(a.block _ (Kab.1 h.hi).1).trans h.hi,(a.block _ (Kab.1 h.he).1).trans h.he,trow_next h.rs a,trow_next h.re a,trow_next h.ri a,trow_next h.ra a⟩
theorem TyS.grow {j f l:Nat} {m:TypeId} {g:Option Addr} {p:List Value} (h:TyS W0 w BR tb ib eb kd num SA sc ns sX EA ec ne eX IA ic ni iX AA ac na aX) (i:w.ownsRow BR m j (.slice g f l) f p) (d:w.grownBy w' (blk g)):
  Below W0.heap.size W0 w'∧BR≤w'.heap.size∧w'.heap[tb]?=w.heap[tb]?∧w'.heap[ib]?=w.heap[ib]?∧w'.heap[eb]?=w.heap[eb]?:=by
 have a:∀ b,b<BR→w'.heap[b]?=w.heap[b]?:=fun b r=>d.block b (Kae r h.br) (fun q=>by have:=(Zdg i b q.symm).1;omega)
 exact ⟨Zal h.bel d h.bel.size (fun k a=>by have s:=(Zdg i k a).1;have t:=h.b1;omega),Kah h.br d.size,a tb h.b1.2,a ib h.b2.2,a eb h.b3.2⟩
theorem TyS.pushS {d:Option Addr} {a f:Nat} {g:List Value} (h:TyS W0 w BR tb ib eb kd num SA sc ns sX EA ec ne eX IA ic ni iX AA ac na aX) (b:w.grownBy w2 (blk SA)) (i:w2.ownsRow BR 93 6 (.slice d a f) a g):
  TyS W0 (w2.setCell ⟨tb,0,none⟩ (.slice d a f)) BR tb ib eb kd num d f a g EA ec ne eX IA ic ni iX AA ac na aX:=by
 obtain ⟨j,l,m,p,q⟩:=h.grow h.rs b;have r:=m.trans h.ht;exact ⟨Zaf j h.b1.1 _,by simpa [World.setCell] using l,h.b1,h.b2,h.b3,h.n1,h.n2,h.n3,heap_setCell_same _ _ _ _ _ _ r,(ZaS _ _ _ (fun e=>h.n1 e.symm)).trans (p.trans h.hi),(ZaS _ _ _ (fun e=>h.n2 e.symm)).trans (q.trans h.he),
  trow_set i h.b1.2 _,trow_set (trow_other h.re h.rs (by decide) b) h.b1.2 _,trow_set (trow_other h.ri h.rs (by decide) b) h.b1.2 _,trow_set (trow_other h.ra h.rs (by decide) b) h.b1.2 _⟩
theorem TyS.pushE {d:Option Addr} {a f:Nat} {g:List Value} (h:TyS W0 w BR tb ib eb kd num SA sc ns sX EA ec ne eX IA ic ni iX AA ac na aX) (b:w.grownBy w2 (blk EA)) (i:w2.ownsRow BR 90 5 (.slice d a f) a g):
  TyS W0 (w2.setCell ⟨tb,1,none⟩ (.slice d a f)) BR tb ib eb kd num SA sc ns sX d f a g IA ic ni iX AA ac na aX:=by
 obtain ⟨j,l,m,p,q⟩:=h.grow h.re b;have r:=m.trans h.ht;exact ⟨Zaf j h.b1.1 _,by simpa [World.setCell] using l,h.b1,h.b2,h.b3,h.n1,h.n2,h.n3,heap_setCell_same _ _ _ _ _ _ r,(ZaS _ _ _ (fun e=>h.n1 e.symm)).trans (p.trans h.hi),(ZaS _ _ _ (fun e=>h.n2 e.symm)).trans (q.trans h.he),
  trow_set (trow_other h.rs h.re (by decide) b) h.b1.2 _,trow_set i h.b1.2 _,trow_set (trow_other h.ri h.re (by decide) b) h.b1.2 _,trow_set (trow_other h.ra h.re (by decide) b) h.b1.2 _⟩
theorem TyS.pushI {d:Option Addr} {a f:Nat} {g:List Value} (h:TyS W0 w BR tb ib eb kd num SA sc ns sX EA ec ne eX IA ic ni iX AA ac na aX) (b:w.grownBy w2 (blk IA)) (i:w2.ownsRow BR 43 2 (.slice d a f) a g):
  TyS W0 (w2.setCell ⟨ib,0,none⟩ (.slice d a f)) BR tb ib eb kd num SA sc ns sX EA ec ne eX d f a g AA ac na aX:=by
 obtain ⟨j,l,m,p,q⟩:=h.grow h.ri b;have r:=p.trans h.hi;exact ⟨Zaf j h.b2.1 _,by simpa [World.setCell] using l,h.b1,h.b2,h.b3,h.n1,h.n2,h.n3,(ZaS _ _ _ h.n1).trans (m.trans h.ht),heap_setCell_same _ _ _ _ _ _ r,(ZaS _ _ _ (fun e=>h.n3 e.symm)).trans (q.trans h.he),
  trow_set (trow_other h.rs h.ri (by decide) b) h.b2.2 _,trow_set (trow_other h.re h.ri (by decide) b) h.b2.2 _,trow_set i h.b2.2 _,trow_set (trow_other h.ra h.ri (by decide) b) h.b2.2 _⟩
theorem TyS.pushA {d:Option Addr} {a f:Nat} {g:List Value} (h:TyS W0 w BR tb ib eb kd num SA sc ns sX EA ec ne eX IA ic ni iX AA ac na aX) (b:w.grownBy w2 (blk AA)) (i:w2.ownsRow BR 3 1 (.slice d a f) a g):
  TyS W0 (w2.setCell ⟨eb,3,none⟩ (.slice d a f)) BR tb ib eb kd num SA sc ns sX EA ec ne eX IA ic ni iX d f a g:=by
 obtain ⟨j,l,m,p,q⟩:=h.grow h.ra b;have r:=q.trans h.he;exact ⟨Zaf j h.b3.1 _,by simpa [World.setCell] using l,h.b1,h.b2,h.b3,h.n1,h.n2,h.n3,(ZaS _ _ _ h.n2).trans (m.trans h.ht),(ZaS _ _ _ h.n3).trans (p.trans h.hi),heap_setCell_same _ _ _ _ _ _ r,
  trow_set (trow_other h.rs h.ra (by decide) b) h.b3.2 _,trow_set (trow_other h.re h.ra (by decide) b) h.b3.2 _,trow_set (trow_other h.ri h.ra (by decide) b) h.b3.2 _,trow_set i h.b3.2 _⟩
theorem TyS.cells (h:TyS W0 w BR tb ib eb kd num SA sc ns sX EA ec ne eX IA ic ni iX AA ac na aX):w.cell? ⟨tb,0,none⟩=some (.slice SA ns sc)∧w.cell? ⟨tb,1,none⟩=some (.slice EA ne ec)∧w.cell? ⟨ib,0,none⟩=some (.slice IA ni ic)∧w.cell? ⟨ib,1,none⟩=some (.slice none 0 0) ∧
  w.cell? ⟨eb,0,none⟩=some (.int .i64 kd)∧w.cell? ⟨eb,1,none⟩=some (.string ⟨#[]⟩)∧w.cell? ⟨eb,2,none⟩=some (.int .u64 num)∧w.cell? ⟨eb,3,none⟩=some (.slice AA na ac)∧w.cell? ⟨eb,4,none⟩=some (.int .i64 0):=
 ⟨Kaa 0 h.ht,Kaa 1 h.ht,Kaa 0 h.hi,Kaa 1 h.hi,Kaa 0 h.he,Kaa 1 h.he,Kaa 2 h.he,Kaa 3 h.he,Kaa 4 h.he⟩
end
theorem made1_any (l cb a:Nat) (B p n:Nat) (q:Option Addr) (h:List (ND × NV)) (m:ND × NV) (w:World) (C:w.cell? ⟨l,0,none⟩=some (.pointer (some ⟨cb,0,none⟩))) (D:w.cell? ⟨cb,3,none⟩=some (.slice q n p)) (r:n=h.length) (s:NdRow w B q p h) (i:h[a]?=some m):
  Calls Tryz.prog 107 #[.int .i64 (a:Int),.pointer (some ⟨l,0,none⟩)] w fun e w'=>e=.returned (.bool (!(m.1.kind==2)))∧w=w':=by
 obtain ⟨g,rfl,E,t,x⟩:=s.at_ i;have c0:=t 0 _ rfl (by omega)
 rw [Nat.add_zero] at c0;have y:=(Kaf.1 i).1;rw [←r] at y;have F:(0:Int)≤(a:Int):=by omega
 have H:(a:Int)<(n:Int):=by omega
 obtain ⟨kd,v⟩:=Ky m.1.kind;rw [←v] at c0 ⊢;clear s t x i r v
 by_cases d:kd=2
 ·have z:((kd:Int) != 2)=false:=by subst d;rfl
  have j:=Kz (show (!(kd==2))=false from by subst d;rfl)
  clear d
  go_enter Tryz.func107,Tryz.ntmps107
  go_wp2
  go_ret;exact ⟨congrArg (fun b=>Ending.returned (.bool b)) j.o.symm,rfl⟩
 ·have z:((kd:Int) != 2)=true:=by
   rw [bne_iff_ne];omega
  have j:=Kz (show (!(kd==2))=true from by rw [Kaj.2 d];rfl)
  clear d
  go_enter Tryz.func107,Tryz.ntmps107
  go_wp2
  go_ret;exact ⟨congrArg (fun b=>Ending.returned (.bool b)) j.o.symm,rfl⟩
theorem constD_at {b:List (ND × NV)} {a:Nat} {m:ND × NV} (h:b[a]?=some m):constD (b.map Prod.fst) a=(m.1.kind==2):=by
 unfold constD;rw [atD_some (show (b.map Prod.fst)[a]?=some m.1 by rw [Kal,h];rfl)]
theorem idxA_any (s cb:Nat) (B t N:Nat) (v:Option Addr) (g:List (ND × NV)) (A:Option Addr) (n c:Nat) (l:List Nat) (w:World) (D:w.cell? ⟨s,0,none⟩=some (.pointer (some ⟨cb,0,none⟩))) (E:w.cell? ⟨cb,3,none⟩=some (.slice v N t)) (F:N=g.length) (i:NdRow w B v t g) (I:∀ a∈l,a<g.length)
  (J:n=l.length) (X:n≤9223372036854775807) (h:Rd w w.heap.size A (l.map VNt)):
  Calls Tryz.prog 118 #[.slice A n c,.func (.func 107) #[] #[.pointer (some ⟨s,0,none⟩)]] w fun e w'=>(∃ r:Int,e=.returned (.int .i64 r)∧decide ((0:Int)≤r) = !l.all (constD (g.map Prod.fst)))∧w=w':=by
 have x:=Kz J;have H:=Kz h;have R:=Kz I;have S:=Kz (fun a m (j:g[a]?=some m)=>made1_any s cb a B t N v g m w D E F i j)
 clear h D E J F i I
 go_enter Tryz.func118,Tryz.ntmps118
 go_wp2
 go_loop [5,8] (fun _ y=>∃ k:Nat,k≤n∧y=.int .i64 k∧l.all (constD (g.map Prod.fst))=(l.drop k).all (constD (g.map Prod.fst))) (fun _ y=>n-(intOf y).toNat)
 case atStart=>exact ⟨0,by omega,rfl,rfl⟩
 case round=>
  obtain ⟨k,Y,rfl,i⟩:=hrel;have z:=Kz i;clear i
  by_cases L:k<n
  ·have p:l[k]?=some (l[k]'(by rw [←x.o];exact L)):=Kad _
   obtain ⟨d,M⟩:=Ky (l[k]'(by rw [←x.o];exact L))
   rw [←M] at p;have O:(l.map VNt)[k]?=some (VNt d):=by rw [Kal,p];rfl
   obtain ⟨b,o,rfl,Z,c0⟩:=H.o.at_ O;have a0:w.cell? ⟨b,o+k,none⟩=some (.int .i64 (d:Int)):=c0;have i0:(0:Int)≤(k:Int):=by omega
   have i1:(k:Int)<(n:Int):=by omega
   have P:=Kz (show (l.drop k).all (constD (g.map Prod.fst))=(constD (g.map Prod.fst) d&&(l.drop (k+1)).all (constD (g.map Prod.fst))) from by
    obtain ⟨T,V⟩:=Kaf.1 p;rw [List.drop_eq_getElem_cons T,List.all_cons,V])
   have Q:=R.o d (Kam p);have j:g[d]?=some (g[d]'Q):=Kad Q;have q:=S.o d _ j;rw [←constD_at j] at q;clear p O M c0 j
   cases ho:constD (g.map Prod.fst) d with
   | false=>
    have C:=Kz ho;rw [ho] at q;clear ho
    go_wp2_with (go_at_call 107;refine q.mono ?_;rintro e w' ⟨rfl,rfl⟩)
    go_ret;exact ⟨⟨_,rfl,by rw [z.o,P.o,C.o];simp⟩,rfl⟩
   | true=>
    have C:=Kz ho;rw [ho] at q;clear ho
    go_wp2_with (go_at_call 107;refine q.mono ?_;rintro e w' ⟨rfl,rfl⟩)
    exact ⟨⟨k+1,by omega,rfl,(by rw [z.o,P.o,C.o];rfl)⟩,by simp [intOf];omega⟩
  ·obtain rfl:n=k:=by omega
   have W:=Kz (show l.all (constD (g.map Prod.fst))=true from by rw [z.o,x.o,List.drop_length];rfl)
   go_wp2
   go_ret;exact ⟨⟨-1,rfl,by rw [W.o];rfl⟩,rfl⟩
theorem conA_any (d cb:Nat) (B g N:Nat) (i:Option Addr) (b:List (ND × NV)) (A:Option Addr) (n c:Nat) (l:List Nat) (w:World) (m:w.cell? ⟨d,0,none⟩=some (.pointer (some ⟨cb,0,none⟩))) (p:w.cell? ⟨cb,3,none⟩=some (.slice i N g)) (q:N=b.length) (j:NdRow w B i g b) (s:∀ a∈l,a<b.length)
  (t:n=l.length) (v:n≤9223372036854775807) (h:Rd w w.heap.size A (l.map VNt)):
  Calls Tryz.prog 75 #[.slice A n c,.func (.func 107) #[] #[.pointer (some ⟨d,0,none⟩)]] w fun e w'=>e=.returned (.bool (!l.all (constD (b.map Prod.fst))))∧w=w':=by
 have x:=Kz (idxA_any d cb B g N i b A n c l w m p q j s t v h);clear h m p t q j s
 go_enter Tryz.func75,Tryz.ntmps75
 go_wp2_with (go_at_call 118;refine x.o.mono ?_;rintro e w' ⟨⟨r,rfl,j⟩,rfl⟩)
 go_ret;exact ⟨rfl,rfl⟩
theorem cells_node {w:World} {g:Nat} {m:ND × NV} (h:w.heap[g]?=some (.cells (ndC m).toArray 77 (0,0))):∀ k v,(ndC m)[k]?=some v→w.cell? ⟨g,k,none⟩=some v:=fun k v a=>by rw [cell_of_row w g k _ _ (0,0) h];simpa using a
theorem made2_any (l:Nat) (m m':ND × NV) (w:World) (i:w.heap[l]?=some (.cells (ndC m').toArray 77 (0,0))) (h:NdR w m) (p:NdR w m'):
  Calls Tryz.prog 110 #[ndA m,.pointer (some ⟨l,0,none⟩)] w fun e w'=>e=.returned (.bool (decide (m.1=m'.1)))∧Below w.heap.size w w':=by
 obtain ⟨w2,g⟩:=Ky (w.alloc (.cells #[.int .i64 m.1.kind,m.2.sv,m.2.av,.int .i64 m.1.party,.int .i64 m.1.input,.int .i64 m.1.k,m.2.ev] 77));have d:=Kv g;have q:=Kw g;have r:=(d.block _ (Kab.1 i).1).trans i;have s:=Kz (dsame_any m m' w2 (h.next d) (p.next d));have z:=Kz d;obtain ⟨R,x⟩:=Ky (decide (m.1=m'.1));rw [←x] at s ⊢;have a:=fun k v j=>cells_node q k v j
 have b:=fun k v j=>cells_node r k v j
 have C:=Kz g;have D:=a 0 _ rfl;have E:=a 1 _ rfl;have F:=a 2 _ rfl;have H:=a 3 _ rfl;have I:=a 4 _ rfl;have J:=a 5 _ rfl;have L:=a 6 _ rfl;have M:=b 0 _ rfl;have N:=b 1 _ rfl;have O:=b 2 _ rfl;have P:=b 3 _ rfl;have Q:=b 4 _ rfl;have S:=b 5 _ rfl;have T:=b 6 _ rfl;clear i h p d q r x a b g;unfold ndA
 go_enter Tryz.func110,Tryz.ntmps110
 go_upto_region 1 with fail
 rw [←C.o]
 go_wp2_with fail
 refine s.o.mono ?_
 rintro e w3 ⟨rfl,y⟩
 have V:=Kz (bnext z.o y);clear y D E F H I J L M N O P Q S T
 go_wp2
 go_ret;exact ⟨rfl,V.o⟩
theorem idxD_first {l:List ND} {n:ND} {k:Nat} (h:∀ j,j<k→l[j]?≠some n) (b:l[k]?=some n):idxD l n=some k:=by
 cases hc:idxD l n with
 | none=>exact absurd b (idxD_none hc k)
 | some i=>
  obtain ⟨d,f⟩:=idxD_some hc;rcases Nat.lt_trichotomy i k with a | a | a
  ·exact absurd d (h i a)
  ·rw [a]
  ·exact absurd b (f k a)
theorem idxD_not {l:List ND} {n:ND} (h:∀ j,j<l.length→l[j]?≠some n):idxD l n=none:=by
 cases hc:idxD l n with
 | none=>rfl
 | some i=>
  obtain ⟨a,b⟩:=idxD_some hc;exact absurd a (h i (Kaf.1 a).1)
def idxV (o:Option Nat):Int:=match o with | some i=>i | none => -1
theorem idxN_any (r:Nat) (B n F:Nat) (H:Option Addr) (a:List (ND × NV)) (m':ND × NV) (w:World) (I:n=a.length) (a0:n≤100000) (J:NdRow w B H F a) (s:w.heap[r]?=some (.cells (ndC m').toArray 77 (0,0))) (L:NdR w m'):
  Calls Tryz.prog 109 #[.slice H n F,.func (.func 110) #[] #[.pointer (some ⟨r,0,none⟩)]] w fun e w'=>e=.returned (.int .i64 (idxV (idxD (a.map Prod.fst) m'.1)))∧Below w.heap.size w w':=by
 have v:=Kz I;have X:=Kz (fun W (l:Below w.heap.size w W)=>J.next l)
 have Y:=Kz (fun (m:ND × NV) W (l:Below w.heap.size w W) (d:NdR W m)=>made2_any r m m' W ((l.block _ (Kab.1 s).1).trans s) d (L.next l))
 obtain ⟨R,x⟩:=Ky (idxV (idxD (a.map Prod.fst) m'.1));rw [←x];have M:=Kz x;clear I J s L x
 go_enter Tryz.func109,Tryz.ntmps109
 go_wp2
 go_loopw [5,8] (fun _ y wr=>∃ k:Nat,k≤n∧y=.int .i64 k∧Below w.heap.size w wr∧∀ j,j<k→(a.map Prod.fst)[j]?≠some m'.1) (fun _ y _=>n-(intOf y).toNat)
 case atStart=>exact ⟨0,by omega,rfl,Kai _ _,fun j z=>by omega⟩
 case round=>
  obtain ⟨k,a1,rfl,p,N⟩:=hrel;have C:=Kz p;have D:=Kz N;clear N
  by_cases O:k<n
  ·have d:a[k]?=some (a[k]'(by rw [←v.o];exact O)):=Kad _
   obtain ⟨m,P⟩:=Ky (a[k]'(by rw [←v.o];exact O))
   rw [←P] at d;obtain ⟨a2,rfl,Z,b,Q⟩:=(X.o _ p).at_ d;have S:=Kz (show (a.map Prod.fst)[k]?=some m.1 by rw [Kal,d];rfl)
   have q:=Kz (Y.o m wr p Q.rd);have c0:=b 0 _ rfl (by omega)
   rw [Nat.add_zero] at c0;have c1:=b 1 _ rfl (by omega)
   have c2:=b 2 _ rfl (by omega)
   have c3:=b 3 _ rfl (by omega)
   have c4:=b 4 _ rfl (by omega)
   have c5:=b 5 _ rfl (by omega)
   have T:=b 6 _ rfl (by omega)
   have i0:(0:Int)≤(k:Int):=by omega
   have i1:(k:Int)<(n:Int):=by omega
   clear d P b Q p Z
   by_cases g:m.1=m'.1
   ·rw [show decide (m.1=m'.1)=true from decide_eq_true g] at q
    have h:=Kz (show R=(k:Int) from by rw [M.o,idxD_first D.o (by rw [S.o,g])];rfl)
    clear g
    go_wp2_with fail
    refine q.o.mono ?_
    rintro e w3 ⟨rfl,i⟩
    have E:=Kz (bnext C.o i);clear i c0 c1 c2 c3 c4 c5 T
    go_wp2
    go_ret;exact ⟨by rw [h.o];rfl,E.o⟩
   ·rw [show decide (m.1=m'.1)=false from decide_eq_false g] at q
    have h:=Kz (show ∀ j,j<k+1→(a.map Prod.fst)[j]?≠some m'.1 from fun j z=>by
     rcases Nat.lt_or_ge j k with V | V
     ·exact D.o j V
     ·rw [show j=k from by omega,S.o]
      exact fun e=>g (Option.some.inj e))
    clear g
    go_wp2_with fail
    refine q.o.mono ?_
    rintro e w3 ⟨rfl,i⟩
    have E:=Kz (bnext C.o i);clear i c0 c1 c2 c3 c4 c5 T
    go_wp2
    exact ⟨⟨k+1,by omega,rfl,E.o,h.o⟩,by simp [intOf];omega⟩
  ·obtain rfl:n=k:=by omega
   have h:=Kz (show R = -1 from by rw [M.o,idxD_not (fun j z=>D.o j (by rw [v.o,←Kak (f:=Prod.fst)];exact z))];rfl)
   go_wp2
   go_ret;exact ⟨by rw [h.o];rfl,C.o⟩
end Go.Proofs.YtghlnncfigkkaaaGreatDoor
