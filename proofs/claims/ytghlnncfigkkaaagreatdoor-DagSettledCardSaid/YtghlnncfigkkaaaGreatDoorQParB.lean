/-
 Walks of the parser's small functions: fail, is, take, want, name, number, sink.
-/
import Derived.Test.YtghlnncfigkkaaaGreatDoorQParA
set_option maxRecDepth 100000
set_option maxHeartbeats 2000000
set_option linter.unusedVariables false
set_option linter.unusedSimpArgs false
namespace Go.Proofs.YtghlnncfigkkaaaGreatDoor
open Go.RowKit
section
variable {X:Nat→Prop} {base P tc:Nat} {TA:Option Addr} {L:List Tok} {s:PS} {SA EA:Option Addr} {sc ec:Nat} {ev:Value}
theorem ZaO (a c d:Int) (b:ByteArray) (w:World):(Instr.field 155 (.agg #[.int .i64 a,.string b,.int .u64 c,.int .i64 d]) 3).run Tryz.prog w=.ok (.int .i64 d) w:=by kernel_rfl
theorem ZaP (a c d:Int) (b:ByteArray) (w:World):(Instr.field 155 (.agg #[.int .i64 a,.string b,.int .u64 c,.int .i64 d]) 0).run Tryz.prog w=.ok (.int .i64 a) w:=by kernel_rfl
attribute [local go_sem ↓] ZaO ZaP
theorem ZfQ (w:World) (h:PR X base P TA tc L s w SA sc EA ec ev) {kd a b:Nat} {c:ByteArray} (d:nowP L s=⟨kd,c,a,b⟩):
  Calls Tryz.prog 83 #[PP P] w fun e w'=>e=.returned (.agg #[.int .i64 kd,.string c,.int .u64 a,.int .i64 b])∧Below w.heap.size w w':=by
 have:=ZmH w h;rw [d] at this;exact this
theorem PR.below' {w:World} (h:PR X base P TA tc L s w SA sc EA ec ev) {w':World} (a:Below w.heap.size w w') (o:Obj):(w'.alloc o).cell? ⟨P,5,none⟩=some ev∧(w'.alloc o).cell? ⟨P,1,none⟩=some (.int .i64 s.i):=
 ⟨((h.below a).below ((Kai _ _).alloc (Kag _) o)).c5,((h.below a).below ((Kai _ _).alloc (Kag _) o)).c1⟩
theorem Za3 {w w':World} (a:Below w.heap.size w w') (o:Obj):Below w.heap.size w (w'.alloc o):=a.alloc a.size o
theorem ZlM (w:World) (h:PR X base P TA tc L s w SA sc EA ec ev) (t:ByteArray):
  Calls Tryz.prog 173 #[PP P,.string t] w fun e w'=>e=.returned (.bool (isP L s t))∧Below w.heap.size w w':=by
 obtain ⟨kd,g,k,l,j⟩:∃ kd g k l,nowP L s=⟨kd,g,k,l⟩:=⟨_,_,_,_,rfl⟩;have d:=Kz (ZfQ w h j);have H:=Kz h;have m:isP L s t=(s.err.isNone&&(kd==3||kd==4)&&(g.toList==t.toList)):=by unfold isP;rw [j]
 rw [m];clear j m
 cases herr:s.err with
 | some c=>
  obtain ⟨q,r,rfl⟩:=h.anErr (by rw [herr];simp)
  clear h herr
  go_enter Tryz.func173,Tryz.ntmps173
  go_wp2_with fail
  refine d.o.mono ?_
  rintro e w1 ⟨rfl,a⟩
  have i:=fun o=>(H.o.below' a o).1
  have b:=Kz (fun o=>Za3 a o)
  clear a
  go_wp2
  go_ret;exact ⟨rfl,b.o _⟩
 | none=>
  obtain rfl:=h.noErr herr;clear h herr;have n:((kd:Int)==3)=(kd==3):=by rw [Bool.eq_iff_iff,beq_iff_eq,beq_iff_eq];omega
  have p:((kd:Int)==4)=(kd==4):=by rw [Bool.eq_iff_iff,beq_iff_eq,beq_iff_eq];omega
  cases q1:(kd==3) with
  | true=>
   rw [q1] at n
   cases q3:(g.toList==t.toList) with
   | true=>
    go_enter Tryz.func173,Tryz.ntmps173
    go_wp2_with fail
    refine d.o.mono ?_
    rintro e w1 ⟨rfl,a⟩
    have i:=fun o=>(H.o.below' a o).1
    have b:=Kz (fun o=>Za3 a o)
    clear a
    go_wp2
    go_ret;exact ⟨rfl,b.o _⟩
   | false=>
    go_enter Tryz.func173,Tryz.ntmps173
    go_wp2_with fail
    refine d.o.mono ?_
    rintro e w1 ⟨rfl,a⟩
    have i:=fun o=>(H.o.below' a o).1
    have b:=Kz (fun o=>Za3 a o)
    clear a
    go_wp2
    go_ret;exact ⟨rfl,b.o _⟩
  | false=>
   rw [q1] at n
   cases q2:(kd==4) with
   | true=>
    rw [q2] at p
    cases q3:(g.toList==t.toList) with
    | true=>
     go_enter Tryz.func173,Tryz.ntmps173
     go_wp2_with fail
     refine d.o.mono ?_
     rintro e w1 ⟨rfl,a⟩
     have i:=fun o=>(H.o.below' a o).1
     have b:=Kz (fun o=>Za3 a o)
     clear a
     go_wp2
     go_ret;exact ⟨rfl,b.o _⟩
    | false=>
     go_enter Tryz.func173,Tryz.ntmps173
     go_wp2_with fail
     refine d.o.mono ?_
     rintro e w1 ⟨rfl,a⟩
     have i:=fun o=>(H.o.below' a o).1
     have b:=Kz (fun o=>Za3 a o)
     clear a
     go_wp2
     go_ret;exact ⟨rfl,b.o _⟩
   | false=>
    rw [q2] at p
    go_enter Tryz.func173,Tryz.ntmps173
    go_wp2_with fail
    refine d.o.mono ?_
    rintro e w1 ⟨rfl,a⟩
    have i:=fun o=>(H.o.below' a o).1
    have b:=Kz (fun o=>Za3 a o)
    clear a
    go_wp2
    go_ret;exact ⟨rfl,b.o _⟩
theorem ZeC {w:World} {g P k j:Nat} {v b:Value} (h:g≠P) (c:w.cell? ⟨g,j,none⟩=some b):(w.setCell ⟨P,k,none⟩ v).cell? ⟨g,j,none⟩=some b:=
 (World.cell?_of_block (a:=⟨g,j,none⟩) (Zap w ⟨P,k,none⟩ v h)).trans c
theorem PR.pm {w:World} (h:PR X base P TA tc L s w SA sc EA ec ev):PM X base P TA tc L s w:=⟨SA,sc,EA,ec,ev,h⟩
theorem Zb5 (w:World) (h:PR X base P TA tc L s w SA sc EA ec ev) (c:Nat):
  Calls Tryz.prog 128 #[PP P,.int .i64 c] w fun e w'=>(∃ v,e=.returned v)∧PM X base P TA tc L (failP L s c) w'∧KT base w w':=by
 obtain ⟨kd,n,p,d,g⟩:∃ kd n p d,nowP L s=⟨kd,n,p,d⟩:=⟨_,_,_,_,rfl⟩;have r:=Kz (ZfQ w h g);have t:=Kz g;have H:=Kz h;have c5:=h.c5;clear g
 cases herr:s.err with
 | some x=>
  obtain ⟨y,z,rfl⟩:=h.anErr (by rw [herr];simp)
  have i:=Kz (show failP L s c=s from by unfold failP;rw [herr])
  clear h herr
  go_enter Tryz.func128,Tryz.ntmps128
  go_wp2
  go_end0
  exact ⟨⟨_,rfl⟩,by rw [i.o];exact H.o.pm,KT.refl _ _⟩
 | none=>
  obtain rfl:=h.noErr herr;have i:=Kz (show failP L s c={ s with err:=some (c,d) } from by unfold failP;rw [herr,t.o])
  clear h herr
  go_enter Tryz.func128,Tryz.ntmps128
  go_wp2_with fail
  refine r.o.mono ?_
  rintro e w1 ⟨rfl,j⟩
  have q:=Kz (H.o.below j);have B:=Kz (KT.below (base:=base) j);clear j
  go_wp2_with fail
  refine (ZdE c parN d w1 q.o.ety).mono ?_
  rintro e w2 ⟨v,rfl,k,l⟩
  obtain ⟨y,z,rfl⟩:=k.iface;have m:=Kz (q.o.below l);have C:=Kz (B.o.trans (KT.below l));have D:=Kz k;have E:=m.o.c5;have F:=m.o.free 5;clear k l
  go_wp2
  go_end0
  obtain ⟨a,b⟩:=m.o.fault c d _ D.o;exact ⟨⟨_,rfl⟩,by rw [i.o];exact a.pm,C.o.trans b⟩
theorem Zfe (w:World) (h:PR X base P TA tc L s w SA sc EA ec ev) (t:ByteArray):
  Calls Tryz.prog 129 #[PP P,.string t] w fun e w'=>e=.returned (.bool (isP L s t))∧PM X base P TA tc L (if isP L s t=true then advP s else s) w'∧KT base w w':=by
 have g:=Kz (ZlM w h t);have H:=Kz h;have k:=h.len;have l:=h.ii;clear h
 cases hq:isP L s t with
 | false=>
  rw [hq] at g
  go_enter Tryz.func129,Tryz.ntmps129
  go_wp2_with fail
  refine g.o.mono ?_
  rintro e w1 ⟨rfl,c⟩
  have d:=Kz (H.o.below c);have i:=Kz (KT.below (base:=base) c);clear c
  go_wp2
  go_ret;exact ⟨rfl,d.o.pm,i.o⟩
 | true=>
  rw [hq] at g;have j:=Kz (ZaD hq)
  go_enter Tryz.func129,Tryz.ntmps129
  go_wp2_with fail
  refine g.o.mono ?_
  rintro e w1 ⟨rfl,c⟩
  have d:=Kz (H.o.below c);have i:=Kz (KT.below (base:=base) c);have c1:=d.o.c1;have m:=d.o.free 1;clear c
  go_wp2
  go_ret;obtain ⟨a,b⟩:=d.o.adv j.o;exact ⟨rfl,a.pm,i.o.trans b⟩
theorem PM.eq {w:World} {s a:PS} (h:PM X base P TA tc L s w) (e:s=a):PM X base P TA tc L a w:=e ▸ h
theorem Zll (w:World) (h:PR X base P TA tc L s w SA sc EA ec ev) (t:ByteArray):
  Calls Tryz.prog 133 #[PP P,.string t] w fun e w'=>(∃ v,e=.returned v)∧PM X base P TA tc L (wantP L s t) w'∧KT base w w':=by
 have c:=Kz (Zfe w h t);clear h
 cases hq:isP L s t with
 | false=>
  rw [hq] at c;have d:=Kz (show wantP L s t=failP L s 130 from by unfold wantP;rw [hq];rfl)
  go_enter Tryz.func133,Tryz.ntmps133
  go_wp2_with fail
  refine c.o.mono ?_
  rintro e w1 ⟨rfl,⟨p,q,r,x,y,a⟩,b⟩
  have g:=Kz b;have k:=Kz (Zb5 w1 a 130);clear a b
  go_wp2_with fail
  refine k.o.mono ?_
  rintro e w2 ⟨⟨v,rfl⟩,i,j⟩
  have l:=Kz (g.o.trans j);have m:=Kz i;clear i j
  go_wp2
  go_end0
  exact ⟨⟨_,rfl⟩,m.o.eq d.o.symm,l.o⟩
 | true=>
  rw [hq] at c;have d:=Kz (show wantP L s t=advP s from by unfold wantP;rw [hq];rfl)
  go_enter Tryz.func133,Tryz.ntmps133
  go_wp2_with fail
  refine c.o.mono ?_
  rintro e w1 ⟨rfl,a,b⟩
  have g:=Kz b;have n:=Kz a;clear a b
  go_wp2
  go_end0
  exact ⟨⟨_,rfl⟩,n.o.eq d.o.symm,g.o⟩
theorem Zlm (w:World) (h:PR X base P TA tc L s w SA sc EA ec ev):
  Calls Tryz.prog 216 #[PP P] w fun e w'=>e=.returned (.bool (sinkP L s).2)∧PM X base P TA tc L (sinkP L s).1 w'∧KT base w w':=by
 have c4:=h.c4;have m:=h.free 4;have n:=h.dd;have H:=Kz h;clear h
 by_cases d:s.deep=32
 ·have q:((s.deep:Int)==32)=true:=by rw [beq_iff_eq];omega
  have c:=Kz (show sinkP L s=(failP L s 5,false) from by unfold sinkP;rw [if_pos d])
  have j:=Kz (Zb5 w H.o 5);clear d
  go_enter Tryz.func216,Tryz.ntmps216
  go_wp2_with fail
  refine j.o.mono ?_
  rintro e w2 ⟨⟨v,rfl⟩,g,i⟩
  have k:=Kz i;have l:=Kz g;clear g i
  go_wp2
  go_ret;exact ⟨by rw [c.o];rfl,by rw [c.o];exact l.o,k.o⟩
 ·have q:((s.deep:Int)==32)=false:=by rw [Kaj];omega
  have c:=Kz (show sinkP L s=({ s with deep:=s.deep+1 },true) from by unfold sinkP;rw [if_neg d])
  have p:s.deep≤31:=by omega
  clear d
  go_enter Tryz.func216,Tryz.ntmps216
  go_wp2
  go_ret;obtain ⟨a,b⟩:=H.o.deepen (s.deep+1) (by omega)
  exact ⟨by rw [c.o];rfl,by rw [c.o];exact a.pm,b⟩
theorem Zln (w:World) (h:PR X base P TA tc L s w SA sc EA ec ev):
  Calls Tryz.prog 131 #[PP P] w fun e w'=>e=.returned (.string (nameP L s).2)∧PM X base P TA tc L (nameP L s).1 w'∧KT base w w':=by
 obtain ⟨kd,n,C,D,m⟩:∃ kd n C D,nowP L s=⟨kd,n,C,D⟩:=⟨_,_,_,_,rfl⟩;have p:=Kz (ZfQ w h m);have H:=Kz h;have N:=h.len;have O:=h.ii;have E:nameP L s=if s.err.isSome||kd != 1 then (failP L s 130,noB) else (advP s,n):=by unfold nameP;rw [m]
 rw [E];have r:kd≠0→s.i<L.length:=fun J=>ZbX (by rw [m];exact J)
 clear m E;have fin:∀ {w1:World},Below w.heap.size w w1→∀ o,Hd (PR X base P TA tc L s (w1.alloc o) SA sc EA ec ev∧KT base w (w1.alloc o)):=fun g o=>⟨H.o.below (Za3 g o),KT.below (Za3 g o)⟩
 cases herr:s.err with
 | some x=>
  obtain ⟨Q,R,rfl⟩:=h.anErr (by rw [herr];simp)
  clear h herr
  go_enter Tryz.func131,Tryz.ntmps131
  go_wp2_with fail
  refine p.o.mono ?_
  rintro e w1 ⟨rfl,g⟩
  have F:=fun o=>(H.o.below' g o).1
  have j:=Kz (fin g);clear g fin
  go_wp2_with fail
  refine (Zb5 _ (j.o _).o.1 130).mono ?_
  rintro e w2 ⟨⟨v,rfl⟩,k,l⟩
  have y:=Kz ((j.o _).o.2.trans l);have z:=Kz k;clear k l j
  go_wp2
  go_ret;exact ⟨rfl,z.o,y.o⟩
 | none=>
  obtain rfl:=h.noErr herr;clear h herr
  by_cases B:kd=1
  ·subst B;have M:=Kz (r (by omega))
   clear r
   go_enter Tryz.func131,Tryz.ntmps131
   go_wp2_with fail
   refine p.o.mono ?_
   rintro e w1 ⟨rfl,g⟩
   have F:=fun o=>(H.o.below' g o).1
   have S:=fun o=>(H.o.below' g o).2
   have j:=Kz (fin g);have T:=fun o=>(fin g o).o.1.free 1
   have V:=H.o.lt;have W:=g.size;have Y:∀ (a b c d v:Value),((w1.alloc (.cells #[a,b,c,d] 155)).setCell ⟨P,1,none⟩ v).cell? ⟨w1.heap.size,1,none⟩=some b:=fun a b c d v=>ZeC (by omega) (Kaa 1 (Kac w1 _))
   clear g fin
   go_wp2
   go_ret;obtain ⟨a,b⟩:=(j.o _).o.1.adv M.o;exact ⟨rfl,a.pm,(j.o _).o.2.trans b⟩
  ·have q:((kd:Int) != 1)=true:=by rw [bne_iff_ne];omega
   have I:(kd != 1)=true:=by rw [bne_iff_ne];exact B
   rw [I];clear B I r
   go_enter Tryz.func131,Tryz.ntmps131
   go_wp2_with fail
   refine p.o.mono ?_
   rintro e w1 ⟨rfl,g⟩
   have F:=fun o=>(H.o.below' g o).1
   have j:=Kz (fin g);clear g fin
   go_wp2_with fail
   refine (Zb5 _ (j.o _).o.1 130).mono ?_
   rintro e w2 ⟨⟨v,rfl⟩,k,l⟩
   have y:=Kz ((j.o _).o.2.trans l);have z:=Kz k;clear k l j
   go_wp2
   go_ret;exact ⟨rfl,z.o,y.o⟩
theorem Zg5 (w:World) (h:PR X base P TA tc L s w SA sc EA ec ev):
  Calls Tryz.prog 130 #[PP P] w fun e w'=>e=.returned (.int .i64 ((Zaw L s).2:Nat))∧PM X base P TA tc L (Zaw L s).1 w'∧KT base w w':=by
 obtain ⟨kd,F,k,I,y⟩:∃ kd F k I,nowP L s=⟨kd,F,k,I⟩:=⟨_,_,_,_,rfl⟩;have z:=Kz (ZfQ w h y);have H:=Kz h;have O:=h.len;have Q:=h.ii;have J:Zaw L s=if s.err.isSome||kd != 2||decide (1048576<k) then (failP L s 130,0) else (advP s,k):=by unfold Zaw;rw [y]
 rw [J];have C:kd≠0→s.i<L.length:=fun M=>ZbX (by rw [y];exact M)
 clear y J;have fin:∀ {w1:World},Below w.heap.size w w1→∀ o,Hd (PR X base P TA tc L s (w1.alloc o) SA sc EA ec ev∧KT base w (w1.alloc o)):=fun g o=>⟨H.o.below (Za3 g o),KT.below (Za3 g o)⟩
 cases herr:s.err with
 | some x=>
  obtain ⟨R,S,rfl⟩:=h.anErr (by rw [herr];simp)
  clear h herr
  go_enter Tryz.func130,Tryz.ntmps130
  go_wp2_with fail
  refine z.o.mono ?_
  rintro e w1 ⟨rfl,g⟩
  have D:=fun o=>(H.o.below' g o).1
  have j:=Kz (fin g);clear g fin
  go_wp2_with fail
  refine (Zb5 _ (j.o _).o.1 130).mono ?_
  rintro e w2 ⟨⟨v,rfl⟩,l,m⟩
  have p:=Kz ((j.o _).o.2.trans m);have r:=Kz l;clear l m j
  go_wp2
  go_ret;exact ⟨rfl,r.o,p.o⟩
 | none=>
  obtain rfl:=h.noErr herr;clear h herr
  by_cases E:kd=2
  ·subst E;have N:=Kz (C (by omega))
   clear C
   by_cases B:1048576<k
   ·have q:decide ((1048576:Int)<(k:Int))=true:=by simp;omega
    have n:decide (1048576<k)=true:=decide_eq_true B;rw [n,Bool.or_true];clear n B
    go_enter Tryz.func130,Tryz.ntmps130
    go_wp2_with fail
    refine z.o.mono ?_
    rintro e w1 ⟨rfl,g⟩
    have D:=fun o=>(H.o.below' g o).1
    have j:=Kz (fin g);clear g fin
    go_wp2_with fail
    refine (Zb5 _ (j.o _).o.1 130).mono ?_
    rintro e w2 ⟨⟨v,rfl⟩,l,m⟩
    have p:=Kz ((j.o _).o.2.trans m);have r:=Kz l;clear l m j
    go_wp2
    go_ret;exact ⟨rfl,r.o,p.o⟩
   ·have q:decide ((1048576:Int)<(k:Int))=false:=by simp;omega
    have n:decide (1048576<k)=false:=decide_eq_false B;rw [n];have T:k≤1048576:=by omega
    clear n B
    go_enter Tryz.func130,Tryz.ntmps130
    go_wp2_with fail
    refine z.o.mono ?_
    rintro e w1 ⟨rfl,g⟩
    have D:=fun o=>(H.o.below' g o).1
    have V:=fun o=>(H.o.below' g o).2
    have j:=Kz (fin g);have W:=fun o=>(fin g o).o.1.free 1
    have Y:=H.o.lt;have Z:=g.size;have d2:∀ (a b c d v:Value),((w1.alloc (.cells #[a,b,c,d] 155)).setCell ⟨P,1,none⟩ v).cell? ⟨w1.heap.size,2,none⟩=some c:=fun a b c d v=>ZeC (by omega) (Kaa 2 (Kac w1 _))
    clear g fin
    go_wp2
    go_ret;obtain ⟨a,b⟩:=(j.o _).o.1.adv N.o;exact ⟨rfl,a.pm,(j.o _).o.2.trans b⟩
  ·have q:((kd:Int) != 2)=true:=by rw [bne_iff_ne];omega
   have n:(kd != 2)=true:=by rw [bne_iff_ne];exact E
   rw [n,Bool.or_true,Bool.true_or];clear E n C
   go_enter Tryz.func130,Tryz.ntmps130
   go_wp2_with fail
   refine z.o.mono ?_
   rintro e w1 ⟨rfl,g⟩
   have D:=fun o=>(H.o.below' g o).1
   have j:=Kz (fin g);clear g fin
   go_wp2_with fail
   refine (Zb5 _ (j.o _).o.1 130).mono ?_
   rintro e w2 ⟨⟨v,rfl⟩,l,m⟩
   have p:=Kz ((j.o _).o.2.trans m);have r:=Kz l;clear l m j
   go_wp2
   go_ret;exact ⟨rfl,r.o,p.o⟩
end
end Go.Proofs.YtghlnncfigkkaaaGreatDoor
