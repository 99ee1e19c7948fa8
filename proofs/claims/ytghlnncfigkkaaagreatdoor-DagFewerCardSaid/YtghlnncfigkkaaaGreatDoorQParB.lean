/-
 Walks of the parser's small functions: fail, is, take, want, name, number, sink.
-/
import Derived.Test.YtghlnncfigkkaaaGreatDoorQParA
set_option maxRecDepth 100000
set_option maxHeartbeats 2000000
open Go.Lib (hid)
namespace Go.Proofs.YtghlnncfigkkaaaGreatDoor
set_option linter.unusedVariables false
set_option linter.unusedSimpArgs false
open Go.RowKit
section
variable {X:Nat→Prop} {base P tc:Nat} {TA:Option Addr} {L:List Tok} {s:PS} {SA EA:Option Addr} {sc ec:Nat} {ev:Value}
theorem ZaO (a c d:Int) (b:ByteArray) (w:World):(Instr.field 155 (.agg #[.int .i64 a,.string b,.int .u64 c,.int .i64 d]) 3).run Tryz.prog w=.ok (.int .i64 d) w:=by kernel_rfl
theorem ZaP (a c d:Int) (b:ByteArray) (w:World):(Instr.field 155 (.agg #[.int .i64 a,.string b,.int .u64 c,.int .i64 d]) 0).run Tryz.prog w=.ok (.int .i64 a) w:=by kernel_rfl
attribute [local go_sem ↓] ZaO ZaP
theorem ZfQ (w:World) (h:PR X base P TA tc L s w SA sc EA ec ev) {kd nm ps:Nat} {tx:ByteArray} (ht:nowP L s=⟨kd,tx,nm,ps⟩):
  Calls Tryz.prog 83 #[PP P] w fun e w'=>e=.returned (.agg #[.int .i64 kd,.string tx,.int .u64 nm,.int .i64 ps])∧Below w.heap.size w w':=by
 have:=ZmH w h
 rw [ht] at this
 exact this
theorem PR.below' {w:World} (h:PR X base P TA tc L s w SA sc EA ec ev) {w':World} (hb:Below w.heap.size w w') (o:Obj):(w'.alloc o).cell? ⟨P,5,none⟩=some ev∧(w'.alloc o).cell? ⟨P,1,none⟩=some (.int .i64 s.i):=
 ⟨((h.below hb).below ((Kai _ _).alloc (Kag _) o)).c5,((h.below hb).below ((Kai _ _).alloc (Kag _) o)).c1⟩
theorem Za3 {w w':World} (hb:Below w.heap.size w w') (o:Obj):Below w.heap.size w (w'.alloc o):=hb.alloc hb.size o
theorem ZlM (w:World) (h:PR X base P TA tc L s w SA sc EA ec ev) (t:ByteArray):
  Calls Tryz.prog 173 #[PP P,.string t] w fun e w'=>e=.returned (.bool (isP L s t))∧Below w.heap.size w w':=by
 obtain ⟨kd,tx,nm,ps,hnow⟩:∃ kd tx nm ps,nowP L s=⟨kd,tx,nm,ps⟩:=⟨_,_,_,_,rfl⟩
 have HN:=hid (ZfQ w h hnow)
 have H:=hid h
 have hval:isP L s t=(s.err.isNone&&(kd==3||kd==4)&&(tx.toList==t.toList)):=by unfold isP;rw [hnow]
 rw [hval]
 clear hnow hval
 cases herr:s.err with
 | some c=>
  obtain ⟨te,xe,rfl⟩:=h.anErr (by rw [herr];simp)
  clear h herr
  go_enter Tryz.func173,Tryz.ntmps173
  go_wp2_with fail
  refine HN.out.mono ?_
  rintro e w1 ⟨rfl,b1⟩
  have d5:=fun o=>(H.out.below' b1 o).1
  have HB:=hid (fun o=>Za3 b1 o)
  clear b1
  go_wp2
  go_ret
  exact ⟨rfl,HB.out _⟩
 | none=>
  obtain rfl:=h.noErr herr
  clear h herr
  have e1:((kd:Int)==3)=(kd==3):=by rw [Bool.eq_iff_iff,beq_iff_eq,beq_iff_eq];omega
  have e2:((kd:Int)==4)=(kd==4):=by rw [Bool.eq_iff_iff,beq_iff_eq,beq_iff_eq];omega
  cases q1:(kd==3) with
  | true=>
   rw [q1] at e1
   cases q3:(tx.toList==t.toList) with
   | true=>
    go_enter Tryz.func173,Tryz.ntmps173
    go_wp2_with fail
    refine HN.out.mono ?_
    rintro e w1 ⟨rfl,b1⟩
    have d5:=fun o=>(H.out.below' b1 o).1
    have HB:=hid (fun o=>Za3 b1 o)
    clear b1
    go_wp2
    go_ret
    exact ⟨rfl,HB.out _⟩
   | false=>
    go_enter Tryz.func173,Tryz.ntmps173
    go_wp2_with fail
    refine HN.out.mono ?_
    rintro e w1 ⟨rfl,b1⟩
    have d5:=fun o=>(H.out.below' b1 o).1
    have HB:=hid (fun o=>Za3 b1 o)
    clear b1
    go_wp2
    go_ret
    exact ⟨rfl,HB.out _⟩
  | false=>
   rw [q1] at e1
   cases q2:(kd==4) with
   | true=>
    rw [q2] at e2
    cases q3:(tx.toList==t.toList) with
    | true=>
     go_enter Tryz.func173,Tryz.ntmps173
     go_wp2_with fail
     refine HN.out.mono ?_
     rintro e w1 ⟨rfl,b1⟩
     have d5:=fun o=>(H.out.below' b1 o).1
     have HB:=hid (fun o=>Za3 b1 o)
     clear b1
     go_wp2
     go_ret
     exact ⟨rfl,HB.out _⟩
    | false=>
     go_enter Tryz.func173,Tryz.ntmps173
     go_wp2_with fail
     refine HN.out.mono ?_
     rintro e w1 ⟨rfl,b1⟩
     have d5:=fun o=>(H.out.below' b1 o).1
     have HB:=hid (fun o=>Za3 b1 o)
     clear b1
     go_wp2
     go_ret
     exact ⟨rfl,HB.out _⟩
   | false=>
    rw [q2] at e2
    go_enter Tryz.func173,Tryz.ntmps173
    go_wp2_with fail
    refine HN.out.mono ?_
    rintro e w1 ⟨rfl,b1⟩
    have d5:=fun o=>(H.out.below' b1 o).1
    have HB:=hid (fun o=>Za3 b1 o)
    clear b1
    go_wp2
    go_ret
    exact ⟨rfl,HB.out _⟩
theorem ZeC {w:World} {g P k j:Nat} {v u:Value} (h:g≠P) (hc:w.cell? ⟨g,j,none⟩=some u):(w.setCell ⟨P,k,none⟩ v).cell? ⟨g,j,none⟩=some u:=
 (World.cell?_of_block (a:=⟨g,j,none⟩) (Zap w ⟨P,k,none⟩ v h)).trans hc
theorem PR.pm {w:World} (h:PR X base P TA tc L s w SA sc EA ec ev):PM X base P TA tc L s w:=⟨SA,sc,EA,ec,ev,h⟩
theorem Zb5 (w:World) (h:PR X base P TA tc L s w SA sc EA ec ev) (c:Nat):
  Calls Tryz.prog 128 #[PP P,.int .i64 c] w fun e w'=>(∃ v,e=.returned v)∧PM X base P TA tc L (failP L s c) w'∧KT base w w':=by
 obtain ⟨kd,tx,nm,ps,hnow⟩:∃ kd tx nm ps,nowP L s=⟨kd,tx,nm,ps⟩:=⟨_,_,_,_,rfl⟩
 have HN:=hid (ZfQ w h hnow)
 have HNOW:=hid hnow
 have H:=hid h
 have c5:=h.c5
 clear hnow
 cases herr:s.err with
 | some x=>
  obtain ⟨te,xe,rfl⟩:=h.anErr (by rw [herr];simp)
  have HF:=hid (show failP L s c=s from by unfold failP;rw [herr])
  clear h herr
  go_enter Tryz.func128,Tryz.ntmps128
  go_wp2
  go_end0
  exact ⟨⟨_,rfl⟩,by rw [HF.out];exact H.out.pm,KT.refl _ _⟩
 | none=>
  obtain rfl:=h.noErr herr
  have HF:=hid (show failP L s c={ s with err:=some (c,ps) } from by unfold failP;rw [herr,HNOW.out])
  clear h herr
  go_enter Tryz.func128,Tryz.ntmps128
  go_wp2_with fail
  refine HN.out.mono ?_
  rintro e w1 ⟨rfl,b1⟩
  have H1:=hid (H.out.below b1)
  have K1:=hid (KT.below (base:=base) b1)
  clear b1
  go_wp2_with fail
  refine (ZdE c parN ps w1 H1.out.ety).mono ?_
  rintro e w2 ⟨v,rfl,he,hb⟩
  obtain ⟨te,xe,rfl⟩:=he.iface
  have H2:=hid (H1.out.below hb)
  have K2:=hid (K1.out.trans (KT.below hb))
  have HE:=hid he
  have c5':=H2.out.c5
  have y5:=H2.out.free 5
  clear he hb
  go_wp2
  go_end0
  obtain ⟨a,b⟩:=H2.out.fault c ps _ HE.out
  exact ⟨⟨_,rfl⟩,by rw [HF.out];exact a.pm,K2.out.trans b⟩
theorem Zfe (w:World) (h:PR X base P TA tc L s w SA sc EA ec ev) (t:ByteArray):
  Calls Tryz.prog 129 #[PP P,.string t] w fun e w'=>e=.returned (.bool (isP L s t))∧PM X base P TA tc L (if isP L s t=true then advP s else s) w'∧KT base w w':=by
 have HI:=hid (ZlM w h t)
 have H:=hid h
 have hl:=h.len
 have hi:=h.ii
 clear h
 cases hq:isP L s t with
 | false=>
  rw [hq] at HI
  go_enter Tryz.func129,Tryz.ntmps129
  go_wp2_with fail
  refine HI.out.mono ?_
  rintro e w1 ⟨rfl,b1⟩
  have H1:=hid (H.out.below b1)
  have K1:=hid (KT.below (base:=base) b1)
  clear b1
  go_wp2
  go_ret
  exact ⟨rfl,H1.out.pm,K1.out⟩
 | true=>
  rw [hq] at HI
  have HLT:=hid (ZaD hq)
  go_enter Tryz.func129,Tryz.ntmps129
  go_wp2_with fail
  refine HI.out.mono ?_
  rintro e w1 ⟨rfl,b1⟩
  have H1:=hid (H.out.below b1)
  have K1:=hid (KT.below (base:=base) b1)
  have c1:=H1.out.c1
  have y1:=H1.out.free 1
  clear b1
  go_wp2
  go_ret
  obtain ⟨a,b⟩:=H1.out.adv HLT.out
  exact ⟨rfl,a.pm,K1.out.trans b⟩
theorem PM.eq {w:World} {s s':PS} (h:PM X base P TA tc L s w) (e:s=s'):PM X base P TA tc L s' w:=e ▸ h
theorem Zll (w:World) (h:PR X base P TA tc L s w SA sc EA ec ev) (t:ByteArray):
  Calls Tryz.prog 133 #[PP P,.string t] w fun e w'=>(∃ v,e=.returned v)∧PM X base P TA tc L (wantP L s t) w'∧KT base w w':=by
 have HI:=hid (Zfe w h t)
 clear h
 cases hq:isP L s t with
 | false=>
  rw [hq] at HI
  have HW:=hid (show wantP L s t=failP L s 130 from by unfold wantP;rw [hq];rfl)
  go_enter Tryz.func133,Tryz.ntmps133
  go_wp2_with fail
  refine HI.out.mono ?_
  rintro e w1 ⟨rfl,⟨SA1,sc1,EA1,ec1,ev1,h1⟩,k1⟩
  have K1:=hid k1
  have HF:=hid (Zb5 w1 h1 130)
  clear h1 k1
  go_wp2_with fail
  refine HF.out.mono ?_
  rintro e w2 ⟨⟨v,rfl⟩,h2,k2⟩
  have K2:=hid (K1.out.trans k2)
  have H2:=hid h2
  clear h2 k2
  go_wp2
  go_end0
  exact ⟨⟨_,rfl⟩,H2.out.eq HW.out.symm,K2.out⟩
 | true=>
  rw [hq] at HI
  have HW:=hid (show wantP L s t=advP s from by unfold wantP;rw [hq];rfl)
  go_enter Tryz.func133,Tryz.ntmps133
  go_wp2_with fail
  refine HI.out.mono ?_
  rintro e w1 ⟨rfl,h1,k1⟩
  have K1:=hid k1
  have H1:=hid h1
  clear h1 k1
  go_wp2
  go_end0
  exact ⟨⟨_,rfl⟩,H1.out.eq HW.out.symm,K1.out⟩
theorem Zlm (w:World) (h:PR X base P TA tc L s w SA sc EA ec ev):
  Calls Tryz.prog 216 #[PP P] w fun e w'=>e=.returned (.bool (sinkP L s).2)∧PM X base P TA tc L (sinkP L s).1 w'∧KT base w w':=by
 have c4:=h.c4
 have y4:=h.free 4
 have hd:=h.dd
 have H:=hid h
 clear h
 by_cases h32:s.deep=32
 ·have q:((s.deep:Int)==32)=true:=by rw [beq_iff_eq];omega
  have HS:=hid (show sinkP L s=(failP L s 5,false) from by unfold sinkP;rw [if_pos h32])
  have HF:=hid (Zb5 w H.out 5)
  clear h32
  go_enter Tryz.func216,Tryz.ntmps216
  go_wp2_with fail
  refine HF.out.mono ?_
  rintro e w2 ⟨⟨v,rfl⟩,h2,k2⟩
  have K2:=hid k2
  have H2:=hid h2
  clear h2 k2
  go_wp2
  go_ret
  exact ⟨by rw [HS.out];rfl,by rw [HS.out];exact H2.out,K2.out⟩
 ·have q:((s.deep:Int)==32)=false:=by rw [Kaj];omega
  have HS:=hid (show sinkP L s=({ s with deep:=s.deep+1 },true) from by unfold sinkP;rw [if_neg h32])
  have hd':s.deep≤31:=by omega
  clear h32
  go_enter Tryz.func216,Tryz.ntmps216
  go_wp2
  go_ret
  obtain ⟨a,b⟩:=H.out.deepen (s.deep+1) (by omega)
  exact ⟨by rw [HS.out];rfl,by rw [HS.out];exact a.pm,b⟩
theorem Zln (w:World) (h:PR X base P TA tc L s w SA sc EA ec ev):
  Calls Tryz.prog 131 #[PP P] w fun e w'=>e=.returned (.string (nameP L s).2)∧PM X base P TA tc L (nameP L s).1 w'∧KT base w w':=by
 obtain ⟨kd,tx,nm,ps,hnow⟩:∃ kd tx nm ps,nowP L s=⟨kd,tx,nm,ps⟩:=⟨_,_,_,_,rfl⟩
 have HN:=hid (ZfQ w h hnow)
 have H:=hid h
 have hl:=h.len
 have hi:=h.ii
 have hval:nameP L s=if s.err.isSome||kd != 1 then (failP L s 130,noB) else (advP s,tx):=by unfold nameP;rw [hnow]
 rw [hval]
 have hk:kd≠0→s.i<L.length:=fun hh=>ZbX (by rw [hnow];exact hh)
 clear hnow hval
 have fin:∀ {w1:World},Below w.heap.size w w1→∀ o,Hid (PR X base P TA tc L s (w1.alloc o) SA sc EA ec ev∧KT base w (w1.alloc o)):=fun b1 o=>⟨H.out.below (Za3 b1 o),KT.below (Za3 b1 o)⟩
 cases herr:s.err with
 | some x=>
  obtain ⟨te,xe,rfl⟩:=h.anErr (by rw [herr];simp)
  clear h herr
  go_enter Tryz.func131,Tryz.ntmps131
  go_wp2_with fail
  refine HN.out.mono ?_
  rintro e w1 ⟨rfl,b1⟩
  have d5:=fun o=>(H.out.below' b1 o).1
  have HB:=hid (fin b1)
  clear b1 fin
  go_wp2_with fail
  refine (Zb5 _ (HB.out _).out.1 130).mono ?_
  rintro e w2 ⟨⟨v,rfl⟩,h2,k2⟩
  have K2:=hid ((HB.out _).out.2.trans k2)
  have H2:=hid h2
  clear h2 k2 HB
  go_wp2
  go_ret
  exact ⟨rfl,H2.out,K2.out⟩
 | none=>
  obtain rfl:=h.noErr herr
  clear h herr
  by_cases h1:kd=1
  ·subst h1
   have HLT:=hid (hk (by omega))
   clear hk
   go_enter Tryz.func131,Tryz.ntmps131
   go_wp2_with fail
   refine HN.out.mono ?_
   rintro e w1 ⟨rfl,b1⟩
   have d5:=fun o=>(H.out.below' b1 o).1
   have d1:=fun o=>(H.out.below' b1 o).2
   have HB:=hid (fin b1)
   have y1:=fun o=>(fin b1 o).out.1.free 1
   have hlt:=H.out.lt
   have hsz:=b1.size
   have d2:∀ (a b c d v:Value),((w1.alloc (.cells #[a,b,c,d] 155)).setCell ⟨P,1,none⟩ v).cell? ⟨w1.heap.size,1,none⟩=some b:=fun a b c d v=>ZeC (by omega) (Kaa _ _ 1 _ _ _ (Kac w1 _))
   clear b1 fin
   go_wp2
   go_ret
   obtain ⟨a,b⟩:=(HB.out _).out.1.adv HLT.out
   exact ⟨rfl,a.pm,(HB.out _).out.2.trans b⟩
  ·have q:((kd:Int) != 1)=true:=by rw [bne_iff_ne];omega
   have q':(kd != 1)=true:=by rw [bne_iff_ne];exact h1
   rw [q']
   clear h1 q' hk
   go_enter Tryz.func131,Tryz.ntmps131
   go_wp2_with fail
   refine HN.out.mono ?_
   rintro e w1 ⟨rfl,b1⟩
   have d5:=fun o=>(H.out.below' b1 o).1
   have HB:=hid (fin b1)
   clear b1 fin
   go_wp2_with fail
   refine (Zb5 _ (HB.out _).out.1 130).mono ?_
   rintro e w2 ⟨⟨v,rfl⟩,h2,k2⟩
   have K2:=hid ((HB.out _).out.2.trans k2)
   have H2:=hid h2
   clear h2 k2 HB
   go_wp2
   go_ret
   exact ⟨rfl,H2.out,K2.out⟩
theorem Zg5 (w:World) (h:PR X base P TA tc L s w SA sc EA ec ev):
  Calls Tryz.prog 130 #[PP P] w fun e w'=>e=.returned (.int .i64 ((Zaw L s).2:Nat))∧PM X base P TA tc L (Zaw L s).1 w'∧KT base w w':=by
 obtain ⟨kd,tx,nm,ps,hnow⟩:∃ kd tx nm ps,nowP L s=⟨kd,tx,nm,ps⟩:=⟨_,_,_,_,rfl⟩
 have HN:=hid (ZfQ w h hnow)
 have H:=hid h
 have hl:=h.len
 have hi:=h.ii
 have hval:Zaw L s=if s.err.isSome||kd != 2||decide (1048576<nm) then (failP L s 130,0) else (advP s,nm):=by unfold Zaw;rw [hnow]
 rw [hval]
 have hk:kd≠0→s.i<L.length:=fun hh=>ZbX (by rw [hnow];exact hh)
 clear hnow hval
 have fin:∀ {w1:World},Below w.heap.size w w1→∀ o,Hid (PR X base P TA tc L s (w1.alloc o) SA sc EA ec ev∧KT base w (w1.alloc o)):=fun b1 o=>⟨H.out.below (Za3 b1 o),KT.below (Za3 b1 o)⟩
 cases herr:s.err with
 | some x=>
  obtain ⟨te,xe,rfl⟩:=h.anErr (by rw [herr];simp)
  clear h herr
  go_enter Tryz.func130,Tryz.ntmps130
  go_wp2_with fail
  refine HN.out.mono ?_
  rintro e w1 ⟨rfl,b1⟩
  have d5:=fun o=>(H.out.below' b1 o).1
  have HB:=hid (fin b1)
  clear b1 fin
  go_wp2_with fail
  refine (Zb5 _ (HB.out _).out.1 130).mono ?_
  rintro e w2 ⟨⟨v,rfl⟩,h2,k2⟩
  have K2:=hid ((HB.out _).out.2.trans k2)
  have H2:=hid h2
  clear h2 k2 HB
  go_wp2
  go_ret
  exact ⟨rfl,H2.out,K2.out⟩
 | none=>
  obtain rfl:=h.noErr herr
  clear h herr
  by_cases h1:kd=2
  ·subst h1
   have HLT:=hid (hk (by omega))
   clear hk
   by_cases hbig:1048576<nm
   ·have q:decide ((1048576:Int)<(nm:Int))=true:=by simp;omega
    have q':decide (1048576<nm)=true:=decide_eq_true hbig
    rw [q',Bool.or_true]
    clear q' hbig
    go_enter Tryz.func130,Tryz.ntmps130
    go_wp2_with fail
    refine HN.out.mono ?_
    rintro e w1 ⟨rfl,b1⟩
    have d5:=fun o=>(H.out.below' b1 o).1
    have HB:=hid (fin b1)
    clear b1 fin
    go_wp2_with fail
    refine (Zb5 _ (HB.out _).out.1 130).mono ?_
    rintro e w2 ⟨⟨v,rfl⟩,h2,k2⟩
    have K2:=hid ((HB.out _).out.2.trans k2)
    have H2:=hid h2
    clear h2 k2 HB
    go_wp2
    go_ret
    exact ⟨rfl,H2.out,K2.out⟩
   ·have q:decide ((1048576:Int)<(nm:Int))=false:=by simp;omega
    have q':decide (1048576<nm)=false:=decide_eq_false hbig
    rw [q']
    have hnm:nm≤1048576:=by omega
    clear q' hbig
    go_enter Tryz.func130,Tryz.ntmps130
    go_wp2_with fail
    refine HN.out.mono ?_
    rintro e w1 ⟨rfl,b1⟩
    have d5:=fun o=>(H.out.below' b1 o).1
    have d1:=fun o=>(H.out.below' b1 o).2
    have HB:=hid (fin b1)
    have y1:=fun o=>(fin b1 o).out.1.free 1
    have hlt:=H.out.lt
    have hsz:=b1.size
    have d2:∀ (a b c d v:Value),((w1.alloc (.cells #[a,b,c,d] 155)).setCell ⟨P,1,none⟩ v).cell? ⟨w1.heap.size,2,none⟩=some c:=fun a b c d v=>ZeC (by omega) (Kaa _ _ 2 _ _ _ (Kac w1 _))
    clear b1 fin
    go_wp2
    go_ret
    obtain ⟨a,b⟩:=(HB.out _).out.1.adv HLT.out
    exact ⟨rfl,a.pm,(HB.out _).out.2.trans b⟩
  ·have q:((kd:Int) != 2)=true:=by rw [bne_iff_ne];omega
   have q':(kd != 2)=true:=by rw [bne_iff_ne];exact h1
   rw [q',Bool.or_true,Bool.true_or]
   clear h1 q' hk
   go_enter Tryz.func130,Tryz.ntmps130
   go_wp2_with fail
   refine HN.out.mono ?_
   rintro e w1 ⟨rfl,b1⟩
   have d5:=fun o=>(H.out.below' b1 o).1
   have HB:=hid (fin b1)
   clear b1 fin
   go_wp2_with fail
   refine (Zb5 _ (HB.out _).out.1 130).mono ?_
   rintro e w2 ⟨⟨v,rfl⟩,h2,k2⟩
   have K2:=hid ((HB.out _).out.2.trans k2)
   have H2:=hid h2
   clear h2 k2 HB
   go_wp2
   go_ret
   exact ⟨rfl,H2.out,K2.out⟩
end
end Go.Proofs.YtghlnncfigkkaaaGreatDoor
