/-
 Walk of eval.Eval.
-/
import Derived.Test.YtghlnncfigkkaaaGreatDoorQEvS
import Derived.Test.YtghlnncfigkkaaaGreatDoorQEvB
import Derived.Test.YtghlnncfigkkaaaGreatDoorQEvY
import Derived.Test.YtghlnncfigkkaaaGreatDoorQChkI
import Derived.Deep.DeepCutAuto
set_option maxRecDepth 100000
set_option maxHeartbeats 8000000
set_option linter.unusedVariables false
set_option linter.unusedSimpArgs false
namespace Go.Proofs.YtghlnncfigkkaaaGreatDoor
open Go.RowKit
def evalN:ByteArray:=⟨#[101,118,97,108]⟩
def ZiF (w:World) (r:Sum (List TN) (Nat × Int × Bool)) (e:Ending) (w':World):Prop:=
 Below w.heap.size w w' ∧
 match r with
 | .inl outs=>∃ A c,e=.returned (.tuple #[.slice A outs.length c,.nilIface])∧OutT w' w.heap.size A outs.length c outs
 | .inr (c,p,b)=>∃ v,e=.returned (.tuple #[.slice none 0 0,v])∧IsErr w' v [(if b then evalN else chkN,p)] c
theorem Zh7 (A a:Option Addr) (n b c d:Nat) (w:World):(Instr.index 63 (.agg #[.slice A n c,.slice a b d]) (.int .i64 0)).run Tryz.prog w=.ok (.slice A n c) w:=by kernel_rfl
theorem Zh8 (A a:Option Addr) (n b c d:Nat) (w:World):(Instr.index 63 (.agg #[.slice A n c,.slice a b d]) (.int .i64 1)).run Tryz.prog w=.ok (.slice a b d) w:=by kernel_rfl
theorem InRow.rd {w:World} {B:Nat} {A:Option Addr} {n c:Nat} {l:List (List Int)} (h:InRow w B A n c l) (g:∀ s∈l,s.length≤1000000):RdSh w A l∧n=l.length:=by
 obtain ⟨i,z,k,d,m⟩:=h;refine ⟨?_,by omega⟩
 rcases k.rd with h | ⟨b,o,p,q,r⟩
 ·left;rw [h] at d;exact List.eq_nil_of_length_eq_zero d.symm
 ·refine .inr ⟨b,o,p,q,fun j x a => ?_⟩
  have f:j<i.length:=by have:=(Kaf.1 a).1;omega
  obtain ⟨t,v,e,y⟩:=m j _ x (Kad f) a;refine ⟨t,v,?_,y.rd,g x (Kam a)⟩;rw [r j _ (Kad f),e]
theorem ZbR (ss:List SI) (p:Int):(Zae ss p).length≤ss.length:=by
 unfold Zae;rw [Kak];exact List.length_filter_le _ _
theorem Zcq {ss:List SI} {p:Int} {x:List Int} (h:x∈Zae ss p):∃ s∈ss,x=s.shape:=by
 unfold Zae at h;obtain ⟨s,a,rfl⟩:=List.mem_map.1 h;exact ⟨s,(List.mem_filter.1 a).1,rfl⟩
attribute [local go_sem] Zh7 Zh8
theorem Zf6 (T P:Option Addr) (B d V ec:Nat) (ss:List SI) (es:List EI) (I0 I1:Option Addr) (m0 Q k0 L:Nat) (in0 in1:List TN) (w:World) (r3:B=ss.length) (r5:d=es.length) (a4:B≤100000) (n3:d≤100000)
  (h1:RdSI w w.heap.size T ss) (h3:RdEI w w.heap.size P es) (b1:ETyped w) (z5:∀ e∈es,e.num≤18446744073709551615) (z6:∀ s∈ss,s.shape.length≤1000000)
  (z7:m0=in0.length) (z8:Q=in1.length) (I2:m0≤1000000) (I3:Q≤1000000) (z9:RdTN w w.heap.size I0 in0) (A3:RdTN w w.heap.size I1 in1):
  Calls Tryz.prog 23 #[.agg #[.slice T B V,.slice P d ec],.agg #[.slice I0 m0 k0,.slice I1 Q L]] w (ZiF w (evalE ss es in0 in1)):=by
 obtain ⟨w2,j6⟩:=Ky ((w.alloc (.cells #[.slice T B V,.slice P d ec] 26)).alloc (.cells #[.slice I0 m0 k0,.slice I1 Q L] 45));have j7:Below w.heap.size w w2:=by rw [j6];exact ((Kai _ _).alloc (Kag _) _).alloc (by simp) _
 have j8:w2.heap[w.heap.size]?=some (.cells #[.slice T B V,.slice P d ec] 26 (0,0)):=by
  rw [j6,Below.heap_alloc _ _ _ (by simp)];exact Kac w _
 have n4:w2.heap[w.heap.size+1]?=some (.cells #[.slice I0 m0 k0,.slice I1 Q L] 45 (0,0)):=by
  rw [j6];have:=Kac (w.alloc (.cells #[.slice T B V,.slice P d ec] 26)) (.cells #[.slice I0 m0 k0,.slice I1 Q L] 45);rwa [World.size_alloc] at this
 have I4:=Kz b1.lt;have A4:=Kz j6;have A5:=Kz j7;have h9:=Kz r3;have r6:=Kz r5;have H1:=Kz h1;have H3:=Kz h3;have I5:=Kz b1;have I6:=Kz z5;have r7:=Kz z6;have A6:=Kz z7;have A7:=Kz z8;have A9:=Kz z9;have B0:=Kz A3;have j9:=Kz (Zi3 T P B d V ec ss es w2 r3 r5 a4 n3 (h1.next j7) (h3.next j7) (b1.next j7));have r8:=Kz (fun W (C:Below w2.heap.size w2 W)=>(C.block _ (Kab.1 j8).1).trans j8)
 have s0:=Kz (fun W (C:Below w2.heap.size w2 W)=>(C.block _ (Kab.1 n4).1).trans n4)
 have z0:=Kaa 0 j8;have z1:=Kaa 1 j8;have B3:=Kz (Kab.1 n4).1;clear j6 j7 j8 n4 r3 r5 h1 h3 b1 z5 z6 z7 z8 z9 A3
 cases hcc:ZaA ss es with
 | inr r=>
  obtain ⟨B4,B5⟩:=r;rw [hcc] at j9;have g5:=Kz (show evalE ss es in0 in1=.inr (B4,B5,false) from by unfold evalE;rw [hcc])
  clear hcc
  go_enter Tryz.func23,Tryz.ntmps23
  go_wp2_with fail
  rw [←A4.o]
  go_wp2_with (go_at_call 51;refine j9.o.mono ?_;rintro e w3 ⟨i0,n6,rfl,f5⟩;obtain ⟨n7,n9,rfl,f5⟩:=(show ∃ n7 n9,n6=.iface n7 n9∧IsErr w3 n6 [(chkN,B5)] B4 from by obtain ⟨n7,n9,h⟩:=f5.iface;exact ⟨n7,n9,h,f5⟩))
  go_ret2;refine ⟨bnext A5.o i0,?_⟩;rw [g5.o];exact ⟨_,rfl,f5⟩
 | inl shF=>
  rw [hcc] at j9;have k1:=Kz hcc;have k3:=Kz (show evalE ss es in0 in1=if fitT (Zae ss 0) in0=false then .inr (201,0,true) else if fitT (Zae ss 1) in1=false then .inr (201,1,true) else .inl (ZaJ es shF in0 in1 ss [] (fun _=>zTN) 0 0 []) from by unfold evalE;rw [hcc])
  clear hcc
  go_enter Tryz.func23,Tryz.ntmps23
  go_wp2_with fail
  rw [←A4.o];refine j9.o.mono ?_
  rintro e w3 ⟨i0,q,rfl,B7⟩
  have I7:=Kz i0;have s5:=Kz (bnext A5.o i0);have B8:=Kz B7;have a3:=r8.o _ i0;have y0:=Kaa 0 a3;have y1:=Kaa 1 a3;have B9:=Kz (Zep T P B d V ec ss w3 h9.o a4 ((H1.o.below s5.o).more s5.o.size) r7.o);clear z0 z1 i0 B7 a3
  go_wp2_with (go_at_call 32;refine B9.o.mono ?_;rintro e w4 ⟨C0,A0,n0,c0,A1,n1,c1,rfl,C1,C2⟩;have Y:=Kz C0;have o0:=Kz (C1.rd (fun x y=>by obtain ⟨s6,s7,rfl⟩:=Zcq y;exact r7.o s6 s7));have o1:=Kz (C2.rd (fun x y=>by obtain ⟨s6,s7,rfl⟩:=Zcq y;exact r7.o s6 s7));clear C0 C1 C2)
  have I8:=Kz (bnext s5.o Y.o);have k4:=Kz (bnext I7.o Y.o);clear y0 y1
  go_loopw [26] (fun c7 wr=>Below w4.heap.size w4 wr∧(c7=.int .i64 0∨(c7=.int .i64 1∧fitT (Zae ss 0) in0=true)∨(c7=.int .i64 2∧fitT (Zae ss 0) in0=true∧fitT (Zae ss 1) in1=true))) (fun c7 _=>2-(intOf c7).toNat)
  case atStart=>exact ⟨Kai _ _,.inl rfl⟩
  case round=>
   obtain ⟨z,I9⟩:=hrel;have b2:=Kz z;have i5:=s0.o _ (bnext k4.o z);have y0:=Kaa 0 i5;have y1:=Kaa 1 i5;have a7:=Kz (bnext I8.o z);have s8:=Kz (I5.o.far I4.o a7.o);clear z i5;rcases I9 with rfl | ⟨rfl,i1⟩ | ⟨rfl,i1,s9⟩
   ·have d0:=Kz (ZdP A0 I0 n0 m0 c0 k0 (Zae ss 0) in0 wr o0.o.2 A6.o (by have:=ZbR ss 0;have:=o0.o.2;have:=h9.o;omega) I2 (o0.o.1.next b2.o) ((A9.o.below a7.o).more a7.o.size))
    cases hf:fitT (Zae ss 0) in0 with
    | true=>
     rw [hf] at d0;have t3:=Kz hf;clear hf
     go_wp2_with (go_at_call 52;refine d0.o.mono ?_;rintro e w6 ⟨rfl,b6⟩;have B6:=Kz b6;clear b6)
     exact ⟨⟨bnext b2.o B6.o,.inr (.inl ⟨rfl,(by first | trivial | exact t3.o)⟩)⟩,by simp [intOf]⟩
    | false=>
     rw [hf] at d0;have g5:=Kz (show evalE ss es in0 in1=.inr (201,0,true) from by rw [k3.o,if_pos hf])
     have k5:=Kz (fun W (C:Below wr.heap.size wr W)=>ZdE 201 evalN 0 W (s8.o.next C))
     unfold evalN at k5;clear hf
     go_wp2_with (first
      | (go_at_call 52;refine d0.o.mono ?_;rintro e w6 ⟨rfl,b6⟩;have B6:=Kz b6;clear b6)
      | (go_at_call 53;refine (k5.o _ B6.o).mono ?_;rintro e t4 ⟨n6,rfl,f5,b7⟩))
     go_ret2;refine ⟨bnext (bnext a7.o B6.o) b7,?_⟩;rw [g5.o];exact ⟨_,rfl,f5⟩
   ·have d0:=Kz (ZdP A1 I1 n1 Q c1 L (Zae ss 1) in1 wr o1.o.2 A7.o (by have:=ZbR ss 1;have:=o1.o.2;have:=h9.o;omega) I3 (o1.o.1.next b2.o) ((B0.o.below a7.o).more a7.o.size))
    have k6:=Kz i1;clear i1
    cases hf:fitT (Zae ss 1) in1 with
    | true=>
     rw [hf] at d0;have t3:=Kz hf;clear hf
     go_wp2_with (go_at_call 52;refine d0.o.mono ?_;rintro e w6 ⟨rfl,b6⟩;have B6:=Kz b6;clear b6)
     exact ⟨⟨bnext b2.o B6.o,.inr (.inr ⟨rfl,k6.o,(by first | trivial | exact t3.o)⟩)⟩,by simp [intOf]⟩
    | false=>
     rw [hf] at d0;have g5:=Kz (show evalE ss es in0 in1=.inr (201,1,true) from by rw [k3.o,if_neg (by rw [k6.o];decide),if_pos hf])
     have k5:=Kz (fun W (C:Below wr.heap.size wr W)=>ZdE 201 evalN 1 W (s8.o.next C))
     unfold evalN at k5;clear hf
     go_wp2_with (first
      | (go_at_call 52;refine d0.o.mono ?_;rintro e w6 ⟨rfl,b6⟩;have B6:=Kz b6;clear b6)
      | (go_at_call 53;refine (k5.o _ B6.o).mono ?_;rintro e t4 ⟨n6,rfl,f5,b7⟩))
     go_ret2;refine ⟨bnext (bnext a7.o B6.o) b7,?_⟩;rw [g5.o];exact ⟨_,rfl,f5⟩
   ·have k6:=Kz i1;have C3:=Kz s9;have J0:=Kz (show evalE ss es in0 in1=.inl (ZaJ es shF in0 in1 ss [] (fun _=>zTN) 0 0 []) from by rw [k3.o,if_neg (by rw [i1];decide),if_neg (by rw [s9];decide)])
    clear i1 s9 y0 y1;obtain ⟨w5,g6⟩:=Ky wr;rw [←g6] at b2 a7 s8 ⊢;have a5:=r8.o _ (bnext k4.o b2.o);have y0:=Kaa 0 a5;have y1:=Kaa 1 a5;have J1 := @run_makeMap Tryz.prog;have J2:=fun W=>Zdu d (by omega) W (d:Int) rfl
    have C4:w.heap.size<w5.heap.size:=(Kab.1 a5).1;have J3:w.heap.size≠w5.heap.size:=by omega
    have J4:w.heap.size≠w5.heap.size+1:=by omega
    have C5:=Kz a5;have o2:Below w3.heap.size w3 w5:=bnext Y.o b2.o;have t5:=Kz (show ∀ (H g I:Nat) (f6:World),w5.heap.size≤H→w5.heap.size≤g→w5.heap.size≤I→H≠g→H≠I→g≠I→f6.heap[H]?=some (.cells #[.slice T B V,.slice P d ec,.map (some g),.slice (some ⟨I,0,none⟩) d d,.slice (some ⟨q,0,none⟩) d d] 113 (0,0))→f6.heap[g]?=some (.map #[] 0)→f6.heap[I]?=some (.cells (Array.replicate (d*2) (Value.slice none 0 0)) 43 (0,0))→Below w5.heap.size w5 f6→EvNew w5 w.heap.size [] T P (some ⟨q,0,none⟩) B V d ec shF (.pointer (some ⟨H,0,none⟩)) f6 from fun H g I f6 e1 e2 e3 e4 e5 e6 e7 e8 e9 J5=>by
     obtain ⟨J6,s1,s2,s3,s4,_⟩:=B8.o;have C6:q<w3.heap.size:=(Kab.1 s1).1;have C7:shF.length=d:=by rw [r6.o];exact (ZbI k1.o).2.2
     refine evnew a7.o.size e1 e2 e3 e4 e5 e6 (Rd.of_block (l:=J6) ((o2.block q C6).trans s1) (Kae C6 o2.size) (by simp)) (by rw [s3];exact C7) C7 (fun J7 J8 C8 k7 C9 => ?_) e7 e8 e9 J5
     obtain ⟨q0,A,c,e,g7⟩:=s4 J7 J8 C8 k7 C9;have D0:=g7.next o2;have t6:=Zfl D0;rw [Kak] at t6;exact ⟨A,c,e,t6.2.1,t6.2.2,q0,D0.rd⟩)
    clear g6 a5 o2
    go_wp2_with fail
    go_cut [10] (fun s f6=>EvNew w5 w.heap.size [] T P (some ⟨q,0,none⟩) B V d ec shF s f6)
    case first=>
     go_region
     all_goals
      go_wp2_with fail
      go_meet
      first
       | (obtain ⟨t0,t1,t2,t7⟩:=ZcI w5 (.map #[] 0) (.cells (Array.replicate (d*2) (Value.slice none 0 0)) 43) (.cells #[.slice T B V,.slice P d ec,.map (some w5.heap.size),.slice (some ⟨w5.heap.size+1,0,none⟩) d d,.slice (some ⟨q,0,none⟩) d d] 113);exact t5.o _ _ _ _ (by omega) (by omega) (by omega) (by omega) (by omega) (by omega) t2 t0 t1 t7)
       | (obtain ⟨t0,t1,t2,t7⟩:=ZcI w5 (.cells (Array.replicate (d*2) (Value.slice none 0 0)) 43) (.map #[] 0) (.cells #[.slice T B V,.slice P d ec,.map (some (w5.heap.size+1)),.slice (some ⟨w5.heap.size,0,none⟩) d d,.slice (some ⟨q,0,none⟩) d d] 113);exact t5.o _ _ _ _ (by omega) (by omega) (by omega) (by omega) (by omega) (by omega) t2 t1 t0 t7)
    case rest=>
     obtain ⟨H,g,I,rfl,i2,z,J9,K0,K1⟩:=hcut;have K2:w.heap.size+1<w5.heap.size:=Kae B3.o (bnext k4.o b2.o).size;obtain ⟨w6,D1⟩:=Ky wc;rw [←D1] at i2 z ⊢;have t8:=(z.block _ C4).trans C5.o;obtain ⟨t4,k8⟩:=Ky (w6.alloc (.cells #[.int .i64 0,.int .i64 0] 114));have i3:=Kv k8;have v0:=(Kaa 0 ((i3.block _ (Kab.1 t8).1).trans t8));rw [k8] at v0;have i4:=Kw k8;have K3:=Kz k8;have D2:=Kz (bnext (bnext a7.o z) i3);have D3:=Kz (s0.o _ (bnext (bnext (bnext k4.o b2.o) z) i3));have i6:=Kz i4;have t9:=Kz (i2.turn (w':=t4) (Z':=[w6.heap.size]) i3.size (fun k l _=>i3.block k l) (fun k l=>by rw [List.mem_singleton.1 l];exact ⟨.inr (Kag _),(Kab.1 i4).1⟩))
     have i7:¬ evX H g I [w6.heap.size] (w.heap.size+1):=fun y=>by
      rcases y with e | e | e | e
      ·omega
      ·omega
      ·omega
      ·have:=List.mem_singleton.1 e;have:=z.size;omega
     obtain ⟨i,k9⟩:=Ky w6.heap.size;rw [←k9] at i6 t9 i7;have Z:=Kz i7;have K4:=Kz (show w.heap.size≤i from by rw [k9];exact (bnext a7.o z).size)
     have K5:=Kz (show i≠w.heap.size+1 from by rw [k9];have:=B3.o;have:=(bnext (bnext k4.o b2.o) z).size;omega)
     have K6:=Kz (show Zas es shF ss []∧Ahead es from ⟨(ZbI k1.o).2.1,(ZbI k1.o).1⟩)
     clear J9 K0 K1 K2 y0 y1 J3 J4 J1 J2 D1 k8 i3 i4 i7 t8 i2 z t5 C5 B8 B9 o0 o1 j9 r8 s0 C4
     go_wp2_with fail
     rw [←K3.o,←k9];clear v0 k9
     go_loopw [12,52] (fun K7 c7 wr=>∃ (k m n:Nat) (j:Zah) (a0:Nat→TN) (A:Option Addr) (M c:Nat) (D:List TN),k≤B∧c7=.int .i64 k∧K7=.slice A M c∧M=D.length∧M≤k∧ZaJ es shF in0 in1 ss [] (fun _=>zTN) 0 0 []=ZaJ es shF in0 in1 (ss.drop k) j a0 m n D∧Zas es shF (ss.drop k) (shN j)∧Left (ss.drop k) 0 in0 m∧Left (ss.drop k) 1 in1 n∧EvSt wr w.heap.size H g I (i::(blk A).toList) T P (some ⟨q,0,none⟩) B V d ec j a0 shF∧Below w.heap.size w wr∧OutT wr w.heap.size A M c D∧wr.heap[i]?=some (.cells #[.int .i64 m,.int .i64 n] 114 (0,0))∧wr.heap[w.heap.size+1]?=some (.cells #[.slice I0 m0 k0,.slice I1 Q L] 45 (0,0))∧¬ evX H g I (i::(blk A).toList) (w.heap.size+1)∧(∀ q,blk A=some q→q≠i)) (fun _ c7 _=>B-(intOf c7).toNat)
     case atStart=>exact ⟨0,0,0,[],fun _=>zTN,none,0,0,[],by omega,rfl,rfl,rfl,by omega,rfl,K6.o.1,by unfold Left;rw [List.drop_zero,List.drop_zero];exact (Zb0 k6.o).1,by unfold Left;rw [List.drop_zero,List.drop_zero];exact (Zb0 C3.o).1,t9.o,D2.o,OutT.nil _ _,i6.o,D3.o,Z.o,fun q b=>by cases b⟩
     case round=>
      clear t9 D2 D3 i6 Z;obtain ⟨k,m,n,j,a0,A,M,c,D,l,rfl,rfl,D4,P0,i8,D5,D6,D7,i2,D8,D9,i4,E0,i7,E1⟩:=hrel;have E2:=Kz i8;have K8:=Kz D5;have K9:=Kz D6;have L0:=Kz D7;have v2:=Kz i2;have o3:=Kz D8;have E3:=Kz D9;have i6:=Kz i4;have E4:=Kz E0;have Z:=Kz i7;have i9:=Kz D4;have g8:=Kz E1;clear i8 D5 D6 D7 i2 D8 D9 i4 E0 i7 D4 E1
      by_cases E5:k<B
      ·have d3:ss[k]?=some (ss[k]'(by rw [←h9.o];exact E5)):=Kad _
       obtain ⟨o4,E6⟩:=Ky (ss[k]'(by rw [←h9.o];exact E5))
       rw [←E6] at d3;have E7:ss.drop k=o4::ss.drop (k+1):=by
        obtain ⟨L1,L2⟩:=Kaf.1 d3;rw [List.drop_eq_getElem_cons L1,L2]
       have a1:=K8.o;have d4:=K9.o;have a4:=L0.o;have i8:=E2.o;rw [E7] at a1 d4 a4 i8;have o5:smOk es.length o4=true:=by
        have:=(Zbz k1.o).1;unfold treeP at this;rw [Bool.and_eq_true,List.all_eq_true] at this;exact this.2 o4 (Kam d3)
       obtain ⟨L3,o,rfl,L4,c0,c1,c2,⟨E8,E9,c3,F0,v3,v4,L5⟩,c4,c5⟩:=(H1.o.below o3.o).at_ d3;have j0:(0:Int)≤(k:Int):=by omega
       have j1:(k:Int)<(B:Int):=by omega
       obtain ⟨l0,o6,t,v5,j2,F1⟩:=o4;dsimp only at c0 c1 c2 c3 F0 v3 v4 c4 c5;obtain ⟨F2,F3⟩:=Ky v5.length;rw [←F3] at c3 v3 v4;obtain ⟨w4,o7⟩:=Ky (wr.alloc (.cells #[.int .i64 l0,.int .i64 o6,.string t,.slice E8 F2 E9,.int .i64 j2,.int .i64 F1] 93));have b4:=Kv o7;have o8:=Kw o7;have o9:=Kz o7;have E:=Kz (v2.o.next b4);have Y:=Kz (bnext o3.o b4);have p1:=Kz (E3.o.next b4);have b3:=(Kab.1 i6.o).1;have d5:=(Kab.1 E4.o).1;have l1:=Kz ((b4.block i b3).trans i6.o);have v6:=Kz ((b4.block _ d5).trans E4.o);obtain ⟨f7,p2⟩:=Ky wr.heap.size;rw [←p2] at o8;have p3:=Kz p2;have v7:¬ evX H g I (i::(blk A).toList) f7:=fun y=>by have:=v2.o.lt _ y;omega
       have F4:f7<w4.heap.size:=(Kab.1 o8).1;have v8:=v2.o.hz i (by simp)
       have f8:=Kz (show ∀ (v:World),(∀ k,k<w4.heap.size→k≠g→k≠I→v.heap[k]?=w4.heap[k]?)→v.heap[f7]?=some (.cells #[.int .i64 l0,.int .i64 o6,.string t,.slice E8 F2 E9,.int .i64 j2,.int .i64 F1] 93 (0,0))∧v.heap[i]?=some (.cells #[.int .i64 m,.int .i64 n] 114 (0,0))∧v.heap[w.heap.size+1]?=some (.cells #[.slice I0 m0 k0,.slice I1 Q L] 45 (0,0)) from fun v h=>⟨(h f7 F4 (fun e=>v7 (.inr (.inl e))) (fun e=>v7 (.inr (.inr (.inl e))))).trans o8,(h i (Kae b3 b4.size) v8.2.2.2.1 v8.2.2.2.2).trans l1.o,(h _ (Kae d5 b4.size) (fun e=>Z.o (.inr (.inl e))) (fun e=>Z.o (.inr (.inr (.inl e))))).trans v6.o⟩)
       have l2:=Kz (show f7≠i∧f7≠w.heap.size+1∧i≠w.heap.size+1∧w.heap.size≤i∧w.heap.size≤f7 from ⟨by omega,by omega,K5.o,K4.o,by rw [p2];exact o3.o.size⟩)
       have L6:l0=1∨l0=3∨l0=2∧0≤j2∧j2<(es.length:Int):=by
        unfold smOk at o5;simp only [Bool.or_eq_true,Bool.and_eq_true,beq_iff_eq,decide_eq_true_eq] at o5;rcases o5 with (h | h) | h
        ·exact .inl h
        ·exact .inr (.inl h)
        ·exact .inr (.inr ⟨h.1.1,h.1.2,h.2⟩)
       have p4:=Kz i8;clear d3 E6 E7 o5 L4 b4 o8 p2 v7 F4 b3 d5 v8 o7 F3 F0 v3 v4 L5 i8;rcases L6 with rfl | rfl | ⟨rfl,L7,L8⟩
       ·have L9:(o6=0∨o6=1)∧Zad v5≠0∧ZaC (shN j) t=false∧Zas es shF (ss.drop (k+1)) (shN j++[(t,v5)]):=by
         unfold Zas at a1;rwa [if_pos rfl] at a1
        obtain ⟨q1,q2,q3,q4⟩:=L9;rcases q1 with rfl | rfl
        ·obtain ⟨d6,l3,d7⟩:=d4.take rfl rfl;have l4:=a4.skip (.inr (show ((0:Int))≠1 by decide))
         have y:in0[m]?=some (in0[m]'d7):=Kad _;obtain ⟨x,l5⟩:=Ky (in0[m]'d7);rw [←l5] at y;have g9:in0.getD m zTN=x:=by rw [List.getD_eq_getElem?_getD,y];rfl
         rw [g9] at d6;have a8:TnOk x:=⟨by rw [d6];exact q2,(Zb0 k6.o).2 x (Kam y)⟩
         obtain ⟨M0,M1,l6,l7,l8⟩:=(A9.o.below Y.o).at_ y;obtain ⟨B1,d1,B2,d2,y0,y1,R⟩:=l8.tnv (X:=evX H g I (i::(blk A).toList)) (ZaX a8.1) E.o.ge Y.o.size;have f9:findN (shN j) t=none:=by
          unfold ZaC at q3;rw [Bool.or_eq_false_iff] at q3
          cases hf:findN (shN j) t with
          | none=>rfl
          | some l9=>rw [hf] at q3;cases q3.1
         obtain ⟨g0,g2⟩:=E.o.store f9 R a8;obtain ⟨r1,r2,N,r4⟩:=g2 w4.drew rfl (Kai _ _).drew;obtain ⟨S,g3⟩:=Ky ({ w4.drew with heap:=w4.drew.heap.setIfInBounds g g0 })
         rw [←g3] at r1 r2 N r4;obtain ⟨e8,n8,b8⟩:=f8.o S (fun k l b1 _=>N.2 k l b1)
         obtain ⟨F,d8,d9⟩:=f8.o w4 (fun _ _ _ _=>rfl)
         have z2:=Kaa 2 E.o.hc;have f0:=Kaa 0 F;have f1:=Kaa 1 F;have f2:=Kaa 2 F;have g1:=Kaa 1 e8;have p0:=Kaa 0 d9;have u0:=Kaa 0 d8;have u8:=Kaa 0 n8;have M2:S.frozen? ⟨i,0,none⟩=false:=by simp [World.frozen?,n8]
         have v9:m<m0:=by rw [A6.o];exact d7
         have x0:(0:Int)≤(m:Int):=by omega
         have x1:(m:Int)<(m0:Int):=by omega
         have M3:=Kz l6;have h0:=Kz (show ZaJ es shF in0 in1 ss [] (fun _=>zTN) 0 0 []=ZaJ es shF in0 in1 (ss.drop (k+1)) (j++[(t,x)]) a0 (m+1) n D from by
          rw [p4.o,ZaJ,if_pos rfl,if_pos rfl,g9])
         have h4:=Kz (show Zas es shF (ss.drop (k+1)) (shN (j++[(t,x)])) from by rw [Zbs,d6];exact q4)
         have x2:=Kz l3;have x3:=Kz l4;have R2:=Kz r2;have R3:=Kz N;have R4:=Kz r4;have m1:=Kz n8;have h5:=Kz b8;have M4:=Kz l7;subst l6;clear d6 l3 d7 l4 y l5 g9 a8 l8 R f9 g2 r2 N r4 g3 e8 n8 b8 F d8 d9 q2 q3 q4 a1 d4 a4 v9 l7
         go_wp2_with fail
         rw [←o9.o,←p3.o]
         go_wp2_with fail
         go_region
         all_goals
          go_wp2
          obtain ⟨W9,a9⟩:=Ky (S.setCell ⟨i,0,none⟩ (.int .i64 ((m:Int)+1)));have e0:∀ k,k≠i→W9.heap[k]?=S.heap[k]?:=fun k l=>by rw [a9];exact ZaS _ _ _ l
          have x4:W9.heap[i]?=some (.cells #[.int .i64 ((m:Int)+1),.int .i64 ((n:Int))] 114 (0,0)):=by rw [a9];simp [World.setCell,Array.getElem?_modify,m1.o]
          have m3:W9.heap.size=S.heap.size:=by rw [a9];simp [World.setCell]
          have x5:OutT W9 w.heap.size A M c D:=by
           refine p1.o.keepT (fun q b => ?_) (fun q cur x6 b f3 => ?_)
           ·have J:=E.o.hz q (by rw [b];simp)
            rw [e0 q (g8.o q b),R3.o.2 q J.2.1 J.2.2.2.1]
           ·have h6:=(Kab.1 b).1;have x7:q≠g:=fun e=>by
             obtain ⟨j3,⟨p5,p6,m4,_⟩,_⟩:=E.o.hn;rw [e,m4] at b
             cases b
            have x8:q≠i:=fun e=>by
             rw [e,l1.o] at b;injection b with b
             injection b with _ b _
             rw [←b] at f3;exact absurd f3 (by decide)
            rw [e0 q x8,R3.o.2 q h6 x7]
          try rw [←a9]
          exact ⟨⟨k+1,(m+1),n,_,a0,A,M,c,D,by omega,rfl,rfl,i9.o,by omega,h0.o,h4.o,x2.o,x3.o,R2.o.turn (Nat.le_of_eq m3.symm) (fun q b x9=>e0 q (fun e=>x9 (by rw [e];simp))) (fun q b=>⟨.inl b,by rw [m3];exact (R2.o.hz q b).2.1⟩),(by rw [a9];exact Zaf (Y.o.trans R4.o) l2.o.2.2.2.1 _),x5,x4,(e0 _ l2.o.2.2.1.symm).trans h5.o,Z.o,g8.o⟩,by simp [intOf];omega⟩
        ·obtain ⟨d6,l3,d7⟩:=a4.take rfl rfl;have l4:=d4.skip (.inr (show ((1:Int))≠0 by decide))
         have y:in1[n]?=some (in1[n]'d7):=Kad _;obtain ⟨x,l5⟩:=Ky (in1[n]'d7);rw [←l5] at y;have g9:in1.getD n zTN=x:=by rw [List.getD_eq_getElem?_getD,y];rfl
         rw [g9] at d6;have a8:TnOk x:=⟨by rw [d6];exact q2,(Zb0 C3.o).2 x (Kam y)⟩
         obtain ⟨M0,M1,l6,l7,l8⟩:=(B0.o.below Y.o).at_ y;obtain ⟨B1,d1,B2,d2,y0,y1,R⟩:=l8.tnv (X:=evX H g I (i::(blk A).toList)) (ZaX a8.1) E.o.ge Y.o.size;have f9:findN (shN j) t=none:=by
          unfold ZaC at q3;rw [Bool.or_eq_false_iff] at q3
          cases hf:findN (shN j) t with
          | none=>rfl
          | some l9=>rw [hf] at q3;cases q3.1
         obtain ⟨g0,g2⟩:=E.o.store f9 R a8;obtain ⟨r1,r2,N,r4⟩:=g2 w4.drew rfl (Kai _ _).drew;obtain ⟨S,g3⟩:=Ky ({ w4.drew with heap:=w4.drew.heap.setIfInBounds g g0 })
         rw [←g3] at r1 r2 N r4;obtain ⟨e8,n8,b8⟩:=f8.o S (fun k l b1 _=>N.2 k l b1)
         obtain ⟨F,d8,d9⟩:=f8.o w4 (fun _ _ _ _=>rfl)
         have z2:=Kaa 2 E.o.hc;have f0:=Kaa 0 F;have f1:=Kaa 1 F;have f2:=Kaa 2 F;have g1:=Kaa 1 e8;have p0:=Kaa 1 d9;have u0:=Kaa 1 d8;have u8:=Kaa 1 n8;have M2:S.frozen? ⟨i,1,none⟩=false:=by simp [World.frozen?,n8]
         have v9:n<Q:=by rw [A7.o];exact d7
         have x0:(0:Int)≤(n:Int):=by omega
         have x1:(n:Int)<(Q:Int):=by omega
         have M3:=Kz l6;have h0:=Kz (show ZaJ es shF in0 in1 ss [] (fun _=>zTN) 0 0 []=ZaJ es shF in0 in1 (ss.drop (k+1)) (j++[(t,x)]) a0 m (n+1) D from by
          rw [p4.o,ZaJ,if_pos rfl,if_neg (show ¬ (1:Int)=0 by decide),g9])
         have h4:=Kz (show Zas es shF (ss.drop (k+1)) (shN (j++[(t,x)])) from by rw [Zbs,d6];exact q4)
         have x2:=Kz l3;have x3:=Kz l4;have R2:=Kz r2;have R3:=Kz N;have R4:=Kz r4;have m1:=Kz n8;have h5:=Kz b8;have M4:=Kz l7;subst l6;clear d6 l3 d7 l4 y l5 g9 a8 l8 R f9 g2 r2 N r4 g3 e8 n8 b8 F d8 d9 q2 q3 q4 a1 d4 a4 v9 l7
         go_wp2_with fail
         rw [←o9.o,←p3.o]
         go_wp2_with fail
         go_region
         all_goals
          go_wp2
          obtain ⟨W9,a9⟩:=Ky (S.setCell ⟨i,1,none⟩ (.int .i64 ((n:Int)+1)));have e0:∀ k,k≠i→W9.heap[k]?=S.heap[k]?:=fun k l=>by rw [a9];exact ZaS _ _ _ l
          have x4:W9.heap[i]?=some (.cells #[.int .i64 ((m:Int)),.int .i64 ((n:Int)+1)] 114 (0,0)):=by rw [a9];simp [World.setCell,Array.getElem?_modify,m1.o]
          have m3:W9.heap.size=S.heap.size:=by rw [a9];simp [World.setCell]
          have x5:OutT W9 w.heap.size A M c D:=by
           refine p1.o.keepT (fun q b => ?_) (fun q cur x6 b f3 => ?_)
           ·have J:=E.o.hz q (by rw [b];simp)
            rw [e0 q (g8.o q b),R3.o.2 q J.2.1 J.2.2.2.1]
           ·have h6:=(Kab.1 b).1;have x7:q≠g:=fun e=>by
             obtain ⟨j3,⟨p5,p6,m4,_⟩,_⟩:=E.o.hn;rw [e,m4] at b
             cases b
            have x8:q≠i:=fun e=>by
             rw [e,l1.o] at b;injection b with b
             injection b with _ b _
             rw [←b] at f3;exact absurd f3 (by decide)
            rw [e0 q x8,R3.o.2 q h6 x7]
          try rw [←a9]
          exact ⟨⟨k+1,m,(n+1),_,a0,A,M,c,D,by omega,rfl,rfl,i9.o,by omega,h0.o,h4.o,x3.o,x2.o,R2.o.turn (Nat.le_of_eq m3.symm) (fun q b x9=>e0 q (fun e=>x9 (by rw [e];simp))) (fun q b=>⟨.inl b,by rw [m3];exact (R2.o.hz q b).2.1⟩),(by rw [a9];exact Zaf (Y.o.trans R4.o) l2.o.2.2.2.1 _),x5,x4,(e0 _ l2.o.2.2.1.symm).trans h5.o,Z.o,g8.o⟩,by simp [intOf];omega⟩
       ·have M5:(findN (shN j) t).isSome=true∧Zas es shF (ss.drop (k+1)) (shN j):=by
         unfold Zas at a1;rwa [if_neg (show ¬ (3:Int)=1 by decide),if_neg (show ¬ (3:Int)=2 by decide)] at a1
        obtain ⟨q1,q2⟩:=M5;have m5:=d4.skip (.inl (show ((3:Int))≠1 by decide))
        have m6:=a4.skip (.inl (show ((3:Int))≠1 by decide))
        obtain ⟨j3,y2,p7⟩:=E.o.hn;rcases p7.find t with ⟨_,h2⟩ | ⟨P1,P2,h1,h2,R,a8⟩
        ·rw [h2] at q1;cases q1
        ·obtain ⟨b9,d3⟩:=Ky (findT j t);rw [←d3] at R a8;have M6:=R;obtain ⟨⟨A1,L,rfl,_,_,n3,_⟩,A2,k2,rfl,_⟩:=M6;have h0:=Kz (show ZaJ es shF in0 in1 ss [] (fun _=>zTN) 0 0 []=ZaJ es shF in0 in1 (ss.drop (k+1)) j a0 m n (D++[b9]) from by
          rw [p4.o,ZaJ,if_neg (show ¬ (3:Int)=1 by decide),if_neg (show ¬ (3:Int)=2 by decide),d3])
         obtain ⟨n1,y3⟩:=Ky b9.sh.length;obtain ⟨n2,y4⟩:=Ky b9.el.length;rw [←y3,←y4] at R h1;have y5:=Kz y3;have y6:=Kz y4;have M7:=Kz R;have F5:=Kz a8;have h4:=Kz q2;have y7:=Kz m5;have y8:=Kz m6;have M8:=ZbS (w:=w4.drew) (show NamM w4.drew g j3 from y2) t h1
         have M9:=ZbS (w:=(w4.alloc (.cells #[.slice none 0 0,.slice none 0 0] 43)).drew) (show NamM (w4.alloc (.cells #[.slice none 0 0,.slice none 0 0] 43)).drew g j3 from by
          obtain ⟨p5,p6,Q,m2⟩:=y2;exact ⟨p5,p6,(Below.heap_alloc w4 _ g (Kab.1 Q).1).trans Q,m2⟩) t h1
         have z2:=Kaa 2 E.o.hc;obtain ⟨F,d8,d9⟩:=f8.o w4 (fun _ _ _ _=>rfl)
         have f0:=Kaa 0 F;have f2:=Kaa 2 F;have N0:=(World.cell?_alloc_lt w4 (.cells #[.slice none 0 0,.slice none 0 0] 43) ⟨f7,2,none⟩ (Kab.1 F).1).trans f2;have N1:=(World.cell?_alloc_lt w4 (.cells #[.slice none 0 0,.slice none 0 0] 43) ⟨H,2,none⟩ (E.o.lt _ (.inl rfl))).trans z2;clear R a8 q1 q2 m5 m6 y3 y4 d3 y2 p7 h1 h2 a1 d4 a4 n3 F d8 d9
         go_wp2_with fail
         rw [←o9.o,←p3.o]
         go_wp2_with fail
         go_region
         all_goals
          obtain ⟨w5,g6⟩:=Ky ((w4.alloc (.cells #[.slice A1 n1 L,.slice A2 n2 k2] 43)).drew);have c6:Below w4.heap.size w4 w5:=by rw [g6];exact ((Kai _ _).alloc (Kag _) _).drew
          have p8:w5.heap[w4.heap.size]?=some (.cells #[.slice A1 n1 L,.slice A2 n2 k2] 43 (0,0)):=by rw [g6];exact Kac w4 _
          rw [←g6];have N2:=Kz (E.o.next c6);have p9:=Kz (bnext Y.o c6);have F6:=Kz (p1.o.next c6);have b3:=(Kab.1 l1.o).1;have d5:=(Kab.1 v6.o).1;have F7:=Kz ((c6.block i b3).trans l1.o);have F8:=Kz ((c6.block _ d5).trans v6.o);obtain ⟨h7,F9⟩:=Ky w4.heap.size;rw [←F9] at p8 ⊢;have q5:=Kz (show ∀ W,Below w5.heap.size w5 W→W.cell? ⟨h7,0,none⟩=some (.slice A1 n1 L)∧W.cell? ⟨h7,1,none⟩=some (.slice A2 n2 k2) from fun W C=>by
           have h:=(C.block h7 (Kab.1 p8).1).trans p8;exact ⟨Kaa 0 h,Kaa 1 h⟩)
          obtain ⟨x0,x1⟩:=q5.o _ (Kai _ _);obtain ⟨y0,y1⟩:=q5.o _ (Kai _ _).drew;have G0:=Kz (M7.o.next c6);have N3:=Kz (show ∀ W,Below w5.heap.size w5 W→Calls Tryz.prog 55 #[.slice A1 n1 L] W (fun e v=>∃ a2 b0,e=.returned (.slice a2 n1 b0)∧Own v w5.heap.size 3 a2 b0 (b9.sh.map VI)∧(∀ k,blk a2=some k→W.heap.size≤k∧k<v.heap.size)∧Below W.heap.size W v∧Below w5.heap.size w5 v∧v.cell? ⟨h7,0,none⟩=some (.slice A1 n1 L)∧v.cell? ⟨h7,1,none⟩=some (.slice A2 n2 k2)) from fun W C=>by
           obtain ⟨_,c9,e9,_,_,P3,r9⟩:=G0.o.1;injection e9 with e9 _ _
           subst e9;refine (ZdH A1 n1 L b9.sh W y5.o (by have:=y5.o;omega) ((r9.keep (KeepX.of C)).rd)).mono ?_
           rintro e v ⟨a2,b0,rfl,g7,z⟩
           obtain ⟨c1,c2⟩:=q5.o _ (bnext C z);exact ⟨a2,b0,rfl,g7.more C.size,g7.lt,z,bnext C z,c1,c2⟩)
          have N4:=Kz (show ∀ W,Below w5.heap.size w5 W→Calls Tryz.prog 56 #[.slice A2 n2 k2] W (fun e v=>∃ a2 b0,e=.returned (.slice a2 n2 b0)∧Own v w5.heap.size 39 a2 b0 (b9.el.map U)∧(∀ k,blk a2=some k→W.heap.size≤k∧k<v.heap.size)∧Below W.heap.size W v∧Below w5.heap.size w5 v∧v.cell? ⟨h7,0,none⟩=some (.slice A1 n1 L)∧v.cell? ⟨h7,1,none⟩=some (.slice A2 n2 k2)) from fun W C=>by
           obtain ⟨_,c9,e9,_,_,r9⟩:=G0.o.2;injection e9 with e9 _ _
           subst e9;have C9:=ZaQ F5.o;refine (Zh6 A2 n2 k2 b9.el W y6.o (by have:=y6.o;omega) ((r9.keep (KeepX.of C)).rd)).mono ?_
           rintro e v ⟨a2,b0,rfl,g7,z⟩
           obtain ⟨c1,c2⟩:=q5.o _ (bnext C z);exact ⟨a2,b0,rfl,g7.more C.size,g7.lt,z,bnext C z,c1,c2⟩)
          clear g6 c6 p8 b3 d5 F9 f0 f2 N0 z2 N1 M8 M9
          go_wp2_with fail
          go_region_law (first
           | (rw [if_pos (by rfl)];go_simp;go_at_call 55;refine (N3.o _ ?_).mono ?_;(first | exact (Kai _ _).drew | exact g4.o);rintro e P4 ⟨a2,b0,rfl,G1,G2,G3,m7,P5,P6⟩;have G4:=Kz G1;have G5:=Kz G2;have N5:=Kz G3;have g4:=Kz m7;clear G1 G2 G3 m7)
           | (rw [if_pos (by rfl)];go_simp;go_at_call 56;refine (N4.o _ ?_).mono ?_;(first | exact (Kai _ _).drew | exact g4.o);rintro e P7 ⟨N6,N7,rfl,g0,G6,G7,m7,P8,P9⟩;have G8:=Kz g0;have G9:=Kz G6;have N8:=Kz G7;have g4:=Kz m7;clear g0 G6 G7 m7)
           | (refine Zgj rfl (.tmp 111) (.tmp 119) rfl w.heap.size A c M D rfl w5 _ F6.o p9.o.size g4.o a2 N6 b0 N7 n1 n2 b9 y5.o y6.o (Kah (ZaX F5.o.1) (by decide)) ?_ ?_ ?_ rfl rfl (by omega) ?_;(first | exact G4.o | exact G4.o.next N8.o);(first | exact G8.o | exact G8.o.next N5.o);(first | exact ZgY (fun k l=>(G5.o k l).2) (fun k l=>(G9.o k l).1) | exact Zk6 (fun k l=>(G5.o k l).1) (fun k l=>(G9.o k l).2));intro A8 c8 Q0 m8 H0 H2;have q6:=Kz m8;have H4:=Kz H0;have N9:=Kz H2;clear m8 H0 H2))
          all_goals
           obtain ⟨y9,q7,a6⟩:=Zgk g4.o H4.o N9.o;have b3:=(Kab.1 F7.o).1;have d5:=(Kab.1 F8.o).1;have H5:=N2.o.turn (Z':=i::(blk A8).toList) y9 (fun q b J=>q7 q b (fun e=>J (by rw [e];simp))) (fun q b=>by
            rcases List.mem_cons.1 b with rfl | b
            ·exact ⟨.inl (by simp),Kae b3 y9⟩
            ·have j4:blk A8=some q:=by simpa using b
             refine ⟨?_,(q6.o.lt q j4).2⟩;rcases a6 with e | ⟨l9,e,J⟩
             ·left;rw [e] at j4;rw [j4];simp
             ·right;rw [e] at j4;injection j4 with j4
              omega)
           have k3:=Kz H5;have O0:=Kz ((q7 i b3 (fun e=>g8.o i e rfl)).trans F7.o)
           have O1:=Kz ((q7 _ d5 (fun e=>Z.o (.inr (.inr (.inr (by rw [e];simp)))))).trans F8.o)
           have O2:=Kz (show ¬ evX H g I (i::(blk A8).toList) (w.heap.size+1) from fun y=>by
            rcases y with e | e | e | e
            ·exact Z.o (.inl e)
            ·exact Z.o (.inr (.inl e))
            ·exact Z.o (.inr (.inr (.inl e)))
            ·rcases List.mem_cons.1 e with e | e
             ·exact l2.o.2.2.1 e.symm
             ·have m9:blk A8=some (w.heap.size+1):=by simpa using e
              rcases a6 with a6 | ⟨l9,a6,J⟩
              ·rw [a6] at m9;exact Z.o (.inr (.inr (.inr (by rw [m9];simp))))
              ·rw [a6] at m9;injection m9 with m9
               omega)
           have O3:=Kz (show ∀ q,blk A8=some q→q≠i from fun q b=>by
            rcases a6 with a6 | ⟨l9,a6,J⟩
            ·exact g8.o q (a6 ▸ b)
            ·rw [a6] at b;injection b with b
             omega)
           have h5:=Kz (Zal ((bnext p9.o g4.o).alloc (bnext p9.o g4.o).size _) H4.o (Kah (bnext p9.o g4.o).size (by simp)) (fun q b=>(F6.o.lt q b).1))
           have O4:=Kz (show M+1=(D++[b9]).length from by rw [List.length_append,←i9.o];rfl)
           clear H5 y9 q7 a6 b3 d5
           go_wp2
           exact ⟨⟨k+1,m,n,j,a0,A8,M+1,c8,D++[b9],by omega,rfl,rfl,O4.o,by omega,h0.o,h4.o,y7.o,y8.o,k3.o,h5.o,q6.o,O0.o,O1.o,O2.o,O3.o⟩,by simp [intOf];omega⟩
       ·obtain ⟨O,rfl⟩:∃ O:Nat,j2=(O:Int):=⟨j2.toNat,by omega⟩
        have O5:LetOk es (shN j) shF O∧ZaC (shN j) t=false∧Zas es shF (ss.drop (k+1)) (shN j++[(t,shF.getD O [])]):=by
         unfold Zas at a1;rw [if_neg (show ¬ (2:Int)=1 by decide),if_pos rfl] at a1
         dsimp only at a1;rwa [Int.toNat_natCast] at a1
        obtain ⟨q1,q2,q3⟩:=O5;have m5:=d4.skip (.inl (show ((2:Int))≠1 by decide))
        have m6:=a4.skip (.inl (show ((2:Int))≠1 by decide))
        have q8:exsOk 0 es=true:=by
         have:=(Zbz k1.o).1;unfold treeP at this;rw [Bool.and_eq_true] at this;exact this.1
        have H6:O<d:=by rw [r6.o];exact q1.1
        have H7:∀ p∈j,TnOk p.2:=by
         obtain ⟨j3,_,p7⟩:=E.o.hn;exact p7.ok
        have q9:=(ZiN (V:=a0) q8 (ZaU q8) q1 H7 O (ZaI es O)).1;have H8:=Kz (ZkJ w.heap.size H g I (i::(blk A).toList) (some ⟨L3,o,none⟩) P (some ⟨q,0,none⟩) B V d ec es j a0 shF O w4 r6.o H6 n3 (H3.o.below Y.o) q8 q1 I6.o E.o);obtain ⟨r0,z4⟩:=Ky (letF es (Zac es O) shF j a0 (O+1));rw [←z4] at q9 H8;have f9:findN (shN j) t=none:=by
         unfold ZaC at q2;rw [Bool.or_eq_false_iff] at q2
         cases hf:findN (shN j) t with
         | none=>rfl
         | some l9=>rw [hf] at q2;cases q2.1
        have O6:=Kz f9;have O7:=Kz q9;have h0:=Kz (show ZaJ es shF in0 in1 ss [] (fun _=>zTN) 0 0 []=ZaJ es shF in0 in1 (ss.drop (k+1)) (j++[(t,r0 O)]) r0 m n D from by
         rw [p4.o,ZaJ,if_neg (show ¬ (2:Int)=1 by decide),if_pos rfl]
         dsimp only;rw [Int.toNat_natCast,←z4])
        have h4:=Kz (show Zas es shF (ss.drop (k+1)) (shN (j++[(t,r0 O)])) from by rw [Zbs,q9.2];exact q3)
        have y7:=Kz m5;have y8:=Kz m6;have H9:=Kz H6;obtain ⟨F,d8,d9⟩:=f8.o w4 (fun _ _ _ _=>rfl)
        have f0:=Kaa 0 F;have f4:=Kaa 4 F;clear q9 f9 q1 q2 q3 m5 m6 q8 H7 z4 a1 d4 a4 F d8 d9 L7 L8
        go_wp2_with fail
        rw [←o9.o,←p3.o]
        go_upto_region 22 with (go_at_call 54;refine H8.o.mono ?_;rintro e w5 ⟨rfl,j5,c6,h8⟩)
        clear f0 f4;obtain ⟨B1,d1,B2,d2,y0,y1,R⟩:=h8.val (a:=O) H9.o;obtain ⟨g0,g2⟩:=h8.store O6.o R O7.o.1;obtain ⟨r1,r2,N,r4⟩:=g2 w5.drew rfl (Kai _ _).drew;obtain ⟨S,g3⟩:=Ky ({ w5.drew with heap:=w5.drew.heap.setIfInBounds g g0 })
        rw [←g3] at r1 r2 N r4;obtain ⟨e5,n5,b5⟩:=f8.o w5 (fun k l _ k7=>j5.2 k l k7)
        obtain ⟨e8,n8,b8⟩:=f8.o S (fun k l b1 k7=>(N.2 k (Kae l j5.1) b1).trans (j5.2 k l k7))
        have z2:=Kaa 2 h8.hc;have z3:=Kaa 3 h8.hc;have f2:=Kaa 2 e5;have f4:=Kaa 4 e5;have x0:(0:Int)≤(O:Int):=by omega
        have x1:(O:Int)<(d:Int):=by have:=H9.o;omega
        have m8:OutT S w.heap.size A M c D:=by
         have O8:OutT w5 w.heap.size A M c D:=by
          refine p1.o.keepT (fun q b => ?_) (fun q cur x6 b f3 => ?_)
          ·have J:=E.o.hz q (by rw [b];simp)
           exact j5.2 q J.2.1 J.2.2.2.2
          ·have h6:=(Kab.1 b).1;refine j5.2 q h6 (fun e => ?_)
           obtain ⟨Q1,v1,_⟩:=E.o.hv;rw [e,v1] at b;injection b with b
           injection b with _ b _
           rw [←b] at f3;exact absurd f3 (by decide)
         refine O8.keepT (fun q b => ?_) (fun q cur x6 b f3 => ?_)
         ·have J:=h8.hz q (by rw [b];simp)
          exact N.2 q J.2.1 J.2.2.2.1
         ·have h6:=(Kab.1 b).1;refine N.2 q h6 (fun e => ?_)
          obtain ⟨j3,⟨p5,p6,m4,_⟩,_⟩:=h8.hn;rw [e,m4] at b
          cases b
        have q6:=Kz m8;have m1:=Kz n8;have O9:=Kz b8;have R2:=Kz r2;have h5:=Kz ((Y.o.trans c6).trans r4);clear m8 n8 b8 e8 n5 b5 e5 r2 N r4 g2 R j5 c6 h8 g3
        go_wp2_with fail
        go_region
        all_goals
         go_wp2
         exact ⟨⟨k+1,m,n,_,r0,A,M,c,D,by omega,rfl,rfl,i9.o,by omega,h0.o,h4.o,y7.o,y8.o,R2.o,h5.o,q6.o,m1.o,O9.o,Z.o,g8.o⟩,by simp [intOf];omega⟩
      ·obtain rfl:k=B:=by omega
       have g5:=Kz (show evalE ss es in0 in1=.inl D from by
        rw [J0.o,E2.o,h9.o,List.drop_length];rfl)
       go_wp2
       go_ret2;refine ⟨o3.o,?_⟩;rw [g5.o];exact ⟨A,c,by rw [←i9.o];rfl,by rw [←i9.o];exact E3.o⟩
end Go.Proofs.YtghlnncfigkkaaaGreatDoor
