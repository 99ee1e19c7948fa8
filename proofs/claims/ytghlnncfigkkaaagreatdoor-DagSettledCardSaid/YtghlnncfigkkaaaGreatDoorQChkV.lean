/-
 Walk of check.Check.
-/
import Derived.Test.YtghlnncfigkkaaaGreatDoorQChkY
import Derived.Test.YtghlnncfigkkaaaGreatDoorQChkA
import Derived.Deep.DeepCutAuto
set_option maxRecDepth 100000
set_option maxHeartbeats 8000000
set_option linter.unusedVariables false
set_option linter.unusedSimpArgs false
namespace Go.Proofs.YtghlnncfigkkaaaGreatDoor
open Go.RowKit
def OutSh (w:World) (base q:Nat) (shapes:List (List Int)):Prop:=∃ svs:List Value,w.heap[q]?=some (.cells svs.toArray 41 (0,0))∧base≤q∧svs.length=shapes.length ∧
 (∀ (j:Nat) (v:Value) (l:List Int),svs[j]?=some v→shapes[j]?=some l→l.length≤2∧∃ A c,v=.slice A l.length c∧Own w base 3 A c (l.map VI)) ∧
 ∀ (i j:Nat) (u v:Value),i<j→svs[i]?=some u→svs[j]?=some v→u.ownBlock=none∨u.ownBlock≠v.ownBlock
def ZgO (w:World) (ne:Nat) (r:Sum (List (List Int)) (Nat × Int)) (e:Ending) (w':World):Prop:=
 Below w.heap.size w w' ∧
 match r with
 | .inl shapes=>∃ q,e=.returned (.tuple #[.slice (some ⟨q,0,none⟩) ne ne,.nilIface])∧OutSh w' w.heap.size q shapes
 | .inr (c,p)=>∃ v,e=.returned (.tuple #[.slice none 0 0,v])∧IsErr w' v [(chkN,p)] c
def CkNew (w3:World) (B:Nat) (SA EA:Option Addr) (ns sc ne ec:Nat) (init:List (List Int)) (s:Value) (wx:World):Prop:=
 ∃ cb g sg,s=.pointer (some ⟨cb,0,none⟩)∧CkSt wx B cb g sg SA EA ns sc ne ec [] init∧Below w3.heap.size w3 wx
theorem ZcI (w:World) (a b c:Obj):(((w.alloc a).alloc b).alloc c).drew.heap[w.heap.size]?=some a∧(((w.alloc a).alloc b).alloc c).drew.heap[w.heap.size+1]?=some b ∧
  (((w.alloc a).alloc b).alloc c).drew.heap[w.heap.size+1+1]?=some c∧Below w.heap.size w (((w.alloc a).alloc b).alloc c).drew:=by
 refine ⟨?_,?_,?_,((((Kai _ _).alloc (Kag _) _).alloc (by simp) _).alloc (by simp;omega) _).drew⟩
 ·show (((w.alloc a).alloc b).alloc c).heap[w.heap.size]?=_
  rw [Below.heap_alloc _ _ _ (by simp;omega),Below.heap_alloc _ _ _ (by simp)]
  exact Kac w a
 ·show (((w.alloc a).alloc b).alloc c).heap[w.heap.size+1]?=_
  rw [Below.heap_alloc _ _ _ (by simp)]
  have:=Kac (w.alloc a) b;rwa [World.size_alloc] at this
 ·have:=Kac ((w.alloc a).alloc b) c;rwa [World.size_alloc,World.size_alloc] at this
theorem cknew {w3 c:World} {B cb g b d e a ec:Nat} {f h:Option Addr} {es:List EI} (k:a=es.length) (A:B≤w3.heap.size) (C:w3.heap.size≤cb) (D:w3.heap.size≤g) (E:w3.heap.size≤b) (m:cb≠g) (n:cb≠b) (p:g≠b)
  (q:c.heap[cb]?=some (.cells #[.slice f d e,.slice h a ec,.map (some g),.slice (some ⟨b,0,none⟩) a a] 185 (0,0)))
  (r:c.heap[g]?=some (.map #[] 0)) (s:c.heap[b]?=some (.cells (Array.replicate a (Value.slice none 0 0)) 41 (0,0))) (x:Below w3.heap.size w3 c):
  CkNew w3 B f h d e a ec (es.map fun _=>[]) (.pointer (some ⟨cb,0,none⟩)) c:=by
 refine ⟨cb,g,b,rfl,⟨by omega,by omega,by omega,m,n,p,q,⟨[],⟨#[],0,r,rfl⟩,trivial⟩,List.replicate a (Value.slice none 0 0),by rw [s];simp,by simp,by simp [k],fun j v l y i => ?_⟩,x⟩
 have z:v=.slice none 0 0:=(List.eq_of_mem_replicate (Kam y));rw [Kal,Option.map_eq_some_iff] at i;obtain ⟨_,_,rfl⟩:=i;rw [z];exact ShV.nil _ _
theorem ZeN {es:List EI} {s:SI} (r:List SI) (names:Names) (sh:List (List Int)) (a:Nat) (h:s.kind=1):Zaj es (s::r) names sh a =
  if (s.party≠0∧s.party≠1)∨Zad s.shape=0 then .inr (141,s.pos) else if ZaC names s.name then .inr (140,s.pos) else if 8≤a then .inr (5,s.pos) else Zaj es r (names++[(s.name,s.shape)]) sh (a+1):=by
 rw [Zaj,if_pos h];rfl
theorem ZeO {es:List EI} {s:SI} (r:List SI) (names:Names) (sh:List (List Int)) (a:Nat) (h:s.kind=2):Zaj es (s::r) names sh a =
  match Zay es (Zac es s.expr.toNat) names (s.expr.toNat+1) 0 sh with
  | .inr x=>.inr x
  | .inl sh'=>if ZaC names s.name then .inr (140,s.pos) else Zaj es r (names++[(s.name,sh'.getD s.expr.toNat [])]) sh' a:=by
 rw [Zaj,if_neg (by rw [h];decide),if_pos h]
 rfl
theorem ZeP {es:List EI} {s:SI} (r:List SI) (names:Names) (sh:List (List Int)) (a:Nat) (h:s.kind=3):Zaj es (s::r) names sh a =
  if (findN names s.name).isNone then .inr (140,s.pos) else Zaj es r names sh a:=by
 rw [Zaj,if_neg (by rw [h];decide),if_neg (by rw [h];decide)]
theorem ZaX {l:List Int} (h:Zad l≠0):l.length≤2:=by
 unfold Zad at h;split at h
 ·exact absurd rfl h
 ·split at h
  ·exact absurd rfl h
  ·omega
def OutK (w:World) (q B ne:Nat) (sh:List (List Int)) (k:Nat):Prop:=∃ svs:List Value,w.heap[q]?=some (.cells svs.toArray 41 (0,0))∧svs.length=ne ∧
 (∀ (j:Nat) (v:Value) (l:List Int),j<k→svs[j]?=some v→sh[j]?=some l→l.length≤2∧∃ A c,v=.slice A l.length c∧Own w B 3 A c (l.map VI)∧∀ b,blk A=some b→q<b) ∧
 ∀ (i j:Nat) (u v:Value),i<j→j<k→svs[i]?=some u→svs[j]?=some v→u.ownBlock=none∨u.ownBlock≠v.ownBlock
theorem Zi2 {w:World} {base:Nat} {e:TypeId} {A:Option Addr} {d:Nat} {xs:List Value} (h:Own w base e A d xs) {q k:Nat} (v:Value) (f:∀ b,blk A=some b→b≠q):Own (w.setCell ⟨q,k,none⟩ v) base e A d xs:=by
 refine ⟨h.1,?_⟩;rcases h.2 with c | ⟨g,i,cur,c,j,l,r⟩
 ·exact .inl c
 ·refine .inr ⟨g,i,cur,c,j,?_,r⟩;have:blk A=some g:=by injection c with a;rw [a];rfl
  simp only [World.setCell,Array.getElem?_modify];rw [if_neg (fun e=>f g this e.symm)]
  exact l
theorem OutK.step {w s:World} {q B x k:Nat} {sh:List (List Int)} (h:OutK w q B x sh k) (J:q<w.heap.size) (T:B≤q) (D:Below w.heap.size w s) {g:Option Addr} {n:Nat} {l:List Int} (p:Own s w.heap.size 3 g n (l.map VI)) (E:sh[k]?=some l) (L:l.length≤2) (V:k<x):
  OutK (s.setCell ⟨q,k,none⟩ (.slice g l.length n)) q B x sh (k+1):=by
 obtain ⟨M,N,O,F,P⟩:=h;refine ⟨M.set k (.slice g l.length n),?_,by simpa using O,fun j v m Q a d => ?_,fun i j H v I Q r a => ?_⟩
 ·simp [World.setCell,Array.getElem?_modify,(D.block q J).trans N]
 ·rw [List.getElem?_set] at a
  by_cases e:k=j
  ·subst e;rw [if_pos rfl,if_pos (by omega)] at a
   injection a with a
   subst a;rw [E] at d;injection d with d
   subst d;refine ⟨L,g,n,rfl,Zi2 (p.more (by omega)) _ (fun b f => ?_),fun b f => ?_⟩
   ·have:=(p.lt b f).1;omega
   ·have:=(p.lt b f).1;omega
  ·rw [if_neg e] at a;obtain ⟨R,A,c,y,z,C⟩:=F j v m (by omega) a d
   exact ⟨R,A,c,y,Zi2 (z.next D) _ (fun b f=>by have:=C b f;omega),C⟩
 ·rw [List.getElem?_set] at r a;rw [if_neg (by omega)] at r
  by_cases e:k=j
  ·subst e;rw [if_pos rfl,if_pos (by omega)] at a
   injection a with a
   subst a;have S:i<sh.length:=by have:=(Kaf.1 E).1;omega
   obtain ⟨_,A,c,y,z,C⟩:=F i H (sh[i]) I r (Kad S);subst y;rw [Za4,Za4]
   cases hA:blk A with
   | none=>exact .inl rfl
   | some b=>
    right
    intro e
    have:=(z.lt b hA).2;have:=(p.lt b e.symm).1;omega
  ·rw [if_neg e] at a;exact P i j H v I (by omega) r a
theorem OutK.done {w:World} {q B b:Nat} {sh:List (List Int)} (h:OutK w q B b sh b) (e:B≤q) (d:sh.length=b):OutSh w B q sh:=by
 obtain ⟨f,g,y,k,m⟩:=h;refine ⟨f,g,e,by omega,fun j v l a d => ?_,fun i j n v p r a=>m i j n v p (by have:=(Kaf.1 a).1;omega) r a⟩
 obtain ⟨s,A,c,t,x,_⟩:=k j v l (by have:=(Kaf.1 a).1;omega) a d
 exact ⟨s,A,c,t,x⟩
theorem Zi3 (T z:Option Addr) (n a I ec:Nat) (ss:List SI) (es:List EI) (w:World) (g9:n=ss.length) (h1:a=es.length) (x2:n≤100000) (e7:a≤100000)
  (V:RdSI w w.heap.size T ss) (h3:RdEI w w.heap.size z es) (h5:ETyped w):
  Calls Tryz.prog 51 #[.agg #[.slice T n I,.slice z a ec]] w (ZgO w a (ZaA ss es)):=by
 obtain ⟨w2,e8⟩:=Ky (w.alloc (.cells #[.slice T n I,.slice z a ec] 26));have f6:=Kv e8;have h7:=Kw e8;have d0:=Kz h5.lt;have h9:=Kz e8;have i2:=Kz f6;have i3:=Kz g9;have b5:=Kz h1;have H1:=Kz V;have H3:=Kz h3;have m9:=Kz h5;have d1:=Kz (Zkf T z n a I ec ss es w2 g9 h1 ⟨by omega,by omega⟩ (V.next f6) (h3.next f6))
 have n0:=Kz (fun d2 (i4:Below w2.heap.size w2 d2)=>(i4.block _ (Kab.1 h7).1).trans h7)
 clear e8 f6 h7 g9 h1 V h3 h5
 cases htr:treeP ss es with
 | false=>
  rw [htr] at d1;have q9:=Kz (show ZaA ss es=.inr (130,0) from by unfold ZaA;rw [htr];rfl)
  clear htr
  go_enter Tryz.func51,Tryz.ntmps51
  go_wp2_with fail
  rw [←h9.o];refine d1.o.mono ?_
  rintro e w3 ⟨rfl,b6⟩
  have a3:=Kz (bnext i2.o b6);have i5:=Kz (m9.o.far d0.o a3.o);clear b6
  go_wp2_with (go_at_call 94;refine (Zb8 130 0 _ i5.o).mono ?_;rintro e w6 ⟨P,rfl,x,c⟩)
  go_ret2;refine ⟨bnext a3.o c,?_⟩;rw [q9.o];exact ⟨P,rfl,x⟩
 | true=>
  rw [htr] at d1;have r0:=Kz htr;have r2:=Kz (show exsOk 0 es=true from by unfold treeP at htr;rw [Bool.and_eq_true] at htr;exact htr.1)
  have r4:=Kz (show ∀ b7∈ss,smOk a b7=true from by unfold treeP at htr;rw [Bool.and_eq_true,List.all_eq_true] at htr;rw [b5.o];exact htr.2)
  clear htr
  go_enter Tryz.func51,Tryz.ntmps51
  go_wp2_with fail
  rw [←h9.o];refine d1.o.mono ?_
  rintro e w3 ⟨rfl,b6⟩
  have d3:=n0.o _ b6;have z0:=Kaa 0 d3;have z1:=Kaa 1 d3;have a3:=Kz (bnext i2.o b6);have n1:=Kz d3;have r5 := @run_makeMap Tryz.prog;have n2:w.heap.size<w3.heap.size:=(Kab.1 d3).1;have r6:w.heap.size≠w3.heap.size:=by omega
  have r7:w.heap.size≠w3.heap.size+1:=by omega
  have i6:=fun d2=>Zc1 a (by omega) d2 (a:Int) rfl
  clear b6 d3
  go_wp2_with fail
  go_cut [4] (fun b7 r8=>CkNew w3 w.heap.size T z n I a ec (es.map fun _=>[]) b7 r8)
  case first=>
   go_region
   all_goals
    go_wp2_with fail
    go_meet
    first
     | (obtain ⟨t0,t1,t2,i7⟩:=ZcI w3 (.map #[] 0) (.cells (Array.replicate a (Value.slice none 0 0)) 41) (.cells #[.slice T n I,.slice z a ec,.map (some w3.heap.size),.slice (some ⟨w3.heap.size+1,0,none⟩) a a] 185);exact cknew b5.o a3.o.size (by omega) (by omega) (by omega) (by omega) (by omega) (by omega) t2 t0 t1 i7)
     | (obtain ⟨t0,t1,t2,i7⟩:=ZcI w3 (.cells (Array.replicate a (Value.slice none 0 0)) 41) (.map #[] 0) (.cells #[.slice T n I,.slice z a ec,.map (some (w3.heap.size+1)),.slice (some ⟨w3.heap.size,0,none⟩) a a] 185);exact cknew b5.o a3.o.size (by omega) (by omega) (by omega) (by omega) (by omega) (by omega) t2 t1 t0 i7)
  case rest=>
   obtain ⟨D,g,E,rfl,b8,a0⟩:=hcut;obtain ⟨w5,i8⟩:=Ky wc;rw [←i8];rw [←i8] at b8 a0;have n3:=(a0.block _ n2).trans n1.o;have z5:=Kaa 0 n3;have n4:=Kz b8;have d4:=Kz (bnext a3.o a0);clear i8 z0 z1 n3 b8 a0 r5 i6 r6 r7 n2
   go_wp2
   clear z5;have n5:=Kz (show ZaA ss es=Zaj es ss [] (es.map fun _=>[]) 0 from by unfold ZaA;rw [r0.o];rfl)
   have d5:=Kz (show ∀ (b:World),Below w.heap.size w b→RdSI b w.heap.size T ss∧RdEI b w.heap.size z es∧ETyped b from fun b h=>⟨H1.o.below h,H3.o.below h,m9.o.far d0.o h⟩)
   clear a3 n1 d1 n0 h9 i2
   go_loopw [5,28] (fun r9 a4 wr=>∃ (k v:Nat) (l:Names) (i:List (List Int)),k≤n∧a4=.int .i64 k∧r9=.int .i64 v∧v≤k∧Zaj es ss [] (es.map fun _=>[]) 0=Zaj es (ss.drop k) l i v∧CkSt wr w.heap.size D g E T z n I a ec l i∧Below w.heap.size w wr) (fun _ a4 _=>n-(intOf a4).toNat)
   case atStart=>exact ⟨0,0,[],_,by omega,rfl,rfl,by omega,rfl,n4.o,d4.o⟩
   case round=>
    clear n4 d4;obtain ⟨k,v,l,i,x3,rfl,rfl,x4,n6,b8,i9⟩:=hrel;have n7:=Kz n6;have W:=Kz b8;have a5:=Kz i9;obtain ⟨r1,r3,n8⟩:=d5.o _ i9;clear n6 b8 i9
    by_cases j2:k<n
    ·have d6:ss[k]?=some (ss[k]'(by rw [←i3.o];exact j2)):=Kad _
     obtain ⟨j3,n9⟩:=Ky (ss[k]'(by rw [←i3.o];exact j2))
     rw [←n9] at d6;have f7:=r4.o j3 (Kam d6);have X:=Kz (show Zaj es ss [] (es.map fun _=>[]) 0=Zaj es (j3::ss.drop (k+1)) l i v from by
      rw [n7.o];obtain ⟨o0,j4⟩:=Kaf.1 d6;rw [List.drop_eq_getElem_cons o0,j4])
     obtain ⟨b9,o,rfl,s0,c0,c1,c2,⟨N,Q,c3,o1,j5,j6,s1⟩,c4,c5⟩:=r1.at_ d6;have i0:(0:Int)≤(k:Int):=by omega
     have i1:(k:Int)<(n:Int):=by omega
     obtain ⟨d7,B,y,J,Y,q⟩:=j3;dsimp only at c0 c1 c2 c3 o1 j5 j6 c4 c5;obtain ⟨a6,j7⟩:=Ky J.length;rw [←j7] at c3 j5 j6;obtain ⟨w4,f8⟩:=Ky (wr.alloc (.cells #[.int .i64 d7,.int .i64 B,.string y,.slice N a6 Q,.int .i64 Y,.int .i64 q] 93));have b4:=Kv f8;have R:=Kw f8;have j8:=Kz f8;have a7:=Kz (W.o.next b4);have a1:=Kz (bnext a5.o b4);have o2:=Kz (show RdX (ckX D g E) w4 N (J.map VI) from by
      rcases o1 with h | ⟨b3,o3,e3,h3,s2⟩
      ·exact .inl h
      ·have o4:=a5.o.size;exact .inr ⟨b3,o3,e3,Kae (Kae h3 o4) b4.size,fun O=>absurd (W.o.ge _ O) (by omega),fun j c6 S=>(b4.cell (p:=⟨b3,_,none⟩) (Kae h3 o4)).trans (s2 j c6 S)⟩)
     obtain ⟨F,j9⟩:=Ky wr.heap.size;rw [←j9] at R;have k5:=Kz (And.intro j9 R);have a8:¬ ckX D g E F:=fun O=>by have:=W.o.lt _ O;omega
     have a9:F<w4.heap.size:=(Kab.1 R).1;have o5:∀ (b:World),KeepX (ckX D g E) w4 b→b.cell? ⟨F,0,none⟩=some (.int .i64 d7)∧b.cell? ⟨F,1,none⟩=some (.int .i64 B)∧b.cell? ⟨F,2,none⟩=some (.string y)∧b.cell? ⟨F,3,none⟩=some (.slice N a6 Q)∧b.cell? ⟨F,4,none⟩=some (.int .i64 Y)∧b.cell? ⟨F,5,none⟩=some (.int .i64 q):=fun b h=>
      ⟨(h.2 ⟨F,0,none⟩ a9 a8).trans (Kaa 0 R),(h.2 ⟨F,1,none⟩ a9 a8).trans (Kaa 1 R),(h.2 ⟨F,2,none⟩ a9 a8).trans (Kaa 2 R),(h.2 ⟨F,3,none⟩ a9 a8).trans (Kaa 3 R),(h.2 ⟨F,4,none⟩ a9 a8).trans (Kaa 4 R),(h.2 ⟨F,5,none⟩ a9 a8).trans (Kaa 5 R)⟩
     have d8:=Kz o5;have d9:=Kz (d5.o _ a1.o).2.2;have k6:=Kz j7;have b0:=Kz (show ∀ (c7:Nat) (p:Int) (P:Value) (w6:World),Zaj es ss [] (es.map fun _=>[]) 0=.inr (c7,p)→IsErr w6 P [(chkN,p)] c7→Below w.heap.size w4 w6→ZgO w a (ZaA ss es) (.returned (.tuple #[.slice none 0 0,P])) w6 from fun c7 p P w6 h j4 c=>by
      refine ⟨a1.o.trans c,?_⟩;rw [n5.o,h];exact ⟨P,rfl,j4⟩)
     have f9:=Kz a1.o.size;clear d6 n9 r3 n8 b4 R j9 j7 o5 f8 a8 a9 s0;have s3:d7=1∨d7=3∨d7=2∧0≤Y∧Y<(a:Int):=by
      unfold smOk at f7;simp only [Bool.or_eq_true,Bool.and_eq_true,beq_iff_eq,decide_eq_true_eq] at f7;rcases f7 with (h | h) | h
      ·exact .inl h
      ·exact .inr (.inl h)
      ·exact .inr (.inr ⟨h.1.1,h.1.2,h.2⟩)
     clear f7;rcases s3 with rfl | rfl | ⟨rfl,s4,s5⟩
     ·have C:=Kz (ZeN (es:=es) (s:=⟨1,B,y,J,Y,q⟩) (ss.drop (k+1)) l i v rfl);dsimp only at C
      go_upto_region 11 with (fail)
      rw [←j8.o,←k5.o.1];obtain ⟨f0,f1,f2,f3,f4,f5⟩:=d8.o _ (KeepX.of (Kai _ w4))
      by_cases e0:B=0∨B=1
      ·have e1:=Kz (ZcE N a6 Q J w4 k6.o j5 o2.o.rd);obtain ⟨el,b1⟩:=Ky (Zad J);rw [←b1] at e1
       by_cases h0:el=0
       ·subst h0;have m:=Kz (show Zaj es ss [] (es.map fun _=>[]) 0=.inr (141,q) from by rw [X.o,C.o,if_pos (.inr b1.symm)])
        clear b1 c0 c1 c2 c3 c4 c5;rcases e0 with rfl | rfl
        all_goals
         go_wp2_with (first
          | (go_at_call 73;refine e1.o.mono ?_;rintro e b ⟨rfl,rfl⟩)
          | (go_at_call 94;refine (Zb8 141 q _ d9.o).mono ?_;rintro e w6 ⟨P,rfl,x,c⟩))
         go_ret2;exact b0.o _ _ _ _ m.o x (c.mono f9.o)
       ·have q0:(el==0)=false:=by rw [Kaj];exact h0
        have e7:J.length≤2:=ZaX (by rw [←b1];exact h0)
        have o6:ShV (ckX D g E) w4 (.slice N a6 Q) J:=⟨N,Q,by rw [k6.o],by rw [←k6.o];exact j6,s1,e7,o2.o⟩
        have e2:=ZgQ w.heap.size D g E (some ⟨b9,o,none⟩) z n I a ec l i 1 B Y q y (.slice N a6 Q) (.slice N a6 Q) J w4 d9.o d0.o a7.o o6 (by rw [←b1];exact h0)
        have k7:=Kz (show ¬ ((B≠0∧B≠1)∨Zad J=0) from by rw [←b1];omega)
        have e4:=Kz e2;clear b1 h0 e7 o6 e2 c0 c1 c2 c3 c4 c5
        cases htk:ZaC l y with
        | true=>
         have m:=Kz (show Zaj es ss [] (es.map fun _=>[]) 0=.inr (140,q) from by rw [X.o,C.o,if_neg k7.o,htk];rfl)
         have a2:=Kz (e4.o.mono (fun e b (h:Zdc _ _ _ _ _ _ _ _ _ _ _ _ _ _ _ _ e b)=>show Below w.heap.size w4 b∧∃ r s,e=.returned (.iface r s)∧IsErr b (.iface r s) [(chkN,q)] 140 from by
          obtain ⟨g1,M,d⟩:=h;rw [htk] at d;obtain ⟨c6,rfl,S⟩:=d;obtain ⟨r,s,rfl⟩:=S.iface;exact ⟨M,r,s,rfl,S⟩))
         clear htk;rcases e0 with rfl | rfl
         all_goals
          go_wp2_with (first
           | (go_at_call 73;refine e1.o.mono ?_;rintro e b ⟨rfl,rfl⟩)
           | (go_at_call 95;refine a2.o.mono ?_;rintro e w6 ⟨c,r,s,rfl,x⟩))
          go_ret2;exact b0.o _ _ _ _ m.o x c
        | false=>
         have a2:=Kz (e4.o.mono (fun e b (h:Zdc _ _ _ _ _ _ _ _ _ _ _ _ _ _ _ _ e b)=>show KeepX (ckX D g E) w4 b∧Below w.heap.size w4 b∧e=.returned .nilIface∧CkSt b w.heap.size D g E (some ⟨b9,o,none⟩) z n I a ec (l++[(y,J)]) i from by
          obtain ⟨g1,M,d⟩:=h;rw [htk] at d;exact ⟨g1,M,d.1,d.2⟩))
         have o7:=Kz htk;clear htk
         by_cases h8:8≤v
         ·have q8:decide ((8:Int)<(v:Int)+1)=true:=by simp;omega
          have m:=Kz (show Zaj es ss [] (es.map fun _=>[]) 0=.inr (5,q) from by rw [X.o,C.o,if_neg k7.o,o7.o,if_pos h8];rfl)
          clear h8;rcases e0 with rfl | rfl
          all_goals
           go_wp2_with (first
            | (go_at_call 73;refine e1.o.mono ?_;rintro e b ⟨rfl,rfl⟩)
            | (go_at_call 95;refine a2.o.mono ?_;rintro e w6 ⟨g0,c,rfl,b2⟩;obtain ⟨m0,m1,m2,m3,m4,m5⟩:=d8.o _ g0;have Z:=Kz c;have s6:=Kz (d5.o _ (a1.o.trans c)).2.2;clear g0 c b2)
            | (go_at_call 94;refine (Zb8 5 q _ s6.o).mono ?_;rintro e x5 ⟨P,rfl,x,s7⟩;obtain ⟨r,s,rfl⟩:=x.iface))
           go_ret2;exact b0.o _ _ _ _ m.o x (Z.o.trans (s7.mono (Kah f9.o Z.o.size)))
         ·have q8:decide ((8:Int)<(v:Int)+1)=false:=by simp;omega
          have m:=Kz (show Zaj es ss [] (es.map fun _=>[]) 0=Zaj es (ss.drop (k+1)) (l++[(y,J)]) i (v+1) from by rw [X.o,C.o,if_neg k7.o,o7.o,if_neg h8];rfl)
          clear h8;rcases e0 with rfl | rfl
          all_goals
           go_wp2_with (first
            | (go_at_call 73;refine e1.o.mono ?_;rintro e b ⟨rfl,rfl⟩)
            | (go_at_call 95;refine a2.o.mono ?_;rintro e w6 ⟨g0,c,rfl,b2⟩;have Z:=Kz (a1.o.trans c);have k8:=Kz b2;clear g0 c b2))
           exact ⟨⟨k+1,v+1,_,_,by omega,rfl,rfl,by omega,m.o,k8.o,Z.o⟩,by simp [intOf];omega⟩
      ·have p0:(B==0)=false:=by rw [Kaj];omega
       have p1:(B==1)=false:=by rw [Kaj];omega
       have p2:(B != 0)=true:=by unfold bne;rw [p0];rfl
       have p3:(B != 1)=true:=by unfold bne;rw [p1];rfl
       have m:=Kz (show Zaj es ss [] (es.map fun _=>[]) 0=.inr (141,q) from by rw [X.o,C.o,if_pos (.inl (by omega))])
       clear e0 c0 c1 c2 c3 c4 c5
       go_wp2_with (go_at_call 94;refine (Zb8 141 q _ d9.o).mono ?_;rintro e w6 ⟨P,rfl,x,c⟩)
       go_ret2;exact b0.o _ _ _ _ m.o x (c.mono f9.o)
     ·have C:=Kz (ZeP (es:=es) (s:=⟨3,B,y,J,Y,q⟩) (ss.drop (k+1)) l i v rfl);dsimp only at C
      go_upto_region 22 with (fail)
      rw [←j8.o,←k5.o.1];obtain ⟨f0,f1,f2,f3,f4,f5⟩:=d8.o _ (KeepX.of (Kai _ w4));have M:=Kaa 2 a7.o.hc;obtain ⟨o8,k9,c8⟩:=a7.o.hn;have o9:=fun p4=>Zbn (w:=w4.drewN p4) (show NamM (w4.drewN p4) g o8 from k9) y
      clear c0 c1 c2 c3 c4 c5;rcases c8.find y with ⟨V,h2⟩ | ⟨x6,s8,V,h2,h3,h4⟩
      ·have m:=Kz (show Zaj es ss [] (es.map fun _=>[]) 0=.inr (140,q) from by rw [X.o,C.o,h2];rfl)
       simp only [V] at o9;clear V h2 k9 c8
       go_quiet (fail)
       go_wp2_with (go_at_call 94;refine (Zb8 140 q _ (d9.o.drewN _)).mono ?_;rintro e w6 ⟨P,rfl,x,c⟩;obtain ⟨r,s,rfl⟩:=x.iface)
       go_ret2;exact b0.o _ _ _ _ m.o x (((Zaa (Kai _ _) _).trans c).mono f9.o)
      ·have m:=Kz (show Zaj es ss [] (es.map fun _=>[]) 0=Zaj es (ss.drop (k+1)) l i v from by rw [X.o,C.o,h2];rfl)
       obtain ⟨x7,x8,rfl,-⟩:=h3;simp only [V] at o9;clear V h2 h4 k9 c8
       go_quiet (fail)
       go_wp2
       exact ⟨⟨k+1,v,_,_,by omega,rfl,rfl,by omega,m.o,a7.o.drewN _,Zaa a1.o _⟩,by simp [intOf];omega⟩
     ·obtain ⟨H,rfl⟩:∃ s9:Nat,Y=(s9:Int):=⟨Y.toNat,by omega⟩
      have l0:H<a:=by omega
      have C:=Kz (ZeO (es:=es) (s:=⟨2,B,y,J,(H:Int),q⟩) (ss.drop (k+1)) l i v rfl);dsimp only at C;rw [Int.toNat_natCast] at C;have p5:=Zky w.heap.size D g E (some ⟨b9,o,none⟩) z n I a ec es l i H w4 b5.o l0 e7 (d5.o _ a1.o).2.1 r2.o d9.o d0.o a7.o;have p6:=Kz p5;clear p5
      go_upto_region 18 with (fail)
      rw [←j8.o,←k5.o.1];obtain ⟨f0,f1,f2,f3,f4,f5⟩:=d8.o _ (KeepX.of (Kai _ w4));clear c0 c1 c2 c3 c4 c5 s4 s5
      cases O:Zay es (Zac es H) l (H+1) 0 i with
      | inr cp=>
       obtain ⟨c7,p⟩:=cp;have m:=Kz (show Zaj es ss [] (es.map fun _=>[]) 0=.inr (c7,p) from by rw [X.o,C.o,O])
       have l1:=Kz (p6.o.mono (fun e b (h:ZeQ _ _ _ _ _ _ _ _ _ _ _ _ _ e b)=>show Below w.heap.size w4 b∧∃ r s,e=.returned (.iface r s)∧IsErr b (.iface r s) [(chkN,p)] c7 from by
        obtain ⟨g1,M,d⟩:=h;rw [O] at d;obtain ⟨c6,rfl,S⟩:=d;obtain ⟨r,s,rfl⟩:=S.iface;exact ⟨M,r,s,rfl,S⟩))
       clear O
       go_wp2_with (go_at_call 96;refine l1.o.mono ?_;rintro e w6 ⟨c,r,s,rfl,x⟩)
       go_ret2;exact b0.o _ _ _ _ m.o x c
      | inl sh'=>
       have l1:=Kz (p6.o.mono (fun e b (h:ZeQ _ _ _ _ _ _ _ _ _ _ _ _ _ e b)=>show KeepX (ckX D g E) w4 b∧Below w.heap.size w4 b∧e=.returned .nilIface∧CkSt b w.heap.size D g E (some ⟨b9,o,none⟩) z n I a ec l sh' from by
        obtain ⟨g1,M,d⟩:=h;rw [O] at d;exact ⟨g1,M,d.1,d.2⟩))
       obtain ⟨o8,-,c8⟩:=a7.o.hn;obtain ⟨g2,-,-,e5,-⟩:=a7.o.hs;have t3:=Kz (ZcJ c8.ok (ZaI es H) (by rw [←b5.o];exact l0) (H+1) 0 i sh' (by omega) (by omega) (by rw [e5,b5.o]) O)
       have p7:=Kz (show Zaj es ss [] (es.map fun _=>[]) 0=if ZaC l y then .inr (140,q) else Zaj es (ss.drop (k+1)) (l++[(y,sh'.getD H [])]) sh' v from by rw [X.o,C.o,O])
       clear O c8 e5
       go_upto_region 20 with (go_at_call 96;refine l1.o.mono ?_;rintro e w5 ⟨l2,l3,rfl,g3⟩)
       clear f0 f1 f2 f3 f4 f5;obtain ⟨f0,f1,f2,f3,f4,f5⟩:=d8.o _ l2;have d:=Kaa 3 g3.hc;obtain ⟨l4,l5,g4,l6,-,g5⟩:=g3.shape l0;have d4:=Kz (a1.o.trans l3);have t4:=Kz l3;have x9:=Kz l2;have j0:(0:Int)≤(H:Int):=by omega
       have j1:(H:Int)<(a:Int):=by omega
       have e2:=ZgQ w.heap.size D g E (some ⟨b9,o,none⟩) z n I a ec l sh' 2 B (H:Int) q y (.slice N a6 Q) (.slice l4 g4 l5) (sh'.getD H []) (w5.drewN 1) ((d5.o _ d4.o).2.2.drewN 1) d0.o (g3.drewN 1) (g5.keep (Zag _ _ _)) t3.o;have e4:=Kz e2;clear e2 g5 l2 l3 g3
       cases htk:ZaC l y with
       | true=>
        have m:=Kz (show Zaj es ss [] (es.map fun _=>[]) 0=.inr (140,q) from by rw [p7.o,htk];rfl)
        have a2:=Kz (e4.o.mono (fun e b (h:Zdc _ _ _ _ _ _ _ _ _ _ _ _ _ _ _ _ e b)=>show Below w.heap.size (w5.drewN 1) b∧∃ r s,e=.returned (.iface r s)∧IsErr b (.iface r s) [(chkN,q)] 140 from by
         obtain ⟨g1,M,d⟩:=h;rw [htk] at d;obtain ⟨c6,rfl,S⟩:=d;obtain ⟨r,s,rfl⟩:=S.iface;exact ⟨M,r,s,rfl,S⟩))
        clear htk
        go_wp2_with fail
        go_region_with (first
         | (go_at_call 95;refine a2.o.mono ?_;rintro e w6 ⟨c,r,s,rfl,x⟩))
        all_goals
         go_wp2
         go_ret2;exact b0.o _ _ _ _ m.o x ((Zaa t4.o 1).trans c)
       | false=>
        have m:=Kz (show Zaj es ss [] (es.map fun _=>[]) 0=Zaj es (ss.drop (k+1)) (l++[(y,sh'.getD H [])]) sh' v from by rw [p7.o,htk];rfl)
        have a2:=Kz (e4.o.mono (fun e b (h:Zdc _ _ _ _ _ _ _ _ _ _ _ _ _ _ _ _ e b)=>show Below w.heap.size (w5.drewN 1) b∧e=.returned .nilIface∧CkSt b w.heap.size D g E (some ⟨b9,o,none⟩) z n I a ec (l++[(y,sh'.getD H [])]) sh' from by
         obtain ⟨g1,M,d⟩:=h;rw [htk] at d;exact ⟨M,d.1,d.2⟩))
        clear htk
        go_wp2_with fail
        go_region_with (first
         | (go_at_call 95;refine a2.o.mono ?_;rintro e w6 ⟨c,rfl,b2⟩))
        all_goals
         have Z:=Kz ((Zaa d4.o 1).trans c);have k8:=Kz b2;clear c b2
         go_wp2
         exact ⟨⟨k+1,v,_,_,by omega,rfl,rfl,by omega,m.o,k8.o,Z.o⟩,by simp [intOf];omega⟩
    ·obtain rfl:k=n:=by omega
     have m:=Kz (show ZaA ss es=.inl i from by
      rw [n5.o,n7.o,i3.o,List.drop_length];rfl)
     obtain ⟨L,p8⟩:=Ky wr;rw [←p8] at W a5 ⊢;have e5:i.length=a:=by obtain ⟨_,_,_,h,_⟩:=W.o.hs;exact h
     have d:=Kaa 3 W.o.hc;have i5:=Kz (fun d2 (i4:Below L.heap.size L d2)=>(i4.cell (p:=⟨D,3,none⟩) (W.o.lt _ (.inl rfl))).trans d)
     obtain ⟨W6,g6⟩:=Ky (L.alloc (.cells (List.replicate a (Value.slice none 0 0)).toArray 41));have i6:(Instr.makeSlice 51 (.int .i64 (a:Int)) (.int .i64 (a:Int))).run Tryz.prog L=.ok (.slice (some ⟨L.heap.size,0,none⟩) a a) W6:=by
      rw [g6];exact Zc1 a (by omega) L (a:Int) rfl
     have h6:=Kw g6;have c:=Kv g6;have p9:OutK W6 L.heap.size w.heap.size a i 0:=⟨_,h6,by simp,fun j c6 s8 l7=>by omega,fun y0 j u c6 o0 l7=>by omega⟩
     have l8:=Kz p9;have Z:=Kz c;have q1:=Kz e5;clear g6 h6 c p9 p8 e5 r1 r3 n8 j2
     go_wp2
     clear d i6
     go_loopw [117] (fun a4 wr=>∃ j:Nat,j≤a∧a4=.int .i64 j∧Below L.heap.size L wr∧L.heap.size<wr.heap.size∧OutK wr L.heap.size w.heap.size a i j) (fun a4 _=>a-(intOf a4).toNat)
     case atStart=>exact ⟨0,by omega,rfl,Z.o,by obtain ⟨_,h,_⟩:=l8.o;exact (Kab.1 h).1,l8.o⟩
     case round=>
      clear l8 Z;obtain ⟨j,l7,rfl,a0,t5,hK⟩:=hrel;have d:=i5.o _ a0;have g7:=Kz a0;have q2:=Kz hK;clear a0
      by_cases g8:j<a
      ·obtain ⟨l4,l5,g4,l6,l9,g5⟩:=W.o.shape g8;have y1:=(g7.o.cell (p:=⟨E,j,none⟩) (W.o.lt _ (.inr (.inr rfl)))).trans l6;obtain ⟨A9,c9,e9,v1,v2,v3,v4⟩:=g5.next g7.o;injection e9 with e9 t6 t7
       subst e9 t7;have q3:=ZdH l4 g4 l5 (i.getD j []) wr l9 (by omega) v4.rd
       have t8:=Kz q3;have q4:i[j]?=some (i.getD j []):=by
        have:j<i.length:=by rw [q1.o];exact g8
        rw [List.getD_eq_getElem?_getD,Kad this];rfl
       have t9:=Kz q4;have v0:=Kz l9;have v5:=Kz v3;obtain ⟨g2,k1,k2,k3,k4⟩:=hK;have v6:=Kz k1;have k0:(0:Int)≤(j:Int):=by omega
       have y2:(j:Int)<(a:Int):=by omega
       have m6:g2[j]?=some (g2[j]'(by omega)):=Kad _
       obtain ⟨v7,q5⟩:=Ky (g2[j]'(by omega))
       rw [←q5] at m6;have v8:=Kz m6;have q6:=Kz t5;clear q3 q4 l9 v1 v2 v3 v4 k1 k2 k3 k4 m6 q5 l6 t6
       go_wp2_with (go_at_call 55;refine t8.o.mono ?_;rintro e m7 ⟨N,Q,rfl,q7,e6⟩;have m8:=(e6.block _ q6.o).trans v6.o;have y3:m7.cell? ⟨L.heap.size,j,none⟩=some v7:=(by rw [cell_of_row m7 _ j _ _ (0,0) m8];simpa using v8.o);have y4:m7.frozen? ⟨L.heap.size,j,none⟩=false:=(by simp [World.frozen?,m8]);have v9:=Kz (q2.o.step q6.o a5.o.size e6 q7 t9.o v5.o g8);have x0:=Kz (Zaf (k:=j) (bnext g7.o e6) (Kag _) (.slice N g4 Q));have x1:=Kz e6.size;clear q7 e6 m8)
       exact ⟨⟨j+1,by omega,rfl,x0.o,by have:=x1.o;simp [World.setCell];omega,by rw [v0.o];exact v9.o⟩,by simp [intOf];omega⟩
      ·obtain rfl:a=j:=by omega
       clear l7 g8 d
       go_wp2
       go_ret2;refine ⟨a5.o.trans (g7.o.mono a5.o.size),?_⟩;rw [m.o];exact ⟨_,rfl,q2.o.done a5.o.size q1.o⟩
end Go.Proofs.YtghlnncfigkkaaaGreatDoor
