/-
 The dag laws' fixed fact: twainlaw16.awake answers true.
-/
import Derived.Test.YtghlnncfigkkaaaGreatDoorQDgI
import Derived.Test.YtghlnncfigkkaaaGreatDoorQDjD
import Derived.Test.YtghlnncfigkkaaaGreatDoorQTreeB
import Derived.Test.YtghlnncfigkkaaaGreatDoorQParM
set_option maxRecDepth 100000
set_option maxHeartbeats 4000000
set_option linter.unusedVariables false
set_option linter.unusedSimpArgs false
namespace Go.Proofs.YtghlnncfigkkaaaGreatDoor
open Go.RowKit
def dawA:ByteArray:={ data:=#[105,110,112,117,116,32,48,32,120,32,91,93,59,32,108,101,116,32,121,32,61,32,120,32,43,32,40,50,32,43,32,51,41,59,32,108,101,116,32,122,32,61,32,120,32,43,32,53,59,32,111,117,116,112,117,116,32,122,59] }
theorem dawA_scan:scanM dawA=.toks (toksE (scanM dawA)):=by kernel_rfl
theorem dawA_len:(toksE (scanM dawA)).length≤160:=by exact Nat.le_of_ble_eq_true (by kernel_rfl)
theorem dawA_err:(Zao 2000 (toksE (scanM dawA))).err=none:=by kernel_rfl
theorem dawA_ss:(ssE dawA).length=4:=by kernel_rfl
theorem dawA_es:(esE dawA).length=8:=by kernel_rfl
theorem dawA_num:(esE dawA).all (fun e=>decide (e.num≤18446744073709551615))=true:=by kernel_rfl
theorem dawA_shp:(ssE dawA).all (fun s=>decide (s.shape.length≤1000000))=true:=by kernel_rfl
def dawG (r:Sum (List ND × List Nat) Nat):List ND × List Nat:=match r with | .inl g=>g | .inr _=>([],[])
def dawG0:List ND × List Nat:=dawG (buildD false false false (ssE dawA) (esE dawA))
def dawG1:List ND × List Nat:=dawG (buildD true true true (ssE dawA) (esE dawA))
theorem dawA_b0:buildD false false false (ssE dawA) (esE dawA)=.inl dawG0:=by kernel_rfl
theorem dawA_b1:buildD true true true (ssE dawA) (esE dawA)=.inl dawG1:=by kernel_rfl
theorem dawA_n0:dawG0.1.length=7:=by kernel_rfl
theorem dawA_n1:dawG1.1.length=3:=by kernel_rfl
theorem dawA_k1:(dawG1.1[1]?).map ND.kind=some 2:=by kernel_rfl
theorem dawA_o1:dawG1.2=[2]:=by kernel_rfl
theorem dawA_num':∀ e∈esE dawA,e.num≤18446744073709551615:=fun e he=>of_decide_eq_true (List.all_eq_true.1 dawA_num e he)
theorem dawA_shp':∀ s∈ssE dawA,s.shape.length≤1000000:=fun s hs=>of_decide_eq_true (List.all_eq_true.1 dawA_shp s hs)
attribute [irreducible] dawG0 dawG1
theorem dawake_true (w:World) (hg:ETyped w) (ht:ErrT w):Calls Tryz.prog 33 #[] w fun e w'=>e=.returned (.bool true)∧Below w.heap.size w w':=by
 have HG:=Kz hg
 have HT:=Kz ht
 clear hg ht
 go_enter Tryz.func33,Tryz.ntmps33
 go_wp2_with fail
 refine (Znn dawA w HG.o HT.o (by decide) dawA_scan dawA_len dawA_err).mono ?_
 rintro e w1 ⟨b1,SA,sc,EA,ec,ns,ne,rfl,hns,hne,hS,hE⟩
 rw [dawA_ss] at hns
 rw [dawA_es] at hne
 subst hns hne
 have HG1:=Kz (HG.o.next b1)
 have HB1:=Kz b1
 have HS1:=Kz hS
 have HE1:=Kz hE
 have HBD:=Kz (show ∀ (W:World) (f s d:Bool),Below w1.heap.size w1 W→Calls Tryz.prog 34 #[.agg #[.slice SA 4 sc,.slice EA 8 ec],.agg #[.bool f,.bool s,.bool d]] W (BuildOut W (ssE dawA) (buildD f s d (ssE dawA) (esE dawA))) from fun W f s d hW=>
  build_any SA EA 4 8 sc ec (ssE dawA) (esE dawA) f s d W dawA_ss.symm dawA_es.symm (by omega) (by omega) (HS1.o.next hW) (HE1.o.next hW) (HG1.o.next hW) dawA_num' dawA_shp')
 clear b1 hS hE
 go_wp2_with fail
 obtain ⟨w2,hw2⟩:=Ky (w1.alloc (.cells #[.slice SA 4 sc,.slice EA 8 ec] 26))
 rw [←hw2]
 have hb2:=Kv hw2
 have HTB:=Kz (show w2.heap[w1.heap.size]?=some (.cells #[.slice SA 4 sc,.slice EA 8 ec] 26 (0,0)) from by rw [hw2];exact Kac w1 _)
 have HB2:=Kz hb2
 have H0:=HBD.o w2 false false false hb2
 rw [dawA_b0] at H0
 refine H0.mono ?_
 clear H0 hw2 hb2
 rintro e w3 hb
 obtain ⟨b3,NA,nc,ms,OA,oc,A0,n0,c0,A1,n1,c1,B,rfl,-,hfst,-,-,-,-⟩:=hb.ok
 have hl:ms.length=7:=by have:=congrArg List.length hfst;rwa [Kak,dawA_n0] at this
 rw [hl]
 obtain ⟨on,hon⟩:=Ky dawG0.2.length
 rw [←hon]
 have HB3:=Kz (bnext HB2.o b3)
 have HT3:=Kz ((b3.block _ (Kab.1 HTB.o).1).trans HTB.o)
 clear hb b3 hfst hl hon HTB
 go_upto_region 5 with fail
 obtain ⟨w4,hw4⟩:=Ky (w3.alloc (.cells #[.slice NA 7 nc,.slice OA on oc,.slice A0 n0 c0,.slice A1 n1 c1] 68))
 obtain ⟨ga,hga⟩:=Ky w3.heap.size
 rw [←hw4,←hga]
 have hb4:=Kv hw4
 have HG4:=Kz (Kx hw4 hga)
 have HB4:=Kz (bnext HB3.o hb4)
 have hT4:=(hb4.block _ (Kab.1 HT3.o).1).trans HT3.o
 have z0:=Kaa 0 hT4
 have z1:=Kaa 1 hT4
 have H1:=HBD.o w4 true true true HB4.o
 rw [dawA_b1] at H1
 have H1:=Kz H1
 clear hw4 hga hb4 hT4
 go_upto_region 6 with (go_at_call 34;refine H1.o.mono ?_;rintro e w5 hb;obtain ⟨b5,NB,nd,mt,OB,od,C0,m0,d0,C1,m1,d1,B',rfl,-,hfst2,hr,ho,-,-⟩:=hb.ok)
 have hl2:mt.length=3:=by have:=congrArg List.length hfst2;rwa [Kak,dawA_n1] at this
 rw [dawA_o1] at ho ⊢
 rw [hl2]
 obtain ⟨m,hm⟩:∃ m,mt[1]?=some m:=⟨mt[1]'(by omega),Kad (by omega)⟩
 have hk1:m.1.kind=2:=by
  have h:=dawA_k1
  rw [←hfst2,Kal,hm] at h
  simpa using h
 obtain ⟨q,hNB,hql,hc,hv⟩:=hr.at_ hm
 subst hNB
 obtain ⟨b,p,hOB,hbl,e1⟩:=ho.rd.at_ (show (([2]:List Nat).map VNt)[0]?=some (VNt 2) from rfl)
 subst hOB
 obtain ⟨w6,hw6⟩:=Ky (w5.alloc (.cells #[.slice (some ⟨q,0,none⟩) 3 nd,.slice (some ⟨b,p,none⟩) 1 od,.slice C0 m0 d0,.slice C1 m1 d1] 68))
 obtain ⟨gb,hgb⟩:=Ky w5.heap.size
 have hb6:=Kv hw6
 have hG6:=Kx hw6 hgb
 have hA6:=((bnext b5 hb6).block _ (Kab.1 HG4.o).1).trans HG4.o
 have a0:=Kaa 0 hA6
 have b0:=Kaa 0 hG6
 have b1:=Kaa 1 hG6
 have k7:w6.cell? ⟨q,7,none⟩=some (.int .i64 2):=by
  refine (hb6.cell (p:=⟨q,7,none⟩) hql).trans ?_
  have:=hc 0 _ rfl (by omega)
  rw [hk1] at this
  exact this
 have o0:w6.cell? ⟨b,p,none⟩=some (.int .i64 2):=(hb6.cell (p:=⟨b,p,none⟩) hbl).trans e1
 have HB6:=Kz (bnext HB4.o (bnext b5 hb6))
 have HW6:=Kz hw6
 have HGB:=Kz hgb
 clear hw6 hgb hb6 hG6 hA6 hc hv hr ho e1 hm hk1 hfst2 hl2 z0 z1 b5 hb hql hbl
 rw [show (List.length [2])=1 from rfl]
 rw [←HW6.o,←HGB.o]
 go_wp2_with fail
 go_ret
 exact ⟨rfl,bnext HB1.o HB6.o⟩
theorem ZiW {s:ByteArray} {k n v:Nat} (h:oneM s k=some (1,n,v)):n≤16:=by
 unfold oneM at h
 split at h
 ·split at h
  ·split at h
   ·injection h with h
    injection h with h _
    omega
   ·cases h
  ·split at h
   ·split at h
    ·injection h with h
     injection h with h1 h2
     injection h2 with h2 _
     omega
    ·cases h
   ·split at h
    ·injection h with h
     injection h with h _
     omega
    ·split at h
     ·injection h with h
      injection h with h _
      omega
     ·cases h
 ·cases h
def Zhb (l:List Tok):Prop:=∀ t∈l,t.kind=1→t.text.size≤16
theorem Zdw (s:ByteArray):∀ (f k:Nat) (l r:List Tok),Zhb l→ZaN f s k l=.toks r→Zhb r
 | 0,k,l,r,hl,h=>by
  unfold ZaN at h
  injection h with h
  subst h
  exact hl
 | f+1,k,l,r,hl,h=>by
  unfold ZaN at h
  split at h
  ·split at h
   ·cases h
   ·rename_i t n v ho
    split at h
    ·cases h
    ·refine Zdw s f _ _ r ?_ h
     intro x hx hk
     rcases List.mem_append.1 hx with hx | hx
     ·exact hl x hx hk
     ·rw [List.mem_singleton.1 hx] at hk ⊢
      dsimp only at hk ⊢
      subst hk
      have:=ZiW ho
      rw [ByteArray.size_extract]
      omega
  ·injection h with h
   subst h
   intro x hx hk
   rcases List.mem_append.1 hx with hx | hx
   ·exact hl x hx hk
   ·rw [List.mem_singleton.1 hx] at hk
    cases hk
theorem Zgp {s:ByteArray} {r:List Tok} (h:scanM s=.toks r):Zhb r:=by
 unfold scanM at h
 split at h
 ·cases h
 ·exact Zdw s _ _ [] r (fun t ht=>by simp at ht) h
section
variable {L:List Tok} (hL:Zhb L) (F:Nat)
def ZeZ (F:Nat) (x:Sm):Prop:=x.name.size≤16∧x.shape.length≤F+1
include hL
theorem ZiX (s:PS) (h:(nowP L s).kind=1):(nowP L s).text.size≤16:=by
 unfold nowP at h ⊢
 cases hn:L[s.i]? with
 | none=>rw [hn] at h;cases h
 | some t=>
  rw [hn] at h
  exact hL t (Kam hn) h
theorem Zdh (s:PS):(nameP L s).2.size≤16:=by
 unfold nameP
 split
 ·show noB.size≤16
  decide
 ·rename_i h
  simp only [Bool.or_eq_true,not_or,bne_iff_ne,ne_eq,Decidable.not_not] at h
  exact ZiX hL s h.2
omit hL
theorem ZcO:∀ (f:Nat) (s:PS) (l:List Nat),(Zaz L f s l).2.length≤l.length+f
 | 0,s,l=>Kag _
 | f+1,s,l=>by
  unfold Zaz
  split
  ·have:=ZcO f (Zaw L (advP s)).1 (l++[(Zaw L (advP s)).2])
   rw [List.length_append] at this
   simp only [List.length_singleton] at this
   show (Zaz L f (Zaw L (advP s)).1 (l++[(Zaw L (advP s)).2])).2.length≤_
   omega
  ·show l.length≤_
   omega
theorem ZiY (f:Nat) (s:PS):(Zbr L f s).2.length≤f+1:=by
 unfold Zbr
 dsimp only
 split
 ·exact Nat.zero_le _
 ·have:=ZcO (L:=L) f (Zaw L (wantP L s tBra)).1 [(Zaw L (wantP L s tBra)).2]
  simp only [List.length_singleton] at this
  omega
include hL
theorem ZhI (s:PS):ZeZ F (bodyP L F s).2:=by
 unfold bodyP
 dsimp only
 split
 ·exact ⟨(by decide:noB.size≤16),Nat.zero_le _⟩
 ·split
  ·exact ⟨Zdh hL _,ZiY F _⟩
  ·split
   ·exact ⟨Zdh hL _,Nat.zero_le _⟩
   ·split
    ·exact ⟨Zdh hL _,Nat.zero_le _⟩
    ·exact ⟨(by decide:noB.size≤16),Nat.zero_le _⟩
theorem Zgq:∀ (n:Nat) (s:PS),(∀ x∈s.ss,ZeZ F x)→∀ x∈(Zak L n F s).ss,ZeZ F x:=by
 intro n
 induction n with
 | zero=>intro s h;exact h
 | succ n ih=>
  intro s h
  rw [Zak]
  split
  ·refine ih _ fun x hx => ?_
   have e:stmtP L F s=putS (wantP L (bodyP L F s).1 tSemi) (bodyP L F s).2:=rfl
   have g:=Zdz (L:=L) F s
   have g2:=G.want (L:=L) (bodyP L F s).1 tSemi
   rw [e] at hx
   have hx':x∈(wantP L (bodyP L F s).1 tSemi).ss++[(bodyP L F s).2]:=hx
   rw [g2.hs,g.hs] at hx'
   rcases List.mem_append.1 hx' with hx | hx
   ·exact h x hx
   ·rw [List.mem_singleton.1 hx]
    exact ZhI hL F s
  ·exact h
theorem ZkK:∀ x∈(Zao F L).ss,ZeZ F x:=Zgq hL F F Zd0 (fun x hx=>by cases hx)
end
def NumL (l:List Tok):Prop:=∀ t∈l,t.num≤18446744073709551615
theorem ZdQ (s:ByteArray):∀ (f k:Nat) (l r:List Tok),NumL l→ZaN f s k l=.toks r→NumL r
 | 0,k,l,r,hl,h=>by
  unfold ZaN at h
  injection h with h
  subst h
  exact hl
 | f+1,k,l,r,hl,h=>by
  unfold ZaN at h
  split at h
  ·split at h
   ·cases h
   ·rename_i t n v ho
    split at h
    ·cases h
    ·refine ZdQ s f _ _ r ?_ h
     intro x hx
     rcases List.mem_append.1 hx with hx | hx
     ·exact hl x hx
     ·rw [List.mem_singleton.1 hx]
      have:=(Zee ho).2.2.2
      dsimp only
      omega
  ·injection h with h
   subst h
   intro x hx
   rcases List.mem_append.1 hx with hx | hx
   ·exact hl x hx
   ·rw [List.mem_singleton.1 hx]
    exact Nat.zero_le _
theorem ZhJ {s:ByteArray} {r:List Tok} (h:scanM s=.toks r):NumL r:=by
 unfold scanM at h
 split at h
 ·cases h
 ·exact ZdQ s _ _ [] r (fun t ht=>by simp at ht) h
def NE (s:PS):Prop:=∀ x∈s.es,x.num≤18446744073709551615
section
variable {L:List Tok} {s:PS}
theorem NE.fail (h:NE s) (c:Nat):NE (failP L s c):=by
 unfold failP
 split
 ·exact h
 ·exact h
theorem NE.adv (h:NE s):NE (advP s):=h
theorem NE.rise (h:NE s):NE (riseP s):=h
theorem NE.want (h:NE s) (t:ByteArray):NE (wantP L s t):=by
 unfold wantP
 split
 ·exact h
 ·exact h.fail _
theorem NE.name (h:NE s):NE (nameP L s).1:=by
 unfold nameP
 split
 ·exact h.fail _
 ·exact h
theorem NE.number (h:NE s):NE (Zaw L s).1:=by
 unfold Zaw
 split
 ·exact h.fail _
 ·exact h
theorem ZiZ (s:PS):(Zaw L s).2≤18446744073709551615:=by
 unfold Zaw
 split
 ·exact Nat.zero_le _
 ·rename_i h
  simp only [Bool.or_eq_true,not_or,decide_eq_true_eq] at h
  show (nowP L s).num≤_
  omega
theorem NE.sink (h:NE s):NE (sinkP L s).1:=by
 unfold sinkP
 split
 ·exact h.fail _
 ·exact h
theorem NE.put (h:NE s) {e:Ex} (he:e.num≤18446744073709551615):NE (putP s e).1:=by
 unfold putP
 split
 ·exact h
 ·intro x hx
  rcases List.mem_append.1 hx with hx | hx
  ·exact h x hx
  ·rw [List.mem_singleton.1 hx]
   exact he
theorem Zmw (hL:NumL L) (s:PS):(nowP L s).num≤18446744073709551615:=by
 unfold nowP
 cases hn:L[s.i]? with
 | none=>exact Nat.zero_le _
 | some t=>exact hL t (Kam hn)
end
structure AllN (L:List Tok) (f:Nat):Prop where
 expr:∀ s,NE s→NE (exprP L f s).1
 sum:∀ s,NE s→NE (sumP L f s).1
 sumLoop:∀ s a,NE s→NE (ZaH L f s a).1
 prod:∀ s,NE s→NE (prodP L f s).1
 prodLoop:∀ s a,NE s→NE (Za6 L f s a).1
 sign:∀ s,NE s→NE (signP L f s).1
 post:∀ s,NE s→NE (postP L f s).1
 postLoop:∀ s a,NE s→NE (ZaM L f s a).1
 atom:∀ s,NE s→NE (atomP L f s).1
 args:∀ n s l,NE s→NE (argsP L f n s l).1
theorem allN {L:List Tok} (hL:NumL L) (f:Nat):AllN L f:=by
 induction f with
 | zero=>exact ⟨fun s h=>h,fun s h=>h,fun s a h=>h,fun s h=>h,fun s a h=>h,fun s h=>h,fun s h=>h,fun s a h=>h,fun s h=>h,fun n s l h=>by rw [argsP];exact h⟩
 | succ f ih=>
  refine ⟨?_,?_,?_,?_,?_,?_,?_,?_,?_,?_⟩
  ·intro s h
   rw [exprP]
   dsimp only
   split
   ·exact (ih.sum _ (ih.sum s h).adv).put (Nat.zero_le _)
   ·exact ih.sum s h
  ·intro s h
   rw [sumP]
   exact ih.sumLoop _ _ (ih.prod s h)
  ·intro s a h
   rw [ZaH]
   dsimp only
   split
   ·exact ih.sumLoop _ _ ((ih.prod _ h.adv).put (Nat.zero_le _))
   ·split
    ·exact ih.sumLoop _ _ ((ih.prod _ h.adv).put (Nat.zero_le _))
    ·exact h
  ·intro s h
   rw [prodP]
   exact ih.prodLoop _ _ (ih.sign s h)
  ·intro s a h
   rw [Za6]
   dsimp only
   split
   ·exact ih.prodLoop _ _ ((ih.sign _ h.adv).put (Nat.zero_le _))
   ·split
    ·exact ih.prodLoop _ _ ((ih.sign _ h.adv).put (Nat.zero_le _))
    ·exact h
  ·intro s h
   rw [signP]
   dsimp only
   split
   ·split
    ·exact (ih.sign _ h.sink.adv).rise.put (Nat.zero_le _)
    ·exact h.sink
   ·exact ih.post s h
  ·intro s h
   rw [postP]
   exact ih.postLoop _ _ (ih.atom s h)
  ·intro s a h
   rw [ZaM]
   dsimp only
   split
   ·exact ih.postLoop _ _ (h.adv.number.put (ZiZ _))
   ·exact h
  ·intro s h
   rw [atomP]
   dsimp only
   split
   ·exact h
   ·split
    ·exact h.adv.put (Zmw hL s)
    ·split
     ·exact h.adv.put (Nat.zero_le _)
     ·split
      ·exact h.fail _
      ·split
       ·split
        ·exact ((ih.expr _ h.sink.adv).want _).rise
        ·exact ((ih.args _ _ _ (h.sink.adv.want _)).want _).rise.put (Nat.zero_le _)
       ·exact h.sink
  ·intro n s l h
   cases n with
   | zero=>rw [argsP];exact h
   | succ n=>
    rw [argsP]
    split
    ·exact ih.args _ _ _ (ih.expr _ h)
    ·exact ih.args _ _ _ (ih.expr _ (h.want _))
section
variable {L:List Tok}
theorem Zdx:∀ (f:Nat) (s:PS) (l:List Nat),NE s→NE (Zaz L f s l).1
 | 0,s,l,h=>h
 | f+1,s,l,h=>by
  unfold Zaz
  split
  ·exact Zdx f _ _ h.adv.number
  ·exact h.want _
theorem ZkL (f:Nat) (s:PS) (h:NE s):NE (Zbr L f s).1:=by
 unfold Zbr
 dsimp only
 split
 ·exact (h.want _).adv
 ·exact Zdx f _ _ (h.want _).number
theorem Zmx (hL:NumL L) (f:Nat) (s:PS) (h:NE s):NE (bodyP L f s).1:=by
 unfold bodyP
 dsimp only
 split
 ·exact h.fail _
 ·split
  ·exact ZkL f _ h.adv.number.name
  ·split
   ·exact (allN hL f).expr _ (h.adv.name.want _)
   ·split
    ·exact h.adv.name
    ·exact h.fail _
theorem Zmy (hL:NumL L) (f:Nat):∀ (n:Nat) (s:PS),NE s→NE (Zak L n f s):=by
 intro n
 induction n with
 | zero=>intro s h;exact h
 | succ n ih=>
  intro s h
  rw [Zak]
  split
  ·refine ih _ ?_
   have e:stmtP L f s=putS (wantP L (bodyP L f s).1 tSemi) (bodyP L f s).2:=rfl
   rw [e]
   exact (Zmx hL f s h).want _
  ·exact h
theorem ZhK (hL:NumL L) (F:Nat):∀ x∈(Zao F L).es,x.num≤18446744073709551615:=Zmy hL F F Zd0 (fun x hx=>by cases hx)
end
end Go.Proofs.YtghlnncfigkkaaaGreatDoor
