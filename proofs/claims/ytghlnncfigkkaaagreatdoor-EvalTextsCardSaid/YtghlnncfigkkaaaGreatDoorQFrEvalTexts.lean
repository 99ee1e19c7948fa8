/-
  The names and the shapes of a parsed tree. The numbers of a parsed tree are words. No program. Rows of tensors: the document's Same at two that read alike; stores into answered tensors. The walk of the law EvalTexts. The law EvalTexts: for every input the call returns true, and each argument reads as it read before; the six listed variables tied to the program's text. The frame round its walk; written by a program of mine (mkdoorl.py).
-/
import Derived.Test.YtghlnncfigkkaaaGreatDoorQParM
import Derived.Test.YtghlnncfigkkaaaGreatDoorQRvH
import Derived.Test.YtghlnncfigkkaaaGreatDoorQTreeB
import Derived.Test.YtghlnncfigkkaaaGreatDoorQChkI
import Derived.Test.YtghlnncfigkkaaaGreatDoorQEvAT
import Derived.Test.YtghlnncfigkkaaaGreatDoorQOpen
import Derived.Deep.RegionHeld3
import Derived.Deep.RegionLaw
import Derived.Test.YtghlnncfigkkaaaGreatDoorTie
import Derived.Test.YtghlnncfigkkaaaGreatDoorCards
import Derived.SevenTiedAt
set_option maxRecDepth 100000
set_option maxHeartbeats 8000000
open Go.Lib (hid)
namespace Go.Proofs.YtghlnncfigkkaaaGreatDoor
set_option linter.unusedVariables false
set_option linter.unusedSimpArgs false
open Go.RowKit
theorem ZiW {s:ByteArray} {k n v:Nat} (h:oneM s k=some (1,n,v)):n≤16:=by
 unfold oneM at h
 split at h
 ·split at h
  ·split at h
   ·injection h with h
    injection h with h _
    omega
   ·cases h
  ·split at h
   ·split at h
    ·injection h with h
     injection h with h1 h2
     injection h2 with h2 _
     omega
    ·cases h
   ·split at h
    ·injection h with h
     injection h with h _
     omega
    ·split at h
     ·injection h with h
      injection h with h _
      omega
     ·cases h
 ·cases h
def Zhb (l:List Tok):Prop:=∀ t∈l,t.kind=1→t.text.size≤16
theorem Zdw (s:ByteArray):∀ (f k:Nat) (l r:List Tok),Zhb l→ZaN f s k l=.toks r→Zhb r
 | 0,k,l,r,hl,h=>by
  unfold ZaN at h
  injection h with h
  subst h
  exact hl
 | f+1,k,l,r,hl,h=>by
  unfold ZaN at h
  split at h
  ·split at h
   ·cases h
   ·rename_i t n v ho
    split at h
    ·cases h
    ·refine Zdw s f _ _ r ?_ h
     intro x hx hk
     rcases List.mem_append.1 hx with hx | hx
     ·exact hl x hx hk
     ·rw [List.mem_singleton.1 hx] at hk ⊢
      dsimp only at hk ⊢
      subst hk
      have:=ZiW ho
      rw [ByteArray.size_extract]
      omega
  ·injection h with h
   subst h
   intro x hx hk
   rcases List.mem_append.1 hx with hx | hx
   ·exact hl x hx hk
   ·rw [List.mem_singleton.1 hx] at hk
    cases hk
theorem Zgp {s:ByteArray} {r:List Tok} (h:scanM s=.toks r):Zhb r:=by
 unfold scanM at h
 split at h
 ·cases h
 ·exact Zdw s _ _ [] r (fun t ht=>by simp at ht) h
section
variable {L:List Tok} (hL:Zhb L) (F:Nat)
def ZeZ (F:Nat) (x:Sm):Prop:=x.name.size≤16∧x.shape.length≤F+1
include hL
theorem ZiX (s:PS) (h:(nowP L s).kind=1):(nowP L s).text.size≤16:=by
 unfold nowP at h ⊢
 cases hn:L[s.i]? with
 | none=>rw [hn] at h;cases h
 | some t=>
  rw [hn] at h
  exact hL t (List.mem_of_getElem? hn) h
theorem Zdh (s:PS):(nameP L s).2.size≤16:=by
 unfold nameP
 split
 ·show noB.size≤16
  decide
 ·rename_i h
  simp only [Bool.or_eq_true,not_or,bne_iff_ne,ne_eq,Decidable.not_not] at h
  exact ZiX hL s h.2
omit hL
theorem ZcO:∀ (f:Nat) (s:PS) (l:List Nat),(Zaz L f s l).2.length≤l.length+f
 | 0,s,l=>Nat.le_refl _
 | f+1,s,l=>by
  unfold Zaz
  split
  ·have:=ZcO f (Zaw L (advP s)).1 (l++[(Zaw L (advP s)).2])
   rw [List.length_append] at this
   simp only [List.length_singleton] at this
   show (Zaz L f (Zaw L (advP s)).1 (l++[(Zaw L (advP s)).2])).2.length≤_
   omega
  ·show l.length≤_
   omega
theorem ZiY (f:Nat) (s:PS):(Zbr L f s).2.length≤f+1:=by
 unfold Zbr
 dsimp only
 split
 ·exact Nat.zero_le _
 ·have:=ZcO (L:=L) f (Zaw L (wantP L s tBra)).1 [(Zaw L (wantP L s tBra)).2]
  simp only [List.length_singleton] at this
  omega
include hL
theorem ZhI (s:PS):ZeZ F (bodyP L F s).2:=by
 unfold bodyP
 dsimp only
 split
 ·exact ⟨(by decide:noB.size≤16),Nat.zero_le _⟩
 ·split
  ·exact ⟨Zdh hL _,ZiY F _⟩
  ·split
   ·exact ⟨Zdh hL _,Nat.zero_le _⟩
   ·split
    ·exact ⟨Zdh hL _,Nat.zero_le _⟩
    ·exact ⟨(by decide:noB.size≤16),Nat.zero_le _⟩
theorem Zgq:∀ (n:Nat) (s:PS),(∀ x∈s.ss,ZeZ F x)→∀ x∈(Zak L n F s).ss,ZeZ F x:=by
 intro n
 induction n with
 | zero=>intro s h;exact h
 | succ n ih=>
  intro s h
  rw [Zak]
  split
  ·refine ih _ fun x hx => ?_
   have e:stmtP L F s=putS (wantP L (bodyP L F s).1 tSemi) (bodyP L F s).2:=rfl
   have g:=Zdz (L:=L) F s
   have g2:=G.want (L:=L) (bodyP L F s).1 tSemi
   rw [e] at hx
   have hx':x∈(wantP L (bodyP L F s).1 tSemi).ss++[(bodyP L F s).2]:=hx
   rw [g2.hs,g.hs] at hx'
   rcases List.mem_append.1 hx' with hx | hx
   ·exact h x hx
   ·rw [List.mem_singleton.1 hx]
    exact ZhI hL F s
  ·exact h
theorem ZkK:∀ x∈(Zao F L).ss,ZeZ F x:=Zgq hL F F Zd0 (fun x hx=>by cases hx)
end
def NumL (l:List Tok):Prop:=∀ t∈l,t.num≤18446744073709551615
theorem ZdQ (s:ByteArray):∀ (f k:Nat) (l r:List Tok),NumL l→ZaN f s k l=.toks r→NumL r
 | 0,k,l,r,hl,h=>by
  unfold ZaN at h
  injection h with h
  subst h
  exact hl
 | f+1,k,l,r,hl,h=>by
  unfold ZaN at h
  split at h
  ·split at h
   ·cases h
   ·rename_i t n v ho
    split at h
    ·cases h
    ·refine ZdQ s f _ _ r ?_ h
     intro x hx
     rcases List.mem_append.1 hx with hx | hx
     ·exact hl x hx
     ·rw [List.mem_singleton.1 hx]
      have:=(Zee ho).2.2.2
      dsimp only
      omega
  ·injection h with h
   subst h
   intro x hx
   rcases List.mem_append.1 hx with hx | hx
   ·exact hl x hx
   ·rw [List.mem_singleton.1 hx]
    exact Nat.zero_le _
theorem ZhJ {s:ByteArray} {r:List Tok} (h:scanM s=.toks r):NumL r:=by
 unfold scanM at h
 split at h
 ·cases h
 ·exact ZdQ s _ _ [] r (fun t ht=>by simp at ht) h
def NE (s:PS):Prop:=∀ x∈s.es,x.num≤18446744073709551615
section
variable {L:List Tok} {s:PS}
theorem NE.fail (h:NE s) (c:Nat):NE (failP L s c):=by
 unfold failP
 split
 ·exact h
 ·exact h
theorem NE.adv (h:NE s):NE (advP s):=h
theorem NE.rise (h:NE s):NE (riseP s):=h
theorem NE.want (h:NE s) (t:ByteArray):NE (wantP L s t):=by
 unfold wantP
 split
 ·exact h
 ·exact h.fail _
theorem NE.name (h:NE s):NE (nameP L s).1:=by
 unfold nameP
 split
 ·exact h.fail _
 ·exact h
theorem NE.number (h:NE s):NE (Zaw L s).1:=by
 unfold Zaw
 split
 ·exact h.fail _
 ·exact h
theorem ZiZ (s:PS):(Zaw L s).2≤18446744073709551615:=by
 unfold Zaw
 split
 ·exact Nat.zero_le _
 ·rename_i h
  simp only [Bool.or_eq_true,not_or,decide_eq_true_eq] at h
  show (nowP L s).num≤_
  omega
theorem NE.sink (h:NE s):NE (sinkP L s).1:=by
 unfold sinkP
 split
 ·exact h.fail _
 ·exact h
theorem NE.put (h:NE s) {e:Ex} (he:e.num≤18446744073709551615):NE (putP s e).1:=by
 unfold putP
 split
 ·exact h
 ·intro x hx
  rcases List.mem_append.1 hx with hx | hx
  ·exact h x hx
  ·rw [List.mem_singleton.1 hx]
   exact he
theorem Zmw (hL:NumL L) (s:PS):(nowP L s).num≤18446744073709551615:=by
 unfold nowP
 cases hn:L[s.i]? with
 | none=>exact Nat.zero_le _
 | some t=>exact hL t (List.mem_of_getElem? hn)
end
structure AllN (L:List Tok) (f:Nat):Prop where
 expr:∀ s,NE s→NE (exprP L f s).1
 sum:∀ s,NE s→NE (sumP L f s).1
 sumLoop:∀ s a,NE s→NE (ZaH L f s a).1
 prod:∀ s,NE s→NE (prodP L f s).1
 prodLoop:∀ s a,NE s→NE (Za6 L f s a).1
 sign:∀ s,NE s→NE (signP L f s).1
 post:∀ s,NE s→NE (postP L f s).1
 postLoop:∀ s a,NE s→NE (ZaM L f s a).1
 atom:∀ s,NE s→NE (atomP L f s).1
 args:∀ n s l,NE s→NE (argsP L f n s l).1
theorem allN {L:List Tok} (hL:NumL L) (f:Nat):AllN L f:=by
 induction f with
 | zero=>exact ⟨fun s h=>h,fun s h=>h,fun s a h=>h,fun s h=>h,fun s a h=>h,fun s h=>h,fun s h=>h,fun s a h=>h,fun s h=>h,fun n s l h=>by rw [argsP];exact h⟩
 | succ f ih=>
  refine ⟨?_,?_,?_,?_,?_,?_,?_,?_,?_,?_⟩
  ·intro s h
   rw [exprP]
   dsimp only
   split
   ·exact (ih.sum _ (ih.sum s h).adv).put (Nat.zero_le _)
   ·exact ih.sum s h
  ·intro s h
   rw [sumP]
   exact ih.sumLoop _ _ (ih.prod s h)
  ·intro s a h
   rw [ZaH]
   dsimp only
   split
   ·exact ih.sumLoop _ _ ((ih.prod _ h.adv).put (Nat.zero_le _))
   ·split
    ·exact ih.sumLoop _ _ ((ih.prod _ h.adv).put (Nat.zero_le _))
    ·exact h
  ·intro s h
   rw [prodP]
   exact ih.prodLoop _ _ (ih.sign s h)
  ·intro s a h
   rw [Za6]
   dsimp only
   split
   ·exact ih.prodLoop _ _ ((ih.sign _ h.adv).put (Nat.zero_le _))
   ·split
    ·exact ih.prodLoop _ _ ((ih.sign _ h.adv).put (Nat.zero_le _))
    ·exact h
  ·intro s h
   rw [signP]
   dsimp only
   split
   ·split
    ·exact (ih.sign _ h.sink.adv).rise.put (Nat.zero_le _)
    ·exact h.sink
   ·exact ih.post s h
  ·intro s h
   rw [postP]
   exact ih.postLoop _ _ (ih.atom s h)
  ·intro s a h
   rw [ZaM]
   dsimp only
   split
   ·exact ih.postLoop _ _ (h.adv.number.put (ZiZ _))
   ·exact h
  ·intro s h
   rw [atomP]
   dsimp only
   split
   ·exact h
   ·split
    ·exact h.adv.put (Zmw hL s)
    ·split
     ·exact h.adv.put (Nat.zero_le _)
     ·split
      ·exact h.fail _
      ·split
       ·split
        ·exact ((ih.expr _ h.sink.adv).want _).rise
        ·exact ((ih.args _ _ _ (h.sink.adv.want _)).want _).rise.put (Nat.zero_le _)
       ·exact h.sink
  ·intro n s l h
   cases n with
   | zero=>rw [argsP];exact h
   | succ n=>
    rw [argsP]
    split
    ·exact ih.args _ _ _ (ih.expr _ h)
    ·exact ih.args _ _ _ (ih.expr _ (h.want _))
section
variable {L:List Tok}
theorem Zdx:∀ (f:Nat) (s:PS) (l:List Nat),NE s→NE (Zaz L f s l).1
 | 0,s,l,h=>h
 | f+1,s,l,h=>by
  unfold Zaz
  split
  ·exact Zdx f _ _ h.adv.number
  ·exact h.want _
theorem ZkL (f:Nat) (s:PS) (h:NE s):NE (Zbr L f s).1:=by
 unfold Zbr
 dsimp only
 split
 ·exact (h.want _).adv
 ·exact Zdx f _ _ (h.want _).number
theorem Zmx (hL:NumL L) (f:Nat) (s:PS) (h:NE s):NE (bodyP L f s).1:=by
 unfold bodyP
 dsimp only
 split
 ·exact h.fail _
 ·split
  ·exact ZkL f _ h.adv.number.name
  ·split
   ·exact (allN hL f).expr _ (h.adv.name.want _)
   ·split
    ·exact h.adv.name
    ·exact h.fail _
theorem Zmy (hL:NumL L) (f:Nat):∀ (n:Nat) (s:PS),NE s→NE (Zak L n f s):=by
 intro n
 induction n with
 | zero=>intro s h;exact h
 | succ n ih=>
  intro s h
  rw [Zak]
  split
  ·refine ih _ ?_
   have e:stmtP L f s=putS (wantP L (bodyP L f s).1 tSemi) (bodyP L f s).2:=rfl
   rw [e]
   exact (Zmx hL f s h).want _
  ·exact h
theorem ZhK (hL:NumL L) (F:Nat):∀ x∈(Zao F L).es,x.num≤18446744073709551615:=Zmy hL F F Zd0 (fun x hx=>by cases hx)
end
theorem ZlG (A A':Option Addr) (n c c':Nat) (xs:List TN) (w:World) (hn:n=xs.length) (hl:n≤1000000) (h:RdTN w w.heap.size A xs) (h':RdTN w w.heap.size A' xs):
  Calls Tryz.prog 26 #[.slice A n c,.slice A' n c'] w fun e w'=>e=.returned (.bool true)∧Below w.heap.size w w':=by
 have HN:=hid hn
 have H:=hid h
 have H':=hid h'
 clear h h' hn
 have q0':((n:Int) != (n:Int))=false:=by simp
 go_enter Tryz.func26,Tryz.ntmps26
 go_wp2
 go_loopw [13] (fun iv wr=>(∃ i:Nat,i≤n∧iv=.int .i64 i)∧Below w.heap.size w wr) (fun iv _=>n-(intOf iv).toNat)
 case atStart=>exact ⟨⟨0,by omega,rfl⟩,Below.refl _ _⟩
 case round=>
  obtain ⟨⟨i,hi,rfl⟩,hb⟩:=hrel
  have HB:=hid hb
  by_cases hlt:i<n
  ·have hx:xs[i]?=some (xs[i]'(by rw [←HN.out];exact hlt)):=List.getElem?_eq_getElem _
   obtain ⟨x,hxx⟩:∃ x,x=xs[i]'(by rw [←HN.out];exact hlt):=⟨_,rfl⟩
   rw [←hxx] at hx
   obtain ⟨b,o,rfl,hbl,⟨A1,c1,d0,d1,d2,_⟩,A2,c2,d3,d4,d5,_⟩:=(H.out.next hb).at_ hx
   obtain ⟨b',o',rfl,hbl',⟨A3,c3,e0,e1,e2,_⟩,A4,c4,e3,e4,e5,_⟩:=(H'.out.next hb).at_ hx
   have i0:(0:Int)≤(i:Int):=by omega
   have i1:(i:Int)<(n:Int):=by omega
   obtain ⟨xl,hxl⟩:∃ xl,xl=x.sh.length:=⟨_,rfl⟩
   obtain ⟨yl,hyl⟩:∃ yl,yl=x.el.length:=⟨_,rfl⟩
   rw [←hxl] at d0 d2 e0 e2
   rw [←hyl] at d3 d5 e3 e5
   have HI:=hid (fun q=>Zba A1 A3 xl xl c1 c3 x.sh x.sh (wr.drewN q) hxl hxl d2 e2 (d1.drewN q) (e1.drewN q))
   rw [show (x.sh==x.sh)=true from beq_self_eq_true _] at HI
   have HJ:=hid (fun q=>Zeu A2 A4 c2 c4 x.el yl yl (wr.drewN q).heap.size (wr.drewN q) hyl.symm hyl.symm d5 (d4.drewN q) (e4.drewN q))
   clear hx hxx d1 d2 d4 d5 e1 e2 e4 e5 hbl hbl' hb hxl hyl
   go_wp2_with fail
   go_quiet (first
    | (go_at_call 49;exact Calls.quiet_of (HI.out _))
    | (go_at_call 50;exact Calls.quiet_of (HJ.out _)))
   go_wp2
   exact ⟨⟨⟨i+1,by omega,rfl⟩,Zaa HB.out _⟩,by simp [intOf];omega⟩
  ·obtain rfl:i=n:=by omega
   go_wp2
   go_ret
   exact ⟨rfl,HB.out⟩
theorem Zcr {L:List (Option Nat)} (h:L.Pairwise apart) {p q:Nat} {x:Option Nat} {b:Nat} (hp:L[p]?=some x) (hq:L[q]?=some (some b)) (hne:p≠q):x≠some b:=by
 obtain ⟨h1,e1⟩:=List.getElem?_eq_some_iff.1 hp
 obtain ⟨h2,e2⟩:=List.getElem?_eq_some_iff.1 hq
 rw [List.pairwise_iff_getElem] at h
 rcases Nat.lt_or_gt_of_ne hne with hl | hl
 ·have h3:=h p q h1 h2 hl
  rw [e1,e2] at h3
  rcases h3 with h3 | h3
  ·rw [h3];simp
  ·exact h3
 ·have h3:=h q p h2 h1 hl
  rw [e1,e2] at h3
  rcases h3 with h3 | h3
  ·cases h3
  ·exact fun e=>h3 e.symm
theorem Own.setAt {w:World} {base cap g:Nat} {e:TypeId} {xs:List Value} (h:Own w base e (some ⟨g,0,none⟩) cap xs) (i:Nat) (v:Value):Own (w.setCell ⟨g,i,none⟩ v) base e (some ⟨g,0,none⟩) cap (xs.set i v):=by
 rcases h.form with ⟨h1,_⟩ | ⟨g',cur,h1,hb,hg,h2,h3,h4,h5⟩
 ·cases h1
 ·injection h1 with h1
  injection h1 with h1
  subst h1
  refine ⟨by simp,.inr ⟨g,cap,cur.set! i v,by simp,hb,?_,by simpa using h2,h3,?_,?_⟩⟩
  ·simp [World.setCell,Array.getElem?_modify,hg]
  ·simpa using h4
  ·have h6:=congrArg (fun l=>l.set i v) h5
   simp only [List.length_set,Nat.mul_one]
   rw [←h6,Array.set!_eq_setIfInBounds,Array.toList_setIfInBounds,List.take_set]
theorem Own.freeAt {w:World} {base cap g:Nat} {e:TypeId} {xs:List Value} (h:Own w base e (some ⟨g,0,none⟩) cap xs) (i:Nat):w.frozen? ⟨g,i,none⟩=false:=by
 rcases h.form with ⟨h1,_⟩ | ⟨g',cur,h1,hb,hg,_⟩
 ·cases h1
 ·injection h1 with h1
  injection h1 with h1
  subst h1
  simp [World.frozen?,hg]
theorem OutT.setEl {w:World} {base n c:Nat} {A:Option Addr} {l:List TN} (h:OutT w base A n c l) {i k:Nat} {t:TN} (ht:l[i]?=some t) (hk:k<t.el.length):
  ∃ g b c2,A=some ⟨g,0,none⟩∧w.cell? ⟨g,i*2+1,none⟩=some (.slice (some ⟨b,0,none⟩) t.el.length c2)∧base≤b∧w.cell? ⟨b,k,none⟩=some (U (nthW t.el k))∧w.frozen? ⟨b,k,none⟩=false ∧
   ∀ x,OutT (w.setCell ⟨b,k,none⟩ (U x)) base A n c (l.set i ⟨t.sh,t.el.set k x⟩):=by
 obtain ⟨vs,h1,h2,h3,h4,h5,h6⟩:=h
 have hi:i<l.length:=(List.getElem?_eq_some_iff.1 ht).1
 have hv:vs[i]?=some (vs[i]'(by omega)):=List.getElem?_eq_getElem _
 obtain ⟨q0,A1,c1,A2,c2,q1,q2,q3⟩:=h4 i _ t hv ht
 obtain ⟨b,rfl,hb,hbw⟩:=q3.some_ (by rw [List.length_map];omega)
 obtain ⟨g,hA,hg,_,hc⟩:=Zbm h1 (by omega)
 have k1:=hc _ _ ((Zaq tnC 2 (fun _=>rfl) vs i 1 _ hv (by omega)).trans (by rw [q1];rfl))
 have hB:(vs.flatMap tnB)[i*2+1]?=some (some b):=(Zaq tnB 2 (fun _=>rfl) vs i 1 _ hv (by omega)).trans (by rw [q1];simp [tnB,Za4,blk])
 have hbA:some b≠blk A:=by
  rcases h6 (some b) (List.mem_of_getElem? hB) with h | h
  ·cases h
  ·exact h
 refine ⟨g,b,c2,hA,k1,hb,q3.cellAt (by rw [List.getElem?_map,List.getElem?_eq_getElem hk];simp [nthW,List.getD,List.getElem?_eq_getElem hk]),q3.freeAt k,fun x=>⟨vs,ZaK h1 (fun g' hg'=>ZaS _ _ _ (fun e=>hbA (by rw [hg',e]))),h2,by rw [List.length_set];exact h3,fun j p y hp hy => ?_,h5,h6⟩⟩
 by_cases hji:j=i
 ·subst hji
  rw [List.getElem?_set_self hi] at hy
  injection hy with hy
  rw [hv] at hp
  injection hp with hp
  subst hy hp
  refine ⟨q0,A1,c1,some ⟨b,0,none⟩,c2,by rw [q1];simp,Own.other q2 _ _ ?_,?_⟩
  ·have:=Zcr h5 ((Zaq tnB 2 (fun _=>rfl) vs j 0 _ hv (by omega)).trans (show _=some (blk A1) from by rw [q1];simp [tnB,Za4])) hB (by omega)
   exact this
  ·have:=q3.setAt k (U x)
   rw [←List.map_set] at this
   exact this
 ·rw [List.getElem?_set_ne (fun e=>hji e.symm)] at hy
  obtain ⟨r0,B1,d1,B2,d2,r1,r2,r3⟩:=h4 j p y hp hy
  refine ⟨r0,B1,d1,B2,d2,r1,Own.other r2 _ _ ?_,Own.other r3 _ _ ?_⟩
  ·exact Zcr h5 ((Zaq tnB 2 (fun _=>rfl) vs j 0 _ hp (by omega)).trans (show _=some (blk B1) from by rw [r1];simp [tnB,Za4])) hB (by omega)
  ·exact Zcr h5 ((Zaq tnB 2 (fun _=>rfl) vs j 1 _ hp (by omega)).trans (show _=some (blk B2) from by rw [r1];simp [tnB,Za4])) hB (by omega)
theorem OutT.setSh {w:World} {base n c:Nat} {A:Option Addr} {l:List TN} (h:OutT w base A n c l) {i k:Nat} {t:TN} (ht:l[i]?=some t) (hk:k<t.sh.length):
  ∃ g b c2,A=some ⟨g,0,none⟩∧w.cell? ⟨g,i*2,none⟩=some (.slice (some ⟨b,0,none⟩) t.sh.length c2)∧base≤b∧w.cell? ⟨b,k,none⟩=some (VI (t.sh[k]'hk))∧w.frozen? ⟨b,k,none⟩=false ∧
   ∀ x,OutT (w.setCell ⟨b,k,none⟩ (VI x)) base A n c (l.set i ⟨t.sh.set k x,t.el⟩):=by
 obtain ⟨vs,h1,h2,h3,h4,h5,h6⟩:=h
 have hi:i<l.length:=(List.getElem?_eq_some_iff.1 ht).1
 have hv:vs[i]?=some (vs[i]'(by omega)):=List.getElem?_eq_getElem _
 obtain ⟨q0,A1,c1,A2,c2,q1,q2,q3⟩:=h4 i _ t hv ht
 obtain ⟨b,rfl,hb,hbw⟩:=q2.some_ (by rw [List.length_map];omega)
 obtain ⟨g,hA,hg,_,hc⟩:=Zbm h1 (by omega)
 have k1:=hc _ _ ((Zaq tnC 2 (fun _=>rfl) vs i 0 _ hv (by omega)).trans (by rw [q1];rfl))
 have hB:(vs.flatMap tnB)[i*2+0]?=some (some b):=(Zaq tnB 2 (fun _=>rfl) vs i 0 _ hv (by omega)).trans (by rw [q1];simp [tnB,Za4,blk])
 have hbA:some b≠blk A:=by
  rcases h6 (some b) (List.mem_of_getElem? hB) with h | h
  ·cases h
  ·exact h
 refine ⟨g,b,c1,hA,k1,hb,q2.cellAt (by rw [List.getElem?_map,List.getElem?_eq_getElem hk];rfl),q2.freeAt k,fun x=>⟨vs,ZaK h1 (fun g' hg'=>ZaS _ _ _ (fun e=>hbA (by rw [hg',e]))),h2,by rw [List.length_set];exact h3,fun j p y hp hy => ?_,h5,h6⟩⟩
 by_cases hji:j=i
 ·subst hji
  rw [List.getElem?_set_self hi] at hy
  injection hy with hy
  rw [hv] at hp
  injection hp with hp
  subst hy hp
  refine ⟨by simpa using q0,some ⟨b,0,none⟩,c1,A2,c2,by rw [q1];simp,?_,Own.other q3 _ _ ?_⟩
  ·have:=q2.setAt k (VI x)
   rw [←List.map_set] at this
   exact this
  ·have:=Zcr h5 ((Zaq tnB 2 (fun _=>rfl) vs j 1 _ hv (by omega)).trans (show _=some (blk A2) from by rw [q1];simp [tnB,Za4])) hB (by omega)
   exact this
 ·rw [List.getElem?_set_ne (fun e=>hji e.symm)] at hy
  obtain ⟨r0,B1,d1,B2,d2,r1,r2,r3⟩:=h4 j p y hp hy
  refine ⟨r0,B1,d1,B2,d2,r1,Own.other r2 _ _ ?_,Own.other r3 _ _ ?_⟩
  ·exact Zcr h5 ((Zaq tnB 2 (fun _=>rfl) vs j 0 _ hp (by omega)).trans (show _=some (blk B1) from by rw [r1];simp [tnB,Za4])) hB (by omega)
  ·exact Zcr h5 ((Zaq tnB 2 (fun _=>rfl) vs j 1 _ hp (by omega)).trans (show _=some (blk B2) from by rw [r1];simp [tnB,Za4])) hB (by omega)
theorem Zmz {W:World} {B n k q:Nat} {A:Option Addr} {X:List TN} {cs:Array Value} (h:OutT W B A n k X) (hq:W.heap[q]?=some (.cells cs 45 (0,0))):∀ g,blk A=some g→g≠q:=by
 obtain ⟨vs,h1,_⟩:=h
 intro g hg e
 rcases h1.2 with ⟨hv,_⟩ | ⟨g',cap',cur,hv,hb,hh,r⟩
 ·injection hv with a
  rw [a] at hg
  cases hg
 ·injection hv with a
  rw [a] at hg
  injection hg with hg
  have hgg:g'=q:=hg.trans e
  rw [hgg,hq] at hh
  injection hh with hh
  injection hh with _ hh _
  exact absurd hh (by decide)
structure InAt (w5:World) (n0 n1:Nat) (X0 X1:List TN) (q:Nat) (I0 I1:Option Addr) (k0 k1:Nat) (wx:World):Prop where
 bx:wx.heap[q]?=some (.cells #[.slice I0 n0 k0,.slice I1 n1 k1] 45 (0,0))
 bel:Below w5.heap.size w5 wx
 r0:RdTN wx wx.heap.size I0 X0
 r1:RdTN wx wx.heap.size I1 X1
def InCut (w5:World) (n0 n1:Nat) (X0 X1:List TN) (p:Value) (wx:World):Prop:=∃ q I0 I1 k0 k1,p=.pointer (some ⟨q,0,none⟩)∧InAt w5 n0 n1 X0 X1 q I0 I1 k0 k1 wx
theorem Zgr {w5 W:World} {q n0 n1 k0 k1 B0 B1:Nat} {I0 I1:Option Addr} {X0 X1:List TN} (hb:Below w5.heap.size w5 W) (hq:W.heap[q]?=some (.cells #[.slice none 0 0,.slice none 0 0] 45 (0,0))) (hq5:w5.heap.size≤q)
  (o0:OutT W B0 I0 n0 k0 X0) (o1:OutT W B1 I1 n1 k1 X1):InAt w5 n0 n1 X0 X1 q I0 I1 k0 k1 ((W.setCell ⟨q,0,none⟩ (.slice I0 n0 k0)).setCell ⟨q,1,none⟩ (.slice I1 n1 k1)):=by
 obtain ⟨Z,hZ⟩:∃ Z,Z=(W.setCell ⟨q,0,none⟩ (.slice I0 n0 k0)).setCell ⟨q,1,none⟩ (.slice I1 n1 k1):=⟨_,rfl⟩
 rw [←hZ]
 have hk:∀ k,k≠q→Z.heap[k]?=W.heap[k]?:=fun k hk=>by rw [hZ,ZaS _ _ _ hk,ZaS _ _ _ hk]
 have keep:∀ {B n k:Nat} {A:Option Addr} {X:List TN},OutT W B A n k X→OutT Z B A n k X:=fun {B n k A X} h=>
  h.keepT (fun g hg=>hk g (Zmz h hq g hg)) (fun g cur T hg hT=>hk g (fun e=>by
   rw [e,hq] at hg
   injection hg with hg
   injection hg with _ hg _
   rw [←hg] at hT
   exact absurd hT (by decide)))
 refine ⟨?_,?_,(keep o0).rd,(keep o1).rd⟩
 ·rw [hZ]
  simp [World.setCell,Array.getElem?_modify,hq]
 ·rw [hZ]
  exact Zaf (Zaf hb hq5 _) hq5 _
theorem Zdi (es:List EI) (in0 in1:List TN):∀ (ss:List SI) (names:Zah) (i0 i1:Nat) (out:List TN),(ZaG es in0 in1 ss names i0 i1 out).length≤out.length+ss.length
 | [],names,i0,i1,out=>Nat.le_refl _
 | s::ss,names,i0,i1,out=>by
  unfold ZaG
  have h:=fun nm j0 j1=>Zdi es in0 in1 ss nm j0 j1 out
  have h2:=fun x=>Zdi es in0 in1 ss names i0 i1 (out++[x])
  rw [List.length_cons]
  split
  ·split
   ·exact Nat.le_trans (h _ _ _) (by omega)
   ·exact Nat.le_trans (h _ _ _) (by omega)
  ·split
   ·exact Nat.le_trans (h _ _ _) (by omega)
   ·refine Nat.le_trans (h2 _) ?_
    rw [List.length_append,List.length_singleton]
    omega
theorem Zja {ss:List SI} {es:List EI} {in0 in1 outs:List TN} (h:evalR ss es in0 in1=.inl outs):outs.length≤ss.length:=by
 unfold evalR at h
 split at h
 ·cases h
 ·split at h
  ·cases h
  ·injection h with h
   rw [←h]
   have:=Zdi es in0 in1 ss [] 0 0 []
   simpa using this
theorem EvalTexts_walk (w:World) (hg:ETyped w) (ht:ErrT w) (s:ByteArray) (hsz:s.size≤maxLen) (Aa:Option Addr) (ca:Nat) (a:List UInt64) (hlc:a.length≤ca) (hcm:ca≤17592186043904) (hA:Rd w w.heap.size Aa (a.map U))
  (Ab:Option Addr) (cb:Nat) (b:List UInt64) (hlc':b.length≤cb) (hcm':cb≤17592186043904) (hA':Rd w w.heap.size Ab (b.map U)):
  Calls Tryz.prog 9 #[.string s,.slice Aa a.length ca,.slice Ab b.length cb] w fun e w'=>e=.returned (.bool true)∧Below w.heap.size w w':=by
 obtain ⟨na,hna⟩:∃ n,n=a.length:=⟨_,rfl⟩
 obtain ⟨nb,hnb⟩:∃ n,n=b.length:=⟨_,rfl⟩
 rw [←hna,←hnb]
 have b1:na≤9223372036854775807:=by omega
 have b2:nb≤9223372036854775807:=by omega
 obtain ⟨s2,hs2⟩:∃ s2,s2=s.extract 0 (minN s.size 4200):=⟨_,rfl⟩
 have hz2:s2.size≤100000:=by
  have:=(Zjt s.size 4200).2.1
  rw [hs2,ByteArray.size_extract]
  omega
 obtain ⟨F,hF,hF2⟩:∃ F,(∀ l,scanM s2=.toks l→12*l.length+20≤F)∧F≤10000:=by
  cases h:scanM s2 with
  | toks l=>exact ⟨12*l.length+20,fun l' h'=>by injection h' with h';subst h';exact Nat.le_refl _,by have:=(ZdU h).1;omega⟩
  | err c p=>exact ⟨0,fun l' h'=>(by cases h'),by omega⟩
 have HF:=hid hF
 have HZ2:=hid hz2
 have HW:=hid (Zgi w hg ht)
 have HCUT:=hid (fun W=>Zml s hsz W)
 rw [←hs2] at HCUT
 have HG:=hid hg
 have HT:=hid ht
 have HNA:=hid hna
 have HNB:=hid hnb
 have HA:=hid hA
 have HB:=hid hA'
 clear hs2 hz2 hF hg ht hna hnb hA hA' hlc hlc' hcm hcm'
 go_enter Tryz.func9,Tryz.ntmps9
 go_wp2_with (first
  | (go_at_call 22;refine HW.out.mono ?_;rintro e w1 ⟨rfl,b1⟩;have HB1:=hid b1;have HG1:=hid (HG.out.next b1);have HT1:=hid (HT.out.next b1);clear b1)
  | (go_at_call 17;refine (HCUT.out _).mono ?_;rintro e w' ⟨rfl,rfl⟩))
 refine (Zhh s2 F w1 HZ2.out HG1.out HT1.out HF.out).mono ?_
 rintro e w2 ⟨hb2,h⟩
 rcases h with ⟨l,hl,he,SA,sc,EA,ec,rfl,oS,oE⟩ | ⟨l,c,p,v,hl,he,rfl,hv⟩ | ⟨c,p,v,hl,rfl,hv⟩
 ·have hlen:=(ZdU hl).1
  have hns:=Zih he
  have hne:=ZlE F l
  have hnm:=ZhK (ZhJ hl) F
  have hsp:=ZkK (Zgp hl) F
  have hS:=oS.int
  have hE:=oE.int
  obtain ⟨ss,hss⟩:∃ ss,ss=(Zao F l).ss.map SI.of:=⟨_,rfl⟩
  obtain ⟨es,hes⟩:∃ es,es=(Zao F l).es.map EI.of:=⟨_,rfl⟩
  rw [←hss] at hS
  rw [←hes] at hE
  have HNM:=hid (show ∀ e∈es,e.num≤18446744073709551615 from fun e he=>by
   rw [hes] at he
   obtain ⟨x,hx,rfl⟩:=List.mem_map.1 he
   exact hnm x hx)
  have HSP:=hid (show ∀ s∈ss,s.shape.length≤1000000 from fun e he=>by
   rw [hss] at he
   obtain ⟨x,hx,rfl⟩:=List.mem_map.1 he
   have:=(hsp x hx).2
   show (x.shape.map Int.ofNat).length≤_
   rw [List.length_map]
   omega)
  obtain ⟨ns,hn1⟩:∃ ns,ns=(Zao F l).ss.length:=⟨_,rfl⟩
  obtain ⟨ne,hn2⟩:∃ ne,ne=(Zao F l).es.length:=⟨_,rfl⟩
  have hls:=hid (show ns=ss.length from by rw [hss,List.length_map,hn1])
  have hle:=hid (show ne=es.length from by rw [hes,List.length_map,hn2])
  have hns':ns≤64:=by rw [hn1];exact hns
  have hne':ne≤513:=by rw [hn2];exact Nat.le_trans hne hlen
  rw [←hn1,←hn2]
  have HG2:=hid (HG1.out.next hb2)
  have HB2:=hid (bnext HB1.out hb2)
  have HS2:=hid hS
  have HE2:=hid hE
  clear hlen hns hne hS hE hss hes hn1 hn2 oS oE hl he hb2 hnm hsp
  go_wp2_with fail
  obtain ⟨w3,hw3⟩:∃ w3,w3=w2.alloc (.cells #[.slice SA ns sc,.slice EA ne ec] 26):=⟨_,rfl⟩
  rw [←hw3]
  have hb3:Below w2.heap.size w2 w3:=by rw [hw3];exact (Below.refl _ _).alloc (Nat.le_refl _) _
  have hA:w3.heap[w2.heap.size]?=some (.cells #[.slice SA ns sc,.slice EA ne ec] 26 (0,0)):=by rw [hw3];exact heap_alloc_new w2 _
  have HTB:=hid (fun W (hW:Below w3.heap.size w3 W)=>(hW.block _ (Array.getElem?_eq_some_iff.1 hA).1).trans hA)
  have HG3:=hid (HG2.out.next hb3)
  have HB3:=hid (bnext HB2.out hb3)
  have HS3:=hid (HS2.out.next hb3)
  have HE3:=hid (HE2.out.next hb3)
  clear hw3 hb3 hA
  refine (Zep SA EA ns ne sc ec ss w3 hls.out (by omega) HS3.out HSP.out).mono ?_
  rintro e w4 ⟨hb4,A0,n0,c0,A1,n1,c1,rfl,hr0,hr1⟩
  have q0:=hr0.rd (fun x hx=>by obtain ⟨y,hy,rfl⟩:=Zcq hx;exact HSP.out y hy)
  have q1:=hr1.rd (fun x hx=>by obtain ⟨y,hy,rfl⟩:=Zcq hx;exact HSP.out y hy)
  obtain ⟨w5,hw5⟩:∃ w5,w5=w4.alloc (.cells #[.slice A0 n0 c0,.slice A1 n1 c1] 63):=⟨_,rfl⟩
  have hb5:Below w4.heap.size w4 w5:=by rw [hw5];exact (Below.refl _ _).alloc (Nat.le_refl _) _
  have hP:w5.heap[w4.heap.size]?=some (.cells #[.slice A0 n0 c0,.slice A1 n1 c1] 63 (0,0)):=by rw [hw5];exact heap_alloc_new w4 _
  obtain ⟨pb,hpb⟩:∃ pb,pb=w4.heap.size:=⟨_,rfl⟩
  rw [←hpb] at hP
  have HW5:=hid hw5
  have HPB:=hid hpb
  have HB35:=hid (bnext hb4 hb5)
  have HB5:=hid (bnext HB3.out HB35.out)
  have HPC:=hid (show ∀ W,Below w5.heap.size w5 W→W.cell? ⟨pb,0,none⟩=some (.slice A0 n0 c0)∧W.cell? ⟨pb,1,none⟩=some (.slice A1 n1 c1) from fun W hW=>by
   have h:=(hW.block _ (Array.getElem?_eq_some_iff.1 hP).1).trans hP
   exact ⟨cell_of_row _ _ 0 _ _ _ h,cell_of_row _ _ 1 _ _ _ h⟩)
  have HTC:=hid (show ∀ W,Below w5.heap.size w5 W→W.cell? ⟨w2.heap.size,0,none⟩=some (.slice SA ns sc)∧W.cell? ⟨w2.heap.size,1,none⟩=some (.slice EA ne ec) from fun W hW=>by
   have h:=HTB.out W (bnext HB35.out hW)
   exact ⟨cell_of_row _ _ 0 _ _ _ h,cell_of_row _ _ 1 _ _ _ h⟩)
  have R0:=hid (q0.1.next hb5)
  have R1:=hid (q1.1.next hb5)
  have HN0:=hid q0.2
  have HN1:=hid q1.2
  have hl0:n0≤1000:=by have:=ZbR ss 0;have:=q0.2;have:=hls.out;omega
  have hl1:n1≤1000:=by have:=ZbR ss 1;have:=q1.2;have:=hls.out;omega
  have HF0:=hid (fun W (hW:Below w5.heap.size w5 W)=>ZgX A0 n0 c0 (Zae ss 0) Aa na ca a W HN0.out HNA.out hl0 b1 (R0.out.next hW) ((HA.out.below (bnext HB5.out hW)).more (bnext HB5.out hW).size))
  have HF1:=hid (fun W (hW:Below w5.heap.size w5 W)=>ZgX A1 n1 c1 (Zae ss 1) Ab nb cb b W HN1.out HNB.out hl1 b2 (R1.out.next hW) ((HB.out.below (bnext HB5.out hW)).more (bnext HB5.out hW).size))
  clear hr0 hr1 q0 q1 hw5 hb5 hb4 hP hpb
  obtain ⟨y0,y1⟩:=HPC.out _ (Below.refl _ _)
  go_upto_region 7 with fail
  rw [←HW5.out,←HPB.out]
  go_cut [10] (fun pv wx=>InCut w5 n0 n1 (fillP (Zae ss 0) a 0) (fillP (Zae ss 1) b 0) pv wx)
  case first=>
   refine wp_region_held_drew (S:=(fun w'=>w'.cell? ⟨pb,0,none⟩=some (.slice A0 n0 c0)∧w'.cell? ⟨pb,1,none⟩=some (.slice A1 n1 c1)∧Below w5.heap.size w5 w')) (by kernel_rfl) ⟨y0,y1,(Below.refl _ _).drew⟩ (fun hHeld => ?_)
   obtain ⟨wd,hwd⟩:∃ wd,wd=w5.drew:=⟨_,rfl⟩
   rw [←hwd] at hHeld ⊢
   have BD:=hid (show Below w5.heap.size w5 wd from by rw [hwd];exact (Below.refl _ _).drew)
   clear hwd
   refine wpAnyH_take (i:=0) (oi:=_) (v := ?v1) rfl (by kernel_rfl) (by kernel_rfl) (by kernel_rfl) (fun _ _ _ h=>h) ?y1 (by assumption) ?r1
   case y1=>refine Or.inl ⟨by kernel_rfl,fun w hSw => ?_⟩;(try dsimp only at hSw);go_simp;(try with_reducible rfl)
   simp only [Act.put,List.getElem_toArray,List.getElem_cons_succ,List.getElem_cons_zero,List.setIfInBounds_toArray,List.set_cons_zero,List.set_cons_succ]
   refine wpAnyH_take (i:=1) (oi:=_) (v := ?v2) rfl (by kernel_rfl) (by kernel_rfl) (by kernel_rfl) (fun _ _ _ h=>h) ?y2 (by assumption) ?r2
   case y2=>refine Or.inl ⟨by kernel_rfl,fun w hSw => ?_⟩;(try dsimp only at hSw);go_simp;(try with_reducible rfl)
   simp only [Act.put,List.getElem_toArray,List.getElem_cons_succ,List.getElem_cons_zero,List.setIfInBounds_toArray,List.set_cons_zero,List.set_cons_succ]
   refine wpAnyH_take (i:=2) (oi:=_) (v := ?v3) rfl (by kernel_rfl) (by kernel_rfl) (by kernel_rfl) (fun _ _ _ h=>h) ?y3 (by assumption) ?r3
   case y3=>refine Or.inl ⟨by kernel_rfl,fun w hSw => ?_⟩;(try dsimp only at hSw);go_simp;(try with_reducible rfl)
   simp only [Act.put,List.getElem_toArray,List.getElem_cons_succ,List.getElem_cons_zero,List.setIfInBounds_toArray,List.set_cons_zero,List.set_cons_succ]
   refine wpAnyH_take (i:=4) (oi:=_) (v := ?v4) rfl (by kernel_rfl) (by kernel_rfl) (by kernel_rfl) (fun _ _ _ h=>h) ?y4 (by assumption) ?r4
   case y4=>refine Or.inl ⟨by kernel_rfl,fun w hSw => ?_⟩;(try dsimp only at hSw);go_simp;(try with_reducible rfl)
   simp only [Act.put,List.getElem_toArray,List.getElem_cons_succ,List.getElem_cons_zero,List.setIfInBounds_toArray,List.set_cons_zero,List.set_cons_succ]
   refine wpAnyH_take (i:=5) (oi:=_) (v := ?v5) rfl (by kernel_rfl) (by kernel_rfl) (by kernel_rfl) (fun _ _ _ h=>h) ?y5 (by assumption) ?r5
   case y5=>refine Or.inl ⟨by kernel_rfl,fun w hSw => ?_⟩;(try dsimp only at hSw);go_simp;(try with_reducible rfl)
   simp only [Act.put,List.getElem_toArray,List.getElem_cons_succ,List.getElem_cons_zero,List.setIfInBounds_toArray,List.set_cons_zero,List.set_cons_succ]
   refine wpAnyH_take (i:=6) (oi:=_) (v := ?v6) rfl (by kernel_rfl) (by kernel_rfl) (by kernel_rfl) (fun _ _ _ h=>h) ?y6 (by assumption) ?r6
   case y6=>refine Or.inl ⟨by kernel_rfl,fun w hSw => ?_⟩;(try dsimp only at hSw);go_simp;(try with_reducible rfl)
   simp only [Act.put,List.getElem_toArray,List.getElem_cons_succ,List.getElem_cons_zero,List.setIfInBounds_toArray,List.set_cons_zero,List.set_cons_succ]
   refine wpAnyH_ready (rs:=[3,9]) (by kernel_rfl) (by simp) ?_
   refine AllReadyH.cons (o:=_) rfl (fun K hK => ?_) (AllReadyH.cons (o:=_) rfl (fun K hK => ?_) (AllReadyH.nil))
   ·go_simp
    go_at_call 25
    refine (HF0.out wd BD.out).mono ?_
    rintro e w6 ⟨b6,I0,k0,rfl,o0⟩
    have B6:=hid (bnext BD.out b6)
    have O0:=hid o0
    clear b6 o0
    refine hK.out _ _ (show (fun w'=>w'.cell? ⟨pb,0,none⟩=some (.slice A0 n0 c0)∧w'.cell? ⟨pb,1,none⟩=some (.slice A1 n1 c1)∧Below w5.heap.size w5 w') w6 from ⟨(HPC.out _ B6.out).1,(HPC.out _ B6.out).2,B6.out⟩) (fun hHeld => ?_)
    clear hK K
    try simp only [Act.put,List.getElem_toArray,List.getElem_cons_succ,List.getElem_cons_zero,List.setIfInBounds_toArray,List.set_cons_zero,List.set_cons_succ]
    refine wpAnyH_ready (rs:=[7,9]) (by kernel_rfl) (by simp) ?_
    refine AllReadyH.cons (o:=_) rfl (fun K hK => ?_) (AllReadyH.cons (o:=_) rfl (fun K hK => ?_) (AllReadyH.nil))
    ·go_simp
     go_at_call 25
     refine (HF1.out w6 B6.out).mono ?_
     rintro e w7 ⟨b7,I1,k1,rfl,o1⟩
     have B7:=hid (bnext B6.out b7)
     have O0:=hid (O0.out.next b7)
     have O1:=hid o1
     clear b7 o1
     refine hK.out _ _ (show (fun w'=>w'.cell? ⟨pb,0,none⟩=some (.slice A0 n0 c0)∧w'.cell? ⟨pb,1,none⟩=some (.slice A1 n1 c1)∧Below w5.heap.size w5 w') w7 from ⟨(HPC.out _ B7.out).1,(HPC.out _ B7.out).2,B7.out⟩) (fun hHeld => ?_)
     clear hK K
     try simp only [Act.put,List.getElem_toArray,List.getElem_cons_succ,List.getElem_cons_zero,List.setIfInBounds_toArray,List.set_cons_zero,List.set_cons_succ]
     refine wpAnyH_take (i:=8) (oi:=_) (v := ?v7) rfl (by kernel_rfl) (by kernel_rfl) (by kernel_rfl) (fun _ _ _ h=>h) ?y7 (by assumption) ?r7
     case y7=>refine Or.inl ⟨by kernel_rfl,fun w hSw => ?_⟩;(try dsimp only at hSw);go_simp;(try with_reducible rfl)
     simp only [Act.put,List.getElem_toArray,List.getElem_cons_succ,List.getElem_cons_zero,List.setIfInBounds_toArray,List.set_cons_zero,List.set_cons_succ]
     refine wpAnyH_ready (rs:=[9]) (by kernel_rfl) (by simp) ?_
     refine AllReadyH.cons (o:=_) rfl (fun K hK => ?_) (AllReadyH.nil)
     ·go_simp
      obtain ⟨w8,hw8⟩:∃ w8,w8=w7.alloc (.cells #[.slice none 0 0,.slice none 0 0] 45):=⟨_,rfl⟩
      obtain ⟨qb,hqb⟩:∃ qb,qb=w7.heap.size:=⟨_,rfl⟩
      try rw [←hw8]
      try rw [←hqb]
      have b8:Below w7.heap.size w7 w8:=by rw [hw8];exact (Below.refl _ _).alloc (Nat.le_refl _) _
      have HQ:=hid (show w8.heap[qb]?=some (.cells #[.slice none 0 0,.slice none 0 0] 45 (0,0)) from by rw [hw8,hqb];exact heap_alloc_new w7 _)
      have HQ5:=hid (show w5.heap.size≤qb from by rw [hqb];exact B7.out.size)
      have B8:=hid (bnext B7.out b8)
      have O0:=hid (O0.out.next b8)
      have O1:=hid (O1.out.next b8)
      clear b8 hw8 hqb
      refine hK.out _ _ (show (fun w'=>w'.cell? ⟨pb,0,none⟩=some (.slice A0 n0 c0)∧w'.cell? ⟨pb,1,none⟩=some (.slice A1 n1 c1)∧Below w5.heap.size w5 w') w8 from ⟨(HPC.out _ B8.out).1,(HPC.out _ B8.out).2,B8.out⟩) (fun hHeld => ?_)
      clear hK K
      try simp only [Act.put,List.getElem_toArray,List.getElem_cons_succ,List.getElem_cons_zero,List.setIfInBounds_toArray,List.set_cons_zero,List.set_cons_succ]
      have v0:=cell_of_row _ _ 0 _ _ _ HQ.out
      have v1:=cell_of_row _ _ 1 _ _ _ HQ.out
      have g0:w8.frozen? ⟨qb,0,none⟩=false:=by simp [World.frozen?,HQ.out]
      have g1:w8.frozen? ⟨qb,1,none⟩=false:=by simp [World.frozen?,HQ.out]
      have HC:=hid (Zgr B8.out HQ.out HQ5.out O0.out O1.out)
      refine wpAnyH_ready (rs:=[10]) (by kernel_rfl) (by simp) ?_
      refine AllReadyH.cons (o:=_) rfl (fun K hK => ?_) AllReadyH.nil
      go_simp
      refine hK.out _ _ (show (fun w'=>w'.cell? ⟨pb,0,none⟩=some (.slice A0 n0 c0)∧w'.cell? ⟨pb,1,none⟩=some (.slice A1 n1 c1)∧Below w5.heap.size w5 w') ((w8.setCell ⟨qb,0,none⟩ (.slice I0 n0 k0)).setCell ⟨qb,1,none⟩ (.slice I1 n1 k1)) from ⟨(HPC.out _ HC.out.bel).1,(HPC.out _ HC.out.bel).2,HC.out.bel⟩) (fun hHeld => ?_)
      clear hK K
      try simp only [Act.put,List.getElem_toArray,List.getElem_cons_succ,List.getElem_cons_zero,List.setIfInBounds_toArray,List.set_cons_zero,List.set_cons_succ]
      refine wpAnyH_done (by kernel_rfl) ?_ _
      go_wp2_with fail
      go_meet
      exact ⟨qb,I0,I1,k0,k1,rfl,HC.out⟩
    ·go_simp
     obtain ⟨w9,hw9⟩:∃ w9,w9=w6.alloc (.cells #[.slice none 0 0,.slice none 0 0] 45):=⟨_,rfl⟩
     obtain ⟨qb,hqb⟩:∃ qb,qb=w6.heap.size:=⟨_,rfl⟩
     try rw [←hw9]
     try rw [←hqb]
     have b9:Below w6.heap.size w6 w9:=by rw [hw9];exact (Below.refl _ _).alloc (Nat.le_refl _) _
     have HQ:=hid (show w9.heap[qb]?=some (.cells #[.slice none 0 0,.slice none 0 0] 45 (0,0)) from by rw [hw9,hqb];exact heap_alloc_new w6 _)
     have HQ5:=hid (show w5.heap.size≤qb from by rw [hqb];exact B6.out.size)
     have B9:=hid (bnext B6.out b9)
     have O0:=hid (O0.out.next b9)
     clear b9 hw9 hqb
     refine hK.out _ _ (show (fun w'=>w'.cell? ⟨pb,0,none⟩=some (.slice A0 n0 c0)∧w'.cell? ⟨pb,1,none⟩=some (.slice A1 n1 c1)∧Below w5.heap.size w5 w') w9 from ⟨(HPC.out _ B9.out).1,(HPC.out _ B9.out).2,B9.out⟩) (fun hHeld => ?_)
     clear hK K
     try simp only [Act.put,List.getElem_toArray,List.getElem_cons_succ,List.getElem_cons_zero,List.setIfInBounds_toArray,List.set_cons_zero,List.set_cons_succ]
     refine wpAnyH_ready (rs:=[7]) (by kernel_rfl) (by simp) ?_
     refine AllReadyH.cons (o:=_) rfl (fun K hK => ?_) (AllReadyH.nil)
     ·go_simp
      go_at_call 25
      refine (HF1.out w9 B9.out).mono ?_
      rintro e w10 ⟨b10,I1,k1,rfl,o1⟩
      have B10:=hid (bnext B9.out b10)
      have O0:=hid (O0.out.next b10)
      have HQ:=hid ((b10.block qb (Array.getElem?_eq_some_iff.1 HQ.out).1).trans HQ.out)
      have O1:=hid o1
      clear b10 o1
      refine hK.out _ _ (show (fun w'=>w'.cell? ⟨pb,0,none⟩=some (.slice A0 n0 c0)∧w'.cell? ⟨pb,1,none⟩=some (.slice A1 n1 c1)∧Below w5.heap.size w5 w') w10 from ⟨(HPC.out _ B10.out).1,(HPC.out _ B10.out).2,B10.out⟩) (fun hHeld => ?_)
      clear hK K
      try simp only [Act.put,List.getElem_toArray,List.getElem_cons_succ,List.getElem_cons_zero,List.setIfInBounds_toArray,List.set_cons_zero,List.set_cons_succ]
      refine wpAnyH_take (i:=8) (oi:=_) (v := ?v8) rfl (by kernel_rfl) (by kernel_rfl) (by kernel_rfl) (fun _ _ _ h=>h) ?y8 (by assumption) ?r8
      case y8=>refine Or.inl ⟨by kernel_rfl,fun w hSw => ?_⟩;(try dsimp only at hSw);go_simp;(try with_reducible rfl)
      simp only [Act.put,List.getElem_toArray,List.getElem_cons_succ,List.getElem_cons_zero,List.setIfInBounds_toArray,List.set_cons_zero,List.set_cons_succ]
      have v0:=cell_of_row _ _ 0 _ _ _ HQ.out
      have v1:=cell_of_row _ _ 1 _ _ _ HQ.out
      have g0:w10.frozen? ⟨qb,0,none⟩=false:=by simp [World.frozen?,HQ.out]
      have g1:w10.frozen? ⟨qb,1,none⟩=false:=by simp [World.frozen?,HQ.out]
      have HC:=hid (Zgr B10.out HQ.out HQ5.out O0.out O1.out)
      refine wpAnyH_ready (rs:=[10]) (by kernel_rfl) (by simp) ?_
      refine AllReadyH.cons (o:=_) rfl (fun K hK => ?_) AllReadyH.nil
      go_simp
      refine hK.out _ _ (show (fun w'=>w'.cell? ⟨pb,0,none⟩=some (.slice A0 n0 c0)∧w'.cell? ⟨pb,1,none⟩=some (.slice A1 n1 c1)∧Below w5.heap.size w5 w') ((w10.setCell ⟨qb,0,none⟩ (.slice I0 n0 k0)).setCell ⟨qb,1,none⟩ (.slice I1 n1 k1)) from ⟨(HPC.out _ HC.out.bel).1,(HPC.out _ HC.out.bel).2,HC.out.bel⟩) (fun hHeld => ?_)
      clear hK K
      try simp only [Act.put,List.getElem_toArray,List.getElem_cons_succ,List.getElem_cons_zero,List.setIfInBounds_toArray,List.set_cons_zero,List.set_cons_succ]
      refine wpAnyH_done (by kernel_rfl) ?_ _
      go_wp2_with fail
      go_meet
      exact ⟨qb,I0,I1,k0,k1,rfl,HC.out⟩
   ·go_simp
    obtain ⟨w11,hw11⟩:∃ w11,w11=wd.alloc (.cells #[.slice none 0 0,.slice none 0 0] 45):=⟨_,rfl⟩
    obtain ⟨qb,hqb⟩:∃ qb,qb=wd.heap.size:=⟨_,rfl⟩
    try rw [←hw11]
    try rw [←hqb]
    have b11:Below wd.heap.size wd w11:=by rw [hw11];exact (Below.refl _ _).alloc (Nat.le_refl _) _
    have HQ:=hid (show w11.heap[qb]?=some (.cells #[.slice none 0 0,.slice none 0 0] 45 (0,0)) from by rw [hw11,hqb];exact heap_alloc_new wd _)
    have HQ5:=hid (show w5.heap.size≤qb from by rw [hqb];exact BD.out.size)
    have B11:=hid (bnext BD.out b11)
    clear b11 hw11 hqb
    refine hK.out _ _ (show (fun w'=>w'.cell? ⟨pb,0,none⟩=some (.slice A0 n0 c0)∧w'.cell? ⟨pb,1,none⟩=some (.slice A1 n1 c1)∧Below w5.heap.size w5 w') w11 from ⟨(HPC.out _ B11.out).1,(HPC.out _ B11.out).2,B11.out⟩) (fun hHeld => ?_)
    clear hK K
    try simp only [Act.put,List.getElem_toArray,List.getElem_cons_succ,List.getElem_cons_zero,List.setIfInBounds_toArray,List.set_cons_zero,List.set_cons_succ]
    refine wpAnyH_ready (rs:=[3]) (by kernel_rfl) (by simp) ?_
    refine AllReadyH.cons (o:=_) rfl (fun K hK => ?_) (AllReadyH.nil)
    ·go_simp
     go_at_call 25
     refine (HF0.out w11 B11.out).mono ?_
     rintro e w12 ⟨b12,I0,k0,rfl,o0⟩
     have B12:=hid (bnext B11.out b12)
     have HQ:=hid ((b12.block qb (Array.getElem?_eq_some_iff.1 HQ.out).1).trans HQ.out)
     have O0:=hid o0
     clear b12 o0
     refine hK.out _ _ (show (fun w'=>w'.cell? ⟨pb,0,none⟩=some (.slice A0 n0 c0)∧w'.cell? ⟨pb,1,none⟩=some (.slice A1 n1 c1)∧Below w5.heap.size w5 w') w12 from ⟨(HPC.out _ B12.out).1,(HPC.out _ B12.out).2,B12.out⟩) (fun hHeld => ?_)
     clear hK K
     try simp only [Act.put,List.getElem_toArray,List.getElem_cons_succ,List.getElem_cons_zero,List.setIfInBounds_toArray,List.set_cons_zero,List.set_cons_succ]
     refine wpAnyH_ready (rs:=[7]) (by kernel_rfl) (by simp) ?_
     refine AllReadyH.cons (o:=_) rfl (fun K hK => ?_) (AllReadyH.nil)
     ·go_simp
      go_at_call 25
      refine (HF1.out w12 B12.out).mono ?_
      rintro e w13 ⟨b13,I1,k1,rfl,o1⟩
      have B13:=hid (bnext B12.out b13)
      have O0:=hid (O0.out.next b13)
      have HQ:=hid ((b13.block qb (Array.getElem?_eq_some_iff.1 HQ.out).1).trans HQ.out)
      have O1:=hid o1
      clear b13 o1
      refine hK.out _ _ (show (fun w'=>w'.cell? ⟨pb,0,none⟩=some (.slice A0 n0 c0)∧w'.cell? ⟨pb,1,none⟩=some (.slice A1 n1 c1)∧Below w5.heap.size w5 w') w13 from ⟨(HPC.out _ B13.out).1,(HPC.out _ B13.out).2,B13.out⟩) (fun hHeld => ?_)
      clear hK K
      try simp only [Act.put,List.getElem_toArray,List.getElem_cons_succ,List.getElem_cons_zero,List.setIfInBounds_toArray,List.set_cons_zero,List.set_cons_succ]
      refine wpAnyH_take (i:=8) (oi:=_) (v := ?v9) rfl (by kernel_rfl) (by kernel_rfl) (by kernel_rfl) (fun _ _ _ h=>h) ?y9 (by assumption) ?r9
      case y9=>refine Or.inl ⟨by kernel_rfl,fun w hSw => ?_⟩;(try dsimp only at hSw);go_simp;(try with_reducible rfl)
      simp only [Act.put,List.getElem_toArray,List.getElem_cons_succ,List.getElem_cons_zero,List.setIfInBounds_toArray,List.set_cons_zero,List.set_cons_succ]
      have v0:=cell_of_row _ _ 0 _ _ _ HQ.out
      have v1:=cell_of_row _ _ 1 _ _ _ HQ.out
      have g0:w13.frozen? ⟨qb,0,none⟩=false:=by simp [World.frozen?,HQ.out]
      have g1:w13.frozen? ⟨qb,1,none⟩=false:=by simp [World.frozen?,HQ.out]
      have HC:=hid (Zgr B13.out HQ.out HQ5.out O0.out O1.out)
      refine wpAnyH_ready (rs:=[10]) (by kernel_rfl) (by simp) ?_
      refine AllReadyH.cons (o:=_) rfl (fun K hK => ?_) AllReadyH.nil
      go_simp
      refine hK.out _ _ (show (fun w'=>w'.cell? ⟨pb,0,none⟩=some (.slice A0 n0 c0)∧w'.cell? ⟨pb,1,none⟩=some (.slice A1 n1 c1)∧Below w5.heap.size w5 w') ((w13.setCell ⟨qb,0,none⟩ (.slice I0 n0 k0)).setCell ⟨qb,1,none⟩ (.slice I1 n1 k1)) from ⟨(HPC.out _ HC.out.bel).1,(HPC.out _ HC.out.bel).2,HC.out.bel⟩) (fun hHeld => ?_)
      clear hK K
      try simp only [Act.put,List.getElem_toArray,List.getElem_cons_succ,List.getElem_cons_zero,List.setIfInBounds_toArray,List.set_cons_zero,List.set_cons_succ]
      refine wpAnyH_done (by kernel_rfl) ?_ _
      go_wp2_with fail
      go_meet
      exact ⟨qb,I0,I1,k0,k1,rfl,HC.out⟩
  case rest=>
   obtain ⟨qb,I0,I1,k0,k1,rfl,hin⟩:=hcut
   obtain ⟨w6,hw6⟩:∃ w6,w6=wc:=⟨_,rfl⟩
   rw [←hw6] at hin ⊢
   have B6:=hid hin.bel
   have B36:=hid (bnext HB35.out B6.out)
   have BW6:=hid (bnext HB5.out B6.out)
   obtain ⟨X0,hX0⟩:∃ X,X=fillP (Zae ss 0) a 0:=⟨_,rfl⟩
   obtain ⟨X1,hX1⟩:∃ X,X=fillP (Zae ss 1) b 0:=⟨_,rfl⟩
   have HX0:=hid (show n0=X0.length from by rw [hX0,ZdI];exact HN0.out)
   have HX1:=hid (show n1=X1.length from by rw [hX1,ZdI];exact HN1.out)
   rw [←hX0,←hX1] at hin
   have HEV:=hid (Zf6 SA EA ns ne sc ec ss es I0 I1 n0 n1 k0 k1 X0 X1 w6 hls.out hle.out (by omega) (by omega) (HS3.out.next B36.out) (HE3.out.next B36.out) (HG3.out.next B36.out) HNM.out HSP.out HX0.out HX1.out (by omega) (by omega) hin.r0 hin.r1)
   have HRV:=hid (fun W (hW:Below w6.heap.size w6 W)=>ZjN SA EA ns ne sc ec ss es I0 I1 n0 n1 k0 k1 X0 X1 W hls.out hle.out (by omega) (by omega) (HS3.out.next (bnext B36.out hW)) (HE3.out.next (bnext B36.out hW)) HNM.out HSP.out HX0.out HX1.out (by omega) (by omega) (hin.r0.next hW) (hin.r1.next hW))
   have HBX:=hid (show ∀ W,Below w6.heap.size w6 W→W.cell? ⟨qb,0,none⟩=some (.slice I0 n0 k0)∧W.cell? ⟨qb,1,none⟩=some (.slice I1 n1 k1) from fun W hW=>by
    have h:=(hW.block _ (Array.getElem?_eq_some_iff.1 hin.bx).1).trans hin.bx
    exact ⟨cell_of_row _ _ 0 _ _ _ h,cell_of_row _ _ 1 _ _ _ h⟩)
   have HGW:=hid (fun W (hW:Below w6.heap.size w6 W)=>HG3.out.next (bnext B36.out hW))
   have HES:=hid (ZiM ss es X0 X1)
   have HSL:=hid (fun outs (h:evalR ss es X0 X1=.inl outs)=>Zja h)
   obtain ⟨z0,z1⟩:=HTC.out _ B6.out
   obtain ⟨z2,z3⟩:=HBX.out _ (Below.refl _ _)
   clear hX0 hX1 hin hw6 y0 y1 HF0 HF1 HA HB
   cases hv:evalE ss es X0 X1 with
   | inl outs=>
    rw [hv] at HEV HES
    rw [HES.out] at HRV HSL
    have hol:outs.length≤1000000:=by have:=HSL.out outs rfl;have:=hls.out;omega
    clear hv HES HSL
    go_wp2_with fail
    refine HEV.out.mono ?_
    rintro e w7 ⟨b7,A7,c7,rfl,o7⟩
    obtain ⟨no,hno⟩:∃ no,no=outs.length:=⟨_,rfl⟩
    rw [←hno] at o7 ⊢
    have B7:=hid b7
    have O7:=hid o7
    obtain ⟨z4,z5⟩:=HTC.out _ (bnext B6.out b7)
    obtain ⟨z6,z7⟩:=HBX.out _ b7
    have HR7:=hid (HRV.out w7 b7)
    have HNO:=hid hno
    clear b7 o7 z0 z1 z2 z3 HEV HRV hno
    go_wp2_with fail
    refine HR7.out.mono ?_
    rintro e w8 ⟨b8,A8,n8,c8,rfl,hn8,r8⟩
    obtain rfl:n8=no:=by rw [HNO.out];exact hn8
    have HSA:=hid (ZlG A7 A8 n8 c7 c8 outs w8 HNO.out (by rw [HNO.out];exact hol) (O7.out.rd.next b8) r8)
    have B8:=hid (bnext B7.out b8)
    clear b8 hn8 r8 z4 z5 z6 z7
    go_wp2_with (first
     | (go_at_call 20;refine (ZjS _).mono ?_;rintro e w9 ⟨rfl,rfl⟩)
     | (go_at_call 26;refine HSA.out.mono ?_;rintro e w10 ⟨rfl,b10⟩;have B10:=hid (bnext B8.out b10);clear b10))
    go_ret
    exact ⟨rfl,bnext BW6.out B10.out⟩
   | inr r=>
    obtain ⟨cc,cp,cb2⟩:=r
    rw [hv] at HEV HES
    rw [HES.out] at HRV
    have q1:((cc:Int)==(cc:Int))=true:=by simp
    clear hv HES HSL
    go_wp2_with fail
    refine HEV.out.mono ?_
    rintro e w7 ⟨b7,v,rfl,hv⟩
    have B7:=hid b7
    have HV7:=hid hv
    obtain ⟨ti,xi,rfl⟩:=hv.iface
    obtain ⟨z4,z5⟩:=HTC.out _ (bnext B6.out b7)
    obtain ⟨z6,z7⟩:=HBX.out _ b7
    have HR7:=hid (HRV.out w7 b7)
    clear b7 hv z0 z1 z2 z3 HEV HRV
    go_wp2_with fail
    refine HR7.out.mono ?_
    rintro e w8 ⟨b8,rfl⟩
    have HV8:=hid (HV7.out.next b8)
    have B8:=hid (bnext B7.out b8)
    have HCD:=hid (ZjW _ _ _ w8 (HGW.out _ B8.out) HV8.out)
    clear b8 z4 z5 z6 z7
    go_wp2_with (first
     | (go_at_call 20;refine HCD.out.mono ?_;rintro e w9 ⟨rfl,b9⟩;have B9:=hid (bnext B8.out b9);clear b9)
     | (go_at_call 26;refine (ZlG none none 0 0 0 [] _ rfl (by omega) (.inl rfl) (.inl rfl)).mono ?_;rintro e w10 ⟨rfl,b10⟩;have B10:=hid (bnext B9.out b10);clear b10))
    go_ret
    exact ⟨rfl,bnext BW6.out B10.out⟩
 ·obtain ⟨ti,xi,rfl⟩:=hv.iface
  have HB2:=hid (bnext HB1.out hb2)
  clear hb2 hv hl he
  go_wp2
  go_ret
  exact ⟨rfl,HB2.out.alloc HB2.out.size _⟩
 ·obtain ⟨ti,xi,rfl⟩:=hv.iface
  have HB2:=hid (bnext HB1.out hb2)
  clear hb2 hv hl
  go_wp2
  go_ret
  exact ⟨rfl,HB2.out.alloc HB2.out.size _⟩
end Go.Proofs.YtghlnncfigkkaaaGreatDoor
namespace Go.Proofs.YtghlnncfigkkaaaGreatDoor.lawEvalTexts
open Go Go.ChangeShapes Go.WideShapes Go.ChangeAt Go.RowKit
set_option linter.unusedVariables false
theorem Zn2 (os:Os) (started:os.Started) (H:Type) (enc:TypeId × Value→H):
  ReturnsInHanded {} Tryz.checked os 9 .any (fun w args=>(Rows.evalTextsSpec.pre enc Tryz.prog Tryz.f9 [] false w args∧LaidW w)∧sizedMet enc Tryz.prog Tryz.f9 (OpenSpec.ofChange Rows.evalTextsSpec) false w args)
   (Rows.evalTextsSpec.post enc Tryz.prog Tryz.f9 false true false false):=by
 refine returnsInHanded_of_change_and (C := Tryz.checked) (X:=fun w _=>LaidW w) (fun _ _ _ hh h=>h.of_heap hh) dOwn started (by kernel_rfl) Tryz.func9
  (ChangeSpec.witness_shaped (enc:=enc) (C := Tryz.checked) (os:=os) (X:=fun w _=>LaidW w) false (ZlL os) #[.string ⟨#[]⟩,.slice none 0 0,.slice none 0 0] 8 rfl (World.shaped_of_RefB (by kernel_rfl) (by kernel_rfl)) (by kernel_rfl) (by kernel_rfl) (by kernel_rfl) (ZhT os _)) ?_
 intro W base args ds gs before hval0 hW _ hsz0 hL _
 have hval:∀ (j:Nat) t v,Tryz.f9.params[j]?=some t→args[j]?=some v→Value.okWide Tryz.prog W .any base t v:=hval0
 have hW':=hW
 have hg:=Zeg hL
 have ht:=ZfP hL
 obtain ⟨p,q,hA0,hV,rfl,hfz,hnd⟩:=hW
 have hA:DataW.TrodAll enc Tryz.prog W 0 (fun _=>true) true Tryz.f9.params.toList args.toList ds p:=hA0
 have hsz:(DataW.weightsEach Tryz.prog (Tryz.f9.params.toList++Rows.evalTextsSpec.plain.varTypes Tryz.prog) (ds++gs)).all (· ≤ reachBytes)=true:=hsz0
 rw [Tryz.params9] at hA hval hsz
 obtain ⟨v0,vs0,d0,ds0,p0,q0,hargs,rfl,rfl,h0,r0⟩:=trodAll_cons hA
 obtain ⟨v1,vs1,d1,ds1,p1,q1,rfl,rfl,rfl,h1,r1⟩:=trodAll_cons r0
 obtain ⟨v2,vs2,d2,ds2,p2,q2,rfl,rfl,rfl,h2,r2⟩:=trodAll_cons r1
 obtain ⟨rfl,rfl,rfl⟩:=trodAll_nil r2
 obtain rfl:args=#[v0,v1,v2]:=by cases args;simp_all
 obtain ⟨rfl,rfl⟩:gs=[]∧q=[]:=trodVars_none hV
 have k0:=h0
 have lt0:∀ x∈p0,x.block<W.heap.size:=by obtain ⟨m,hm⟩:=k0;exact DataW.trod_lt m _ _ _ hm
 obtain ⟨a0,rfl,e0,f0,m0⟩:=Go.ChangeMaps.open_string Tryz.underlying9 (hval 0 9 v0 rfl rfl) h0
 have k1:=h1
 have lt1:∀ x∈p1,x.block<W.heap.size:=by obtain ⟨m,hm⟩:=k1;exact DataW.trod_lt m _ _ _ hm
 obtain ⟨a1,c1,l1,rfl,m1,s1,n1⟩:=ZbW Tryz.underlying40 Tryz.underlying39 (by kernel_rfl) (by kernel_rfl) (hval 1 40 v1 rfl rfl) h1 hsz 1 rfl rfl
 have k2:=h2
 have lt2:∀ x∈p2,x.block<W.heap.size:=by obtain ⟨m,hm⟩:=k2;exact DataW.trod_lt m _ _ _ hm
 obtain ⟨a2,c2,l2,rfl,m2,s2,n2⟩:=ZbW Tryz.underlying40 Tryz.underlying39 (by kernel_rfl) (by kernel_rfl) (hval 2 40 v2 rfl rfl) h2 hsz 2 rfl rfl
 clear hA0 hval0 hsz0 hsz
 refine (EvalTexts_walk W hg ht a0 m0 a1 c1 l1 m1 s1 n1 a2 c2 l2 m2 s2 n2).mono fun e W' ⟨he,bel⟩ => ?_
 subst he
 exact ⟨_,rfl,_,_,_,[],_,[],hW',trodAll_mk1 (shut_bool Tryz.underlying4 _),(trodAll_cons_mk (Below.trod Zfd (by kernel_rfl) (of_decide_eq_true (by kernel_rfl)) k0 bel lt0) (trodAll_cons_mk (Below.trod Zfd (by kernel_rfl) (of_decide_eq_true (by kernel_rfl)) k1 bel lt1) (trodAll_cons_mk (Below.trod Zfd (by kernel_rfl) (of_decide_eq_true (by kernel_rfl)) k2 bel lt2) trodAll_mk0))),rfl,bel.frame _,fun h=>by cases h⟩
theorem over:Rows.EvalTextsSaid:=
 OpenClaim.holds_of_wide 9 Tryz.f9 rfl rfl rfl rfl rfl rfl rfl ⟨rfl,rfl,rfl,rfl,rfl⟩ rfl rfl rfl rfl rfl (by kernel_rfl) Tryz.func9 (by kernel_rfl)
  (of_decide_eq_true (by kernel_rfl)) (by unfold Func.isWrapper;first | (rw [if_pos (by decide +kernel)];kernel_rfl) | (rw [if_neg (by decide +kernel)];exact ⟨rfl,rfl⟩))
  (fun os started H enc _=>Zn2 os started H enc)
theorem proved:Rows.EvalTextsCardSaid:=
 Claim7.holds_tied_plain_at .later [] [.data,.data,.data,.handle,.sentinel,.sentinel] true Rows.evalTextsCard.stood.harness true
  over (fun _ h=>by cases h) (by kernel_rfl) (fun _ h=>by cases h) evalTexts_row_tie rfl ⟨rfl,rfl⟩ (by kernel_rfl) rfl
  (fun f fn hf hfn=>by
   obtain rfl:f=9:=Option.some.inj ((show Tryz.prog.funcNamed "twain/twainlaw15.EvalTexts"=some 9 by kernel_rfl).symm.trans hf) |>.symm
   obtain rfl:fn = Tryz.f9:=(Option.some.inj (Tryz.func9.symm.trans hfn)).symm
   exact ⟨by kernel_rfl,fun j t ht=>by
    rw [Tryz.params9] at ht
    have hm:t∈[9,40,40]:=List.mem_of_getElem? (by simpa using ht)
    have hall:∀ t∈[9,40,40],Tryz.prog.wantsStandIn t=false:=by
     intro t ht
     simp only [List.mem_cons,List.not_mem_nil,or_false] at ht
     rcases ht with rfl | rfl | rfl <;> kernel_rfl
    exact hall t hm⟩)
  (by kernel_rfl)
end Go.Proofs.YtghlnncfigkkaaaGreatDoor.lawEvalTexts
