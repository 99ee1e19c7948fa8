/-
 What dag.drop needs: stores into rows of arguments; marks over lists of numbers.
-/
import Derived.Test.YtghlnncfigkkaaaGreatDoorQDgD
import Derived.RegionTactic
import Derived.Test.YtghlnncfigkkaaaGreatDoorQDgA
import Derived.Test.YtghlnncfigkkaaaGreatDoorQChkI
set_option maxRecDepth 100000
set_option maxHeartbeats 16000000
open Go.Lib (hid)
set_option linter.unusedVariables false
set_option linter.unusedSimpArgs false
namespace Go.Proofs.YtghlnncfigkkaaaGreatDoor
open Go.RowKit
def mrkN (m:Nat→Bool) (i:Nat) (l:List Nat) (k:Nat):Nat→Bool:=fun a=>m a||(m i&&(l.take k).any fun b=>b==a)
theorem mrkN_zero (m:Nat→Bool) (i:Nat) (l:List Nat):mrkN m i l 0=m:=by
 funext a
 unfold mrkN
 simp
theorem takeN_any (l:List Nat) {k a:Nat} (h:l[k]?=some a) (x:Nat):(l.take (k+1)).any (fun b=>b==x)=((l.take k).any (fun b=>b==x)||decide (x=a)):=by
 obtain ⟨hi,he⟩:=Kaf.1 h
 rw [List.take_succ_eq_append_getElem hi,List.any_append,he]
 simp only [List.any_cons,List.any_nil,Bool.or_false]
 by_cases hx:x=a
 ·subst hx;simp
 ·have:(a==x)=false:=by rw [Kaj];omega
  rw [this]
  simp [hx]
theorem mrkN_self {m:Nat→Bool} {i k:Nat} {l:List Nat} (h:∀ a∈l,a<i):mrkN m i l k i=m i:=by
 unfold mrkN
 have:(l.take k).any (fun b=>b==i)=false:=by
  rw [List.any_eq_false]
  intro x hx
  have:=h x (List.mem_of_mem_take hx)
  simp
  omega
 rw [this]
 simp
theorem mrkN_step (m:Nat→Bool) (i:Nat) (l:List Nat) {k a:Nat} (h:l[k]?=some a) (x:Nat):mrkN m i l (k+1) x=if x=a then (mrkN m i l k a||m i) else mrkN m i l k x:=by
 unfold mrkN
 rw [takeN_any l h]
 by_cases hx:x=a
 ·subst hx
  rw [if_pos rfl]
  cases m x <;> cases m i <;> simp
 ·rw [if_neg hx]
  simp [hx]
theorem markD_step {l:List ND} {i:Nat} (m:Nat→Bool):markD l (i+1) m=markD l i (mrkN m i (atD l i).args (atD l i).args.length):=by
 show markD l i (fun a=>m a||(m i&&(atD l i).args.any fun b=>b==a))=_
 unfold mrkN
 rw [List.take_length]
theorem outs_step {outs:List Nat} {k o:Nat} (h:outs[k]?=some o) (x:Nat):(outs.take (k+1)).any (fun b=>b==x)=if x=o then true else (outs.take k).any (fun b=>b==x):=by
 rw [takeN_any outs h]
 by_cases hx:x=o
 ·rw [if_pos hx];simp [hx]
 ·rw [if_neg hx];simp [hx]
theorem Own.setAt {w:World} {B q k c:Nat} {e:TypeId} {xs:List Value} (h:Own w B e (some ⟨q,0,none⟩) c xs) (hk:k<xs.length) (v:Value):Own (w.setCell ⟨q,k,none⟩ v) B e (some ⟨q,0,none⟩) c (xs.set k v):=by
 have h':w.ownsRow B e 1 (.slice (some ⟨q,0,none⟩) xs.length c) xs.length xs:=h
 have h2:=rown_set (size:=1) (n:=xs.length) (k:=k) h' v (by omega)
 unfold Own
 rw [List.length_set]
 exact h2
theorem NdRow.setOther {w:World} {B c q k:Nat} {A:Option Addr} {ms:List (ND × NV)} {cs:Array Value} (h:NdRow w B A c ms) (hp:w.heap[q]?=some (.cells cs 3 (0,0))) (hq:∀ b∈ms.flatMap ndB,b≠some q) (v:Value):NdRow (w.setCell ⟨q,k,none⟩ v) B A c ms:=by
 have hne:∀ b,b≠q→(w.setCell ⟨q,k,none⟩ v).heap[b]?=w.heap[b]?:=fun b hb=>ZaS _ _ _ hb
 have hty:∀ b cs T fr,w.heap[b]?=some (.cells cs T fr)→T≠3→b≠q:=fun b cs T fr hb hT e=>by
  rw [e,hp] at hb
  injection hb with hb
  injection hb with _ hb _
  exact hT hb.symm
 refine ⟨ZaK h.1 fun b hb => ?_,fun m hm => ?_⟩
 ·obtain ⟨cur,hc⟩:=h.form b hb
  exact hne b (hty _ _ _ _ hc (by decide))
 ·obtain ⟨l1,l2,l3,⟨A1,c1,e1,o1⟩,⟨A2,c2,e2,o2⟩,A3,c3,e3,o3⟩:=h.2 m hm
  have hb:∀ b,b∈ndB m→b≠some q:=fun b hb=>hq b (List.mem_flatMap.2 ⟨m,hm,hb⟩)
  exact ⟨l1,l2,l3,⟨A1,c1,e1,own_at o1 fun b hb'=>hne b fun e=>hb (blk A1) (by simp [ndB,e1,Za4]) (by rw [hb',e])⟩,⟨A2,c2,e2,own_at o2 fun b hb'=>hne b fun e=>hb (blk A2) (by simp [ndB,e2,Za4]) (by rw [hb',e])⟩,A3,c3,e3,Zf4 o3 fun b cur hb'=>hne b (hty _ _ _ _ hb' (by decide))⟩
theorem nd_flat_set {ms:List (ND × NV)} {i:Nat} {m m':ND × NV} (h:ms[i]?=some m) (hc:ndC m'=ndC m):(ms.set i m').flatMap ndC=ms.flatMap ndC:=by
 induction ms generalizing i with
 | nil=>simp at h
 | cons x r ih=>
  cases i with
  | zero=>
   simp at h
   subst h
   simp [hc]
  | succ i=>
   rw [List.set_cons_succ,List.flatMap_cons,List.flatMap_cons,ih (by simpa using h)]
theorem NdRow.setArg {w:World} {B c q k i p ca:Nat} {A:Option Addr} {ms:List (ND × NV)} {m:ND × NV} (h:NdRow w B A c ms) (hi:ms[i]?=some m) (hav:m.2.av=.slice (some ⟨q,0,none⟩) m.1.args.length ca) (hk:k<m.1.args.length) (hsv:m.2.sv.ownBlock≠some q) (hq:∀ j m',ms[j]?=some m'→j≠i→∀ b∈ndB m',b≠some q):
  NdRow (w.setCell ⟨q,k,none⟩ (VNt p)) B A c (ms.set i ({ m.1 with args:=m.1.args.set k p },m.2)):=by
 obtain ⟨l1,l2,l3,⟨A1,c1,e1,o1⟩,⟨A2,c2,e2,o2⟩,A3,c3,e3,o3⟩:=h.2 m (Kam hi)
 rw [hav] at e2
 injection e2 with e2 _ e2c
 subst e2 e2c
 obtain ⟨cs,hp⟩:∃ cs,w.heap[q]?=some (.cells cs 3 (0,0)):=by
  rcases o2.form with ⟨h0,_⟩ | ⟨g',cur,hA,_,hg,_⟩
  ·cases h0
  ·injection hA with hA
   injection hA with hA _ _
   subst hA
   exact ⟨cur,hg⟩
 have hne:∀ b,b≠q→(w.setCell ⟨q,k,none⟩ (VNt p)).heap[b]?=w.heap[b]?:=fun b hb=>ZaS _ _ _ hb
 have hty:∀ b cs T fr,w.heap[b]?=some (.cells cs T fr)→T≠3→b≠q:=fun b cs T fr hb hT e=>by
  rw [e,hp] at hb
  injection hb with hb
  injection hb with _ hb _
  exact hT hb.symm
 have hrow:(w.setCell ⟨q,k,none⟩ (VNt p)).ownsRow B 77 7 (.slice A ms.length c) ms.length (ms.flatMap ndC):=ZaK h.1 fun b hb=>by
  obtain ⟨cur,hc⟩:=h.form b hb
  exact hne b (hty _ _ _ _ hc (by decide))
 refine ⟨?_,fun x hx => ?_⟩
 ·rw [List.length_set,nd_flat_set (m':=({ m.1 with args:=m.1.args.set k p },m.2)) hi rfl]
  exact hrow
 ·obtain ⟨j,hj⟩:=List.getElem?_of_mem hx
  rw [List.getElem?_set] at hj
  split at hj
  ·split at hj
   ·injection hj with hj
    subst hj
    refine ⟨l1,by show (m.1.args.set k p).length≤_;rw [List.length_set];exact l2,l3,⟨A1,c1,e1,own_at o1 fun b hb'=>hne b fun e=>hsv (by rw [e1,Za4,hb',e])⟩,⟨some ⟨q,0,none⟩,ca,?_,?_⟩,A3,c3,e3,Zf4 o3 fun b cur hb'=>hne b (hty _ _ _ _ hb' (by decide))⟩
    ·show m.2.av=.slice _ (m.1.args.set k p).length ca
     rw [List.length_set,hav]
    ·show Own _ B 3 _ ca ((m.1.args.set k p).map VNt)
     rw [List.map_set]
     exact o2.setAt (by rw [Kak];exact hk) _
   ·cases hj
  ·rename_i hij
   obtain ⟨l1,l2,l3,⟨A1,c1,e1,o1⟩,⟨A2,c2,e2,o2⟩,A3,c3,e3,o3⟩:=h.2 x (Kam hj)
   have hb:∀ b,b∈ndB x→b≠some q:=hq j x hj (fun e=>hij e.symm)
   exact ⟨l1,l2,l3,⟨A1,c1,e1,own_at o1 fun b hb'=>hne b fun e=>hb (blk A1) (by simp [ndB,e1,Za4]) (by rw [hb',e])⟩,⟨A2,c2,e2,own_at o2 fun b hb'=>hne b fun e=>hb (blk A2) (by simp [ndB,e2,Za4]) (by rw [hb',e])⟩,A3,c3,e3,Zf4 o3 fun b cur hb'=>hne b (hty _ _ _ _ hb' (by decide))⟩
def nvB (v:NV):List (Option Nat):=[v.sv.ownBlock,v.av.ownBlock]
theorem flat_nvB (ms:List (ND × NV)):ms.flatMap ndB=(ms.map Prod.snd).flatMap nvB:=by rw [List.flatMap_map];rfl
theorem sub_flat {α β:Type} (f:α→List β) {l l':List α} (h:l.Sublist l'):(l.flatMap f).Sublist (l'.flatMap f):=by
 induction h with
 | slnil=>exact List.Sublist.refl _
 | cons a _ ih=>
  rw [List.flatMap_cons]
  exact ih.trans (List.sublist_append_right _ _)
 | cons_cons a _ ih=>
  rw [List.flatMap_cons,List.flatMap_cons]
  exact List.Sublist.append (List.Sublist.refl _) ih
theorem pair_ne {l:List NV} {i j:Nat} {v v':NV} {q:Nat} (h:(l.flatMap nvB).Pairwise apart) (hi:l[i]?=some v) (hj:l[j]?=some v') (hij:i≠j) (hq:v.av.ownBlock=some q):∀ b∈nvB v',b≠some q:=by
 induction l generalizing i j with
 | nil=>simp at hi
 | cons x r ih=>
  rw [List.flatMap_cons,List.pairwise_append] at h
  intro b hb e
  cases i with
  | zero=>
   simp at hi
   subst hi
   cases j with
   | zero=>exact hij rfl
   | succ j=>
    have:=h.2.2 (some q) (by simp [nvB,hq]) b (List.mem_flatMap.2 ⟨v',Kam (by simpa using hj),hb⟩)
    rcases this with h1 | h1
    ·cases h1
    ·exact h1 e.symm
  | succ i=>
   cases j with
   | zero=>
    simp at hj
    subst hj
    have:=h.2.2 b hb (some q) (List.mem_flatMap.2 ⟨v,Kam (by simpa using hi),by simp [nvB,hq]⟩)
    rcases this with h1 | h1
    ·rw [h1] at e;cases e
    ·exact h1 e
   | succ j=>exact ih (i:=i) (j:=j) h.2.1 (by simpa using hi) (by simpa using hj) (by omega) b hb e
theorem pair_self {l:List NV} {i:Nat} {v:NV} {q:Nat} (h:(l.flatMap nvB).Pairwise apart) (hi:l[i]?=some v) (hq:v.av.ownBlock=some q):v.sv.ownBlock≠some q:=by
 induction l generalizing i with
 | nil=>simp at hi
 | cons x r ih=>
  rw [List.flatMap_cons,List.pairwise_append] at h
  cases i with
  | zero=>
   simp at hi
   subst hi
   intro e
   have h1:=h.1
   unfold nvB at h1
   rw [hq,e] at h1
   have:=(List.pairwise_cons.1 h1).1 (some q) (by simp)
   rcases this with h2 | h2
   ·cases h2
   ·exact h2 rfl
  | succ i=>exact ih h.2.1 (by simpa using hi)
def DrpK (w w':World) (cb:Nat) (bs:List (Option Nat)):Prop:=w.heap.size≤w'.heap.size∧∀ k,k<w.heap.size→k≠cb→some k ∉ bs→w'.heap[k]?=w.heap[k]?
theorem DrpK.of {w w':World} {cb:Nat} {bs:List (Option Nat)} (h:Below w.heap.size w w'):DrpK w w' cb bs:=⟨h.size,fun k hk _ _=>h.block k hk⟩
theorem DrpK.next {w w1 w':World} {cb:Nat} {bs:List (Option Nat)} (h:DrpK w w1 cb bs) (hb:Below w1.heap.size w1 w'):DrpK w w' cb bs:=⟨Kah h.1 hb.size,fun k hk h1 h2=>(hb.block k (Kae hk h.1)).trans (h.2 k hk h1 h2)⟩
theorem DrpK.set {w w1:World} {cb q k:Nat} {bs:List (Option Nat)} (h:DrpK w w1 cb bs) (hq:q=cb∨some q∈bs∨w.heap.size≤q) (v:Value):DrpK w (w1.setCell ⟨q,k,none⟩ v) cb bs:=by
 refine ⟨by simpa [World.setCell] using h.1,fun j hj h1 h2=>(ZaS _ _ _ (fun e => ?_)).trans (h.2 j hj h1 h2)⟩
 have e':j=q:=e
 subst e'
 rcases hq with hq | hq | hq
 ·exact h1 hq
 ·exact h2 hq
 ·omega
theorem DrpK.grown {w w1 w':World} {cb:Nat} {bs:List (Option Nat)} {A:Option Addr} (h:DrpK w w1 cb bs) (hg:w1.grownBy w' (blk A)) (hA:∀ q,blk A=some q→w.heap.size≤q):DrpK w w' cb bs:=
 ⟨Kah h.1 hg.size,fun k hk h1 h2=>(hg.block k (Kae hk h.1) (fun e=>by have:=hA k e.symm;omega)).trans (h.2 k hk h1 h2)⟩
theorem args_setP (args:List Nat) (P:Nat→Nat) {k a:Nat} (h:args[k]?=some a):((args.take k).map P++args.drop k).set k (P a)=(args.take (k+1)).map P++args.drop (k+1):=by
 obtain ⟨hi,he⟩:=Kaf.1 h
 have hl:((args.take k).map P).length=k:=by rw [Kak,List.length_take];omega
 rw [List.set_append_right _ _ (by omega),hl,Nat.sub_self,List.drop_eq_getElem_cons hi,List.set_cons_zero,List.take_succ_eq_append_getElem hi,he,List.map_append]
 simp
theorem args_len (args:List Nat) (P:Nat→Nat) {k:Nat} (h:k≤args.length):((args.take k).map P++args.drop k).length=args.length:=by
 rw [List.length_append,Kak,List.length_take,List.length_drop]
 omega
theorem args_nth (args:List Nat) (P:Nat→Nat) {k a:Nat} (h:args[k]?=some a):((args.take k).map P++args.drop k)[k]?=some a:=by
 obtain ⟨hi,he⟩:=Kaf.1 h
 have hl:((args.take k).map P).length=k:=by rw [Kak,List.length_take];omega
 rw [List.getElem?_append_right (by omega),hl,Nat.sub_self,List.getElem?_drop,Nat.add_zero,h]
structure DrpIn (w wr:World) (B cb g:Nat) (NA:Option Addr) (nc:Nat) (ms:List (ND × NV)) (OA:Option Addr) (oc:Nat) (outs:List Nat) (gn gp:Nat) (N:Nat→Bool) (i k:Nat) (P:Nat→Nat) (m:ND × NV) (nb:Nat) (KA:Option Addr) (kc:Nat) (ks msX:List (ND × NV)):Prop where
 snd:msX.map Prod.snd=ms.map Prod.snd
 rest:∀ j,i<j→msX[j]?=ms[j]?
 cur:msX[i]?=some ({ m.1 with args:=(m.1.args.take k).map P++m.1.args.drop k },m.2)
 rows:NdRow wr B NA nc msX
 kept:NdRow wr B KA kc ks
 hcb:wr.heap[cb]?=w.heap[cb]?
 hg:wr.heap[g]?=w.heap[g]?
 hout:Own wr B 3 OA oc (outs.map VNt)
 hn:MkB wr 3 gn ms.length (fun a=>bI (N a))
 hpl:MkB wr 3 gp ms.length (fun a=>VNt (P a))
 keep:DrpK w wr cb (blk OA::ms.flatMap ndB)
 below:Below B w wr
 node:wr.heap[nb]?=some (.cells (ndC m).toArray 77 (0,0))
theorem map_snd_set {ms msX:List (ND × NV)} {i:Nat} {m m':ND × NV} (h:msX.map Prod.snd=ms.map Prod.snd) (hi:msX[i]?=some m) (h2:m'.2=m.2):(msX.set i m').map Prod.snd=ms.map Prod.snd:=by
 rw [←h]
 apply List.ext_getElem?
 intro j
 rw [Kal,Kal,List.getElem?_set]
 split
 ·rename_i e
  subst e
  split
  ·rw [hi]
   simp [h2]
  ·rename_i hl
   rw [List.getElem?_eq_none (by omega)]
 ·rfl
theorem snd_at {ms msX:List (ND × NV)} {i:Nat} {m:ND × NV} (h:msX.map Prod.snd=ms.map Prod.snd) (hi:msX[i]?=some m):(ms.map Prod.snd)[i]?=some m.2:=by
 rw [←h,Kal,hi]
 rfl
section
variable {w wr:World} {B cb g:Nat} {f s d:Bool} {NA:Option Addr} {nc:Nat} {ms:List (ND × NV)} {OA:Option Addr} {oc:Nat} {outs:List Nat} {I0 I1:Option Addr} {m0 k0 m1 k1:Nat} {names:PlacesD}
variable {gn gp:Nat} {N:Nat→Bool} {i k:Nat} {P:Nat→Nat} {m:ND × NV} {nb:Nat} {KA:Option Addr} {kc:Nat} {ks msX:List (ND × NV)}
theorem DrpIn.next {wr':World} (h:DrpIn w wr B cb g NA nc ms OA oc outs gn gp N i k P m nb KA kc ks msX) (hb:Below wr.heap.size wr wr') (hB:B≤wr.heap.size) (hc:cb<wr.heap.size) (hgl:g<wr.heap.size):DrpIn w wr' B cb g NA nc ms OA oc outs gn gp N i k P m nb KA kc ks msX:=
 ⟨h.snd,h.rest,h.cur,h.rows.next hb,h.kept.next hb,(hb.block _ hc).trans h.hcb,(hb.block _ hgl).trans h.hg,h.hout.next hb,h.hn.next hb,h.hpl.next hb,h.keep.next hb,h.below.trans (hb.mono hB),(hb.block _ (Kab.1 h.node).1).trans h.node⟩
theorem DrpIn.step (hS:DgSt w B cb g f s d NA nc ms OA oc outs I0 I1 m0 k0 m1 k1 names) (h:DrpIn w wr B cb g NA nc ms OA oc outs gn gp N i k P m nb KA kc ks msX) (hsub:(ks.map Prod.snd).Sublist ((ms.take i).map Prod.snd)) (hgn:w.heap.size≤gn) (hgp:w.heap.size≤gp)
  {a q ca:Nat} (ha:m.1.args[k]?=some a) (hav:m.2.av=.slice (some ⟨q,0,none⟩) m.1.args.length ca):
  q<w.heap.size∧∃ msX',DrpIn w (wr.setCell ⟨q,k,none⟩ (VNt (P a))) B cb g NA nc ms OA oc outs gn gp N i (k+1) P m nb KA kc ks msX':=by
 have hk:k<m.1.args.length:=(Kaf.1 ha).1
 have hpw:=hS.hp
 rw [flat_nvB] at hpw
 have hp2:=(List.pairwise_cons.1 hpw).2
 have hown:m.2.av.ownBlock=some q:=by rw [hav];rfl
 have hvi:=snd_at h.snd h.cur
 have hqin:some q∈ms.flatMap ndB:=by
  rw [flat_nvB]
  exact List.mem_flatMap.2 ⟨m.2,Kam hvi,by simp [nvB,hown]⟩
 have hql:=hS.blocks (some q) (List.mem_cons_of_mem _ hqin) q rfl
 have hlen:=args_len m.1.args P (Nat.le_of_lt hk)
 obtain ⟨cs,hp⟩:∃ cs,wr.heap[q]?=some (.cells cs 3 (0,0)):=by
  obtain ⟨l1,l2,l3,_,⟨A2,c2,e2,o2⟩,_⟩:=h.rows.2 _ (Kam h.cur)
  have e2:m.2.av=.slice A2 ((m.1.args.take k).map P++m.1.args.drop k).length c2:=e2
  rw [hav] at e2
  injection e2 with e2 _ e2c
  subst e2 e2c
  rcases o2.form with ⟨h0,_⟩ | ⟨g',cur,hA,_,hg,_⟩
  ·cases h0
  ·injection hA with hA
   injection hA with hA _ _
   subst hA
   exact ⟨cur,hg⟩
 have hqB:B≤q:=by
  obtain ⟨l1,l2,l3,_,⟨A2,c2,e2,o2⟩,_⟩:=h.rows.2 _ (Kam h.cur)
  have e2:m.2.av=.slice A2 ((m.1.args.take k).map P++m.1.args.drop k).length c2:=e2
  rw [hav] at e2
  injection e2 with e2 _ e2c
  subst e2
  exact (o2.lt q rfl).1
 have hne:∀ b,b≠q→(wr.setCell ⟨q,k,none⟩ (VNt (P a))).heap[b]?=wr.heap[b]?:=fun b hb=>ZaS _ _ _ hb
 have hoth:∀ j v,(ms.map Prod.snd)[j]?=some v→j≠i→∀ b∈nvB v,b≠some q:=fun j v hj hij=>pair_ne hp2 hvi hj (fun e=>hij e.symm) hown
 refine ⟨hql,msX.set i ({ m.1 with args:=((m.1.args.take k).map P++m.1.args.drop k).set k (P a) },m.2),?_⟩
 refine ⟨map_snd_set h.snd h.cur rfl,fun j hj => ?_,?_,?_,?_,?_,?_,?_,?_,?_,h.keep.set (.inr (.inl (List.mem_cons_of_mem _ hqin))) _,setCell_below' h.below hqB _,?_⟩
 ·rw [List.getElem?_set_ne (by omega)]
  exact h.rest j hj
 ·rw [List.getElem?_set_self (by have:=(Kaf.1 h.cur).1;omega),args_setP _ _ ha]
 ·refine h.rows.setArg (m:=({ m.1 with args:=(m.1.args.take k).map P++m.1.args.drop k },m.2)) h.cur (by rw [hav];show _=Value.slice _ ((m.1.args.take k).map P++m.1.args.drop k).length _;rw [hlen]) (by show k<((m.1.args.take k).map P++m.1.args.drop k).length;rw [hlen];exact hk) (pair_self hp2 hvi hown) (fun j m' hj hij => ?_)
  exact hoth j m'.2 (snd_at h.snd hj) hij
 ·refine h.kept.setOther hp (fun b hb => ?_) _
  obtain ⟨x,hx,hbx⟩:=List.mem_flatMap.1 hb
  have hx2:x.2∈(ms.take i).map Prod.snd:=hsub.subset (List.mem_map.2 ⟨x,hx,rfl⟩)
  obtain ⟨y,hy,hyx⟩:=List.mem_map.1 hx2
  obtain ⟨j,hj⟩:=List.getElem?_of_mem hy
  rw [List.getElem?_take] at hj
  split at hj
  ·rename_i hji
   refine hoth j x.2 (by rw [Kal,hj,←hyx];rfl) (by omega) b ?_
   exact hbx
  ·cases hj
 ·refine (hne cb fun e => ?_).trans h.hcb
  have:=h.hcb.trans hS.hc
  rw [e,hp] at this
  injection this with this
  injection this with _ this _
  exact absurd this (by decide)
 ·refine (hne g fun e => ?_).trans h.hg
  obtain ⟨es,c,h1,_⟩:=hS.hn
  have:=h.hg.trans h1
  rw [e,hp] at this
  cases this
 ·refine own_at h.hout fun b hb=>hne b fun e => ?_
  rcases (List.pairwise_cons.1 hS.hp).1 (some q) hqin with h1 | h1
  ·rw [h1] at hb;cases hb
  ·exact h1 (by rw [hb,e])
 ·exact (hne gn (by omega)).trans h.hn
 ·exact (hne gp (by omega)).trans h.hpl
 ·refine (hne nb fun e => ?_).trans h.node
  have:=h.node
  rw [e,hp] at this
  injection this with this
  injection this with _ this _
  exact absurd this (by decide)
end
structure DrpRel (w wr:World) (B cb g:Nat) (NA:Option Addr) (nc:Nat) (ms:List (ND × NV)) (OA:Option Addr) (oc:Nat) (outs:List Nat) (gn gp:Nat) (N:Nat→Bool) (i:Nat) (R:List ND × (Nat→Nat)) (KA:Option Addr) (kc:Nat) (ks msX:List (ND × NV)):Prop where
 snd:msX.map Prod.snd=ms.map Prod.snd
 rest:∀ j,i≤j→msX[j]?=ms[j]?
 rows:NdRow wr B NA nc msX
 kept:NdRow wr B KA kc ks
 kfst:ks.map Prod.fst=R.1
 ksub:(ks.map Prod.snd).Sublist ((ms.take i).map Prod.snd)
 knew:∀ q,blk KA=some q→w.heap.size≤q
 hcb:wr.heap[cb]?=w.heap[cb]?
 hg:wr.heap[g]?=w.heap[g]?
 hout:Own wr B 3 OA oc (outs.map VNt)
 hn:MkB wr 3 gn ms.length (fun a=>bI (N a))
 hpl:MkB wr 3 gp ms.length (fun a=>VNt (R.2 a))
 keep:DrpK w wr cb (blk OA::ms.flatMap ndB)
 below:Below B w wr
section
variable {w wr:World} {B cb g:Nat} {f s d:Bool} {NA:Option Addr} {nc:Nat} {ms:List (ND × NV)} {OA:Option Addr} {oc:Nat} {outs:List Nat} {I0 I1:Option Addr} {m0 k0 m1 k1:Nat} {names:PlacesD}
variable {gn gp:Nat} {N:Nat→Bool} {i k:Nat} {R:List ND × (Nat→Nat)} {P:Nat→Nat} {m:ND × NV} {nb:Nat} {KA:Option Addr} {kc:Nat} {ks msX:List (ND × NV)}
theorem DrpRel.next {wr':World} (h:DrpRel w wr B cb g NA nc ms OA oc outs gn gp N i R KA kc ks msX) (hb:Below wr.heap.size wr wr') (hB:B≤wr.heap.size) (hc:cb<wr.heap.size) (hgl:g<wr.heap.size):DrpRel w wr' B cb g NA nc ms OA oc outs gn gp N i R KA kc ks msX:=
 ⟨h.snd,h.rest,h.rows.next hb,h.kept.next hb,h.kfst,h.ksub,h.knew,(hb.block _ hc).trans h.hcb,(hb.block _ hgl).trans h.hg,h.hout.next hb,h.hn.next hb,h.hpl.next hb,h.keep.next hb,h.below.trans (hb.mono hB)⟩
theorem DrpRel.skip (h:DrpRel w wr B cb g NA nc ms OA oc outs gn gp N i R KA kc ks msX):DrpRel w wr B cb g NA nc ms OA oc outs gn gp N (i+1) R KA kc ks msX:=by
 refine ⟨h.snd,fun j hj=>h.rest j (by omega),h.rows,h.kept,h.kfst,h.ksub.trans ?_,h.knew,h.hcb,h.hg,h.hout,h.hn,h.hpl,h.keep,h.below⟩
 exact (List.take_sublist_take_left (Nat.le_succ i)).map _
theorem DrpRel.toIn (h:DrpRel w wr B cb g NA nc ms OA oc outs gn gp N i R KA kc ks msX) (hi:ms[i]?=some m) (hnode:wr.heap[nb]?=some (.cells (ndC m).toArray 77 (0,0))):DrpIn w wr B cb g NA nc ms OA oc outs gn gp N i 0 R.2 m nb KA kc ks msX:=
 ⟨h.snd,fun j hj=>h.rest j (by omega),(h.rest i (Kag _)).trans (by rw [hi];simp),h.rows,h.kept,h.hcb,h.hg,h.hout,h.hn,h.hpl,h.keep,h.below,hnode⟩
theorem kept_blocks (hsub:(ks.map Prod.snd).Sublist ((ms.take i).map Prod.snd)):∀ b∈ks.flatMap ndB,b∈ms.flatMap ndB:=by
 intro b hb
 rw [flat_nvB] at hb ⊢
 have h1:=(sub_flat nvB hsub).subset hb
 exact (sub_flat nvB ((List.take_sublist i ms).map Prod.snd)).subset h1
theorem DrpIn.place {p:Nat} (h:DrpIn w wr B cb g NA nc ms OA oc outs gn gp N i k P m nb KA kc ks msX) (hS:DgSt w B cb g f s d NA nc ms OA oc outs I0 I1 m0 k0 m1 k1 names) (ha:∀ a∈m.1.args,a<i) (hi:i<ms.length) (hgp:w.heap.size≤gp) (hne:gn≠gp) (hsub:(ks.map Prod.snd).Sublist ((ms.take i).map Prod.snd)) (hB:B≤w.heap.size):
  DrpIn w (wr.setCell ⟨gp,i,none⟩ (VNt p)) B cb g NA nc ms OA oc outs gn gp N i k (updD P i p) m nb KA kc ks msX:=by
 have hs:∀ b,b≠gp→(wr.setCell ⟨gp,i,none⟩ (VNt p)).heap[b]?=wr.heap[b]?:=fun b hb=>ZaS _ _ _ hb
 obtain ⟨cs,hp⟩:∃ cs,wr.heap[gp]?=some (.cells cs 3 (0,0)):=⟨_,h.hpl⟩
 have hlt:=hS.lt
 have hgl:g<w.heap.size:=by
  obtain ⟨es,c,h1,_⟩:=hS.hn
  exact (Kab.1 h1).1
 have hbl:=hS.blocks
 have hfl:∀ b∈msX.flatMap ndB,b≠some gp:=fun b hb e=>by
  rw [flat_nvB,h.snd,←flat_nvB] at hb
  have:=hbl b (List.mem_cons_of_mem _ hb) gp e
  omega
 refine ⟨h.snd,h.rest,?_,h.rows.setOther hp hfl _,h.kept.setOther hp (fun b hb e => ?_) _,(hs cb (by omega)).trans h.hcb,(hs g (by omega)).trans h.hg,own_at h.hout fun b hb=>hs b fun e => ?_,(hs gn hne).trans h.hn,h.hpl.set hi _ _ (fun a => ?_),h.keep.set (.inr (.inr hgp)) _,setCell_below' h.below (by omega) _,(hs nb fun e => ?_).trans h.node⟩
 ·rw [h.cur]
  have:(m.1.args.take k).map (updD P i p)=(m.1.args.take k).map P:=List.map_congr_left fun a hx=>by
   have:=ha a (List.mem_of_mem_take hx)
   unfold updD
   rw [if_neg (by omega)]
  rw [this]
 ·have:=hbl b (List.mem_cons_of_mem _ (kept_blocks hsub b hb)) gp e
  omega
 ·have:=hbl (blk OA) (List.mem_cons_self ..) b hb
  omega
 ·unfold updD
  split <;> rfl
 ·have:=h.node
  rw [e,hp] at this
  injection this with this
  injection this with _ this _
  exact absurd this (by decide)
theorem DrpIn.push {w8:World} {KA':Option Addr} {kc':Nat} {L:List ND} (h:DrpIn w wr B cb g NA nc ms OA oc outs gn gp N i k P m nb KA kc ks msX) (hS:DgSt w B cb g f s d NA nc ms OA oc outs I0 I1 m0 k0 m1 k1 names) (hi:ms[i]?=some m) (hk:k=m.1.args.length) (hkn:∀ q,blk KA=some q→w.heap.size≤q) (hsub:(ks.map Prod.snd).Sublist ((ms.take i).map Prod.snd)) (hB:B≤w.heap.size)
  (hgr:wr.grownBy w8 (blk KA)) (hr:NdRow w8 B KA' kc' (ks++[({ m.1 with args:=m.1.args.map P },m.2)])) (hA':blk KA'=blk KA∨blk KA'=some wr.heap.size) (hL:(ks++[({ m.1 with args:=m.1.args.map P },m.2)]).map Prod.fst=L):
  DrpRel w w8 B cb g NA nc ms OA oc outs gn gp N (i+1) (L,P) KA' kc' (ks++[({ m.1 with args:=m.1.args.map P },m.2)]) msX:=by
 have hki:KIW wr w8:=KIW.grown hgr (by decide) (by decide) h.kept.form
 have hlt:=hS.lt
 have hgl:g<w.heap.size:=by
  obtain ⟨es,c,h1,_⟩:=hS.hn
  exact (Kab.1 h1).1
 have hsz:=h.keep.1
 have hold:∀ b,b<w.heap.size→w8.heap[b]?=wr.heap[b]?:=fun b hb=>hgr.block b (by omega) fun e=>by have:=hkn b e.symm;omega
 refine ⟨h.snd,fun j hj=>h.rest j (by omega),h.rows.keep hki fun q hq=>hold q (hS.hr.lt q hq).2,hr,hL,?_,fun q hq => ?_,(hold cb hlt).trans h.hcb,(hold g hgl).trans h.hg,own_kiw h.hout (.inl rfl) hki,(hki _ _ _ h.hn (.inl rfl)).trans h.hn,(hki _ _ _ h.hpl (.inl rfl)).trans h.hpl,h.keep.grown hgr hkn,Zal h.below hgr (by omega) fun q hq=>by have:=hkn q hq;omega⟩
 ·rw [List.map_append,List.take_add_one,hi,List.map_append]
  exact hsub.append (List.Sublist.refl _)
 ·rcases hA' with e | e
  ·exact hkn q (e ▸ hq)
  ·rw [e] at hq
   injection hq with hq
   omega
theorem DrpIn.arg (h:DrpIn w wr B cb g NA nc ms OA oc outs gn gp N i k P m nb KA kc ks msX) {a ca:Nat} {AA:Option Addr} (ha:m.1.args[k]?=some a) (hav:m.2.av=.slice AA m.1.args.length ca):
  ∃ q,AA=some ⟨q,0,none⟩∧wr.cell? ⟨q,k,none⟩=some (.int .i64 (a:Int))∧wr.frozen? ⟨q,k,none⟩=false:=by
 have hk:k<m.1.args.length:=(Kaf.1 ha).1
 obtain ⟨l1,l2,l3,_,⟨A2,c2,e2,o2⟩,_⟩:=h.rows.2 _ (Kam h.cur)
 have e2:m.2.av=.slice A2 ((m.1.args.take k).map P++m.1.args.drop k).length c2:=e2
 have o2:Own wr B 3 A2 c2 (((m.1.args.take k).map P++m.1.args.drop k).map VNt):=o2
 rw [hav] at e2
 injection e2 with e2 _ e2c
 subst e2 e2c
 have hx:(((m.1.args.take k).map P++m.1.args.drop k).map VNt)[k]?=some (VNt a):=by rw [Kal,args_nth _ _ ha];rfl
 rcases o2.form with ⟨h0,hz⟩ | ⟨q,cur,hA,_,hg,_⟩
 ·have hl:(((m.1.args.take k).map P++m.1.args.drop k).map VNt).length=0:=by
   cases hq:(((m.1.args.take k).map P++m.1.args.drop k).map VNt) with
   | nil=>rfl
   | cons x r=>rw [hq] at hz;simp at hz
  rw [Kak,args_len _ _ (Nat.le_of_lt hk)] at hl
  omega
 ·subst hA
  exact ⟨q,rfl,o2.cellAt hx,by simp [World.frozen?,hg]⟩
end
theorem appNd2 {w:World} {ops:Array Oper} {rest:List Oper} {o:Oper} {a:Act} {Q:Exit→Act→World→Prop} (hgd:o.guard=none) (s x:Operand)
  (ho:o.op=.call { callee:=.builtin .append,args:=#[s,x],argTypes:=#[66,66] }) (B:Nat)
  (A:Option Addr) (cap n:Nat) (ms:List (ND × NV)) (hn:n=ms.length) (hs:a.eval s=.slice A n cap) (hown:NdRow w B A cap ms)
  (g2:Nat) (hx:a.eval x=.slice (some ⟨g2,0,none⟩) 1 1) (m:ND × NV) (hb:w.heap[g2]?=some (.cells (ndC m).toArray 77 (0,0))) (hm:NdV w B m)
  (hbytes:n≤100000) (hbase:B≤w.heap.size)
  (h:∀ A' cap' w',NdRow w' B A' cap' (ms++[m])→w.grownBy w' (blk A)→(blk A'=blk A∨blk A'=some w.heap.size)→wpList Tryz.prog ops Q rest (a.put o.dst (.slice A' (n+1) cap')) w'):
  wpList Tryz.prog ops Q (o::rest) a w:=by
 obtain ⟨A',cap',w',hrun,r1,r2,r3,_⟩:=run_appNd o.type B A cap n ms hn hown g2 m hb hm hbytes hbase
 refine wpList_plain hgd fun K hK => ?_
 unfold Oper.wp execOp
 simp only [ho,resolve,invoke,builtin,Sem.run_bind,Sem.run_pure,Result.andThen_ok,List.map_toArray,List.map_cons,List.map_nil,hs,hx,hrun]
 exact hK _ _ (h A' cap' w' r1 r2 r3)
structure DrpFin (w wr:World) (B cb g:Nat) (f s d:Bool) (ms:List (ND × NV)) (OA:Option Addr) (oc:Nat) (outs:List Nat) (I0 I1:Option Addr) (m0 k0 m1 k1:Nat) (gp:Nat) (P:Nat→Nat) (k:Nat) (KA:Option Addr) (kc:Nat) (ks:List (ND × NV)):Prop where
 hcb:wr.heap[cb]?=some (.cells #[.bool f,.bool s,.bool d,.slice KA ks.length kc,.slice OA outs.length oc,.slice I0 m0 k0,.slice I1 m1 k1,.map (some g)] 131 (0,0))
 hg:wr.heap[g]?=w.heap[g]?
 kept:NdRow wr B KA kc ks
 hout:Own wr B 3 OA oc (((outs.take k).map P++outs.drop k).map VNt)
 hpl:MkB wr 3 gp ms.length (fun a=>VNt (P a))
 keep:DrpK w wr cb (blk OA::ms.flatMap ndB)
 below:Below B w wr
section
variable {w wr:World} {B cb g:Nat} {f s d:Bool} {NA:Option Addr} {nc:Nat} {ms:List (ND × NV)} {OA:Option Addr} {oc:Nat} {outs:List Nat} {I0 I1:Option Addr} {m0 k0 m1 k1:Nat} {names:PlacesD}
variable {gn gp:Nat} {N:Nat→Bool} {i k:Nat} {R:List ND × (Nat→Nat)} {P:Nat→Nat} {KA:Option Addr} {kc:Nat} {ks msX:List (ND × NV)}
theorem DrpRel.fin (h:DrpRel w wr B cb g NA nc ms OA oc outs gn gp N i R KA kc ks msX) (hS:DgSt w B cb g f s d NA nc ms OA oc outs I0 I1 m0 k0 m1 k1 names) (hgp:w.heap.size≤gp):
  DrpFin w (wr.setCell ⟨cb,3,none⟩ (.slice KA ks.length kc)) B cb g f s d ms OA oc outs I0 I1 m0 k0 m1 k1 gp R.2 0 KA kc ks:=by
 have hc:=h.hcb.trans hS.hc
 have hki:KIW wr (wr.setCell ⟨cb,3,none⟩ (.slice KA ks.length kc)):=KIW.set hc (by decide) (by decide) _
 have hlt:=hS.lt
 refine ⟨heap_setCell_same _ _ _ _ _ _ hc,(ZaS _ _ _ fun e => ?_).trans h.hg,h.kept.keep hki fun q hq=>ZaS _ _ _ fun e => ?_,?_,(ZaS _ _ _ fun e => ?_).trans h.hpl,h.keep.set (.inl rfl) _,setCell_below' h.below hS.b1 _⟩
 ·have e:g=cb:=e
  obtain ⟨es,c,h1,_⟩:=hS.hn
  rw [e,hS.hc] at h1
  cases h1
 ·have e:q=cb:=e
  have:=h.knew q hq
  omega
 ·exact own_kiw h.hout (.inl rfl) hki
 ·have e:gp=cb:=e
  omega
theorem DrpFin.step (h:DrpFin w wr B cb g f s d ms OA oc outs I0 I1 m0 k0 m1 k1 gp P k KA kc ks) (hS:DgSt w B cb g f s d NA nc ms OA oc outs I0 I1 m0 k0 m1 k1 names) (hgp:w.heap.size≤gp) (hsub:(ks.map Prod.snd).Sublist ((ms.take i).map Prod.snd)) {o oq:Nat} (ho:outs[k]?=some o) (hA:OA=some ⟨oq,0,none⟩):
  DrpFin w (wr.setCell ⟨oq,k,none⟩ (VNt (P o))) B cb g f s d ms OA oc outs I0 I1 m0 k0 m1 k1 gp P (k+1) KA kc ks:=by
 subst hA
 have hk:k<outs.length:=(Kaf.1 ho).1
 obtain ⟨cs,hp⟩:∃ cs,wr.heap[oq]?=some (.cells cs 3 (0,0)):=by
  rcases h.hout.form with ⟨h0,_⟩ | ⟨g',cur,hA,_,hg,_⟩
  ·cases h0
  ·injection hA with hA
   injection hA with hA _ _
   subst hA
   exact ⟨cur,hg⟩
 have hql:=hS.blocks (some oq) (List.mem_cons_self ..) oq rfl
 have hqB:=(h.hout.lt oq rfl).1
 have hne:∀ b,b≠oq→(wr.setCell ⟨oq,k,none⟩ (VNt (P o))).heap[b]?=wr.heap[b]?:=fun b hb=>ZaS _ _ _ hb
 refine ⟨(hne cb fun e => ?_).trans h.hcb,(hne g fun e => ?_).trans h.hg,h.kept.setOther hp (fun b hb e => ?_) _,?_,(hne gp (by omega)).trans h.hpl,h.keep.set (.inr (.inl (List.mem_cons_self ..))) _,setCell_below' h.below hqB _⟩
 ·have:=h.hcb
  rw [e,hp] at this
  injection this with this
  injection this with _ this _
  exact absurd this (by decide)
 ·obtain ⟨es,c,h1,_⟩:=hS.hn
  have:=h.hg.trans h1
  rw [e,hp] at this
  cases this
 ·rcases (List.pairwise_cons.1 hS.hp).1 b (kept_blocks hsub b hb) with h1 | h1
  ·cases h1
  ·exact h1 e.symm
 ·have:=h.hout.setAt (k:=k) (by rw [Kak,args_len _ _ (Nat.le_of_lt hk)];exact hk) (VNt (P o))
  rw [←List.map_set,args_setP _ _ ho] at this
  exact this
theorem DrpFin.next {wr':World} (h:DrpFin w wr B cb g f s d ms OA oc outs I0 I1 m0 k0 m1 k1 gp P k KA kc ks) (hb:Below wr.heap.size wr wr') (hB:B≤wr.heap.size) (hgl:g<wr.heap.size):DrpFin w wr' B cb g f s d ms OA oc outs I0 I1 m0 k0 m1 k1 gp P k KA kc ks:=
 ⟨(hb.block _ (Kab.1 h.hcb).1).trans h.hcb,(hb.block _ hgl).trans h.hg,h.kept.next hb,h.hout.next hb,h.hpl.next hb,h.keep.next hb,h.below.trans (hb.mono hB)⟩
theorem DrpFin.arg (h:DrpFin w wr B cb g f s d ms OA oc outs I0 I1 m0 k0 m1 k1 gp P k KA kc ks) {o:Nat} (ho:outs[k]?=some o):
  ∃ q,OA=some ⟨q,0,none⟩∧wr.cell? ⟨q,k,none⟩=some (.int .i64 (o:Int))∧wr.frozen? ⟨q,k,none⟩=false:=by
 have hk:k<outs.length:=(Kaf.1 ho).1
 have hx:(((outs.take k).map P++outs.drop k).map VNt)[k]?=some (VNt o):=by rw [Kal,args_nth _ _ ho];rfl
 have o2:=h.hout
 rcases o2.form with ⟨h0,hz⟩ | ⟨q,cur,hA,_,hg,_⟩
 ·have hl:(((outs.take k).map P++outs.drop k).map VNt).length=0:=by
   cases hq:(((outs.take k).map P++outs.drop k).map VNt) with
   | nil=>rfl
   | cons x r=>rw [hq] at hz;simp at hz
  rw [Kak,args_len _ _ (Nat.le_of_lt hk)] at hl
  omega
 ·subst hA
  exact ⟨q,rfl,o2.cellAt hx,by simp [World.frozen?,hg]⟩
theorem DrpFin.done (h:DrpFin w wr B cb g f s d ms OA oc outs I0 I1 m0 k0 m1 k1 gp P k KA kc ks) (hS:DgSt w B cb g f s d NA nc ms OA oc outs I0 I1 m0 k0 m1 k1 names) (hsub:(ks.map Prod.snd).Sublist ((ms.take i).map Prod.snd)) (hk:k=outs.length):
  DgSt wr B cb g f s d KA kc ks OA oc (outs.map P) I0 I1 m0 k0 m1 k1 names:=by
 subst hk
 refine ⟨hS.b1,hS.b2,?_,?_,h.kept,?_,?_⟩
 ·rw [Kak]
  exact h.hcb
 ·obtain ⟨es,c,h1,h2⟩:=hS.hn
  exact ⟨es,c,h.hg.trans h1,h2⟩
 ·have:=h.hout
  rw [List.take_length,List.drop_length,List.append_nil] at this
  exact this
 ·refine List.Pairwise.sublist (List.Sublist.cons_cons _ ?_) hS.hp
  rw [flat_nvB,flat_nvB]
  exact (sub_flat nvB hsub).trans (sub_flat nvB ((List.take_sublist i ms).map Prod.snd))
end
theorem keepD_succ (l:List ND) (m:Nat→Bool) (i:Nat):keepD l m (i+1)=if m i=true then ((keepD l m i).1++[{ atD l i with args:=(atD l i).args.map (keepD l m i).2 }],updD (keepD l m i).2 i (keepD l m i).1.length) else keepD l m i:=rfl
theorem res_drop (t:Array Value) (w:World):(results Tryz.f66 t).run Tryz.prog w=.ok (.tuple #[]) w:=by kernel_rfl
theorem drop_any (in0 in1:List (List Int)) (B cb g:Nat) (f s d:Bool) (NA:Option Addr) (nc:Nat) (ms:List (ND × NV)) (OA:Option Addr) (oc:Nat) (outs:List Nat) (I0 I1:Option Addr) (m0 k0 m1 k1:Nat) (names:PlacesD) (w:World)
  (hS:DgSt w B cb g f s d NA nc ms OA oc outs I0 I1 m0 k0 m1 k1 names) (hw:WfD in0 in1 (ms.map Prod.fst)) (ho:∀ o∈outs,o<ms.length) (hl:ms.length≤1000) (hol:outs.length≤1000):
  Calls Tryz.prog 66 #[.pointer (some ⟨cb,3,none⟩)] w fun e w'=>e=.returned (.tuple #[])∧∃ NA' nc' ms' outs',ms'.map Prod.fst=(dropD (ms.map Prod.fst) outs).1∧outs'=(dropD (ms.map Prod.fst) outs).2∧DgSt w' B cb g f s d NA' nc' ms' OA oc outs' I0 I1 m0 k0 m1 k1 names∧Below B w w'∧DrpK w w' cb (blk OA::ms.flatMap ndB):=by
 have hBw:B≤w.heap.size:=Kah hS.b1 (Nat.le_of_lt hS.lt)
 have hcw:=hS.lt
 have hgw:g<w.heap.size:=by
  obtain ⟨es,c,h1,_⟩:=hS.hn
  exact (Kab.1 h1).1
 obtain ⟨l,hl0⟩:∃ l,l=ms.map Prod.fst:=⟨_,rfl⟩
 obtain ⟨N,hN⟩:∃ N,N=needD l outs:=⟨_,rfl⟩
 obtain ⟨LD,hLD⟩:∃ F:Nat→List ND × (Nat→Nat),F=fun i=>keepD l N i:=⟨_,rfl⟩
 have HL:=hid hl0
 have HN:=hid hN
 have HLD:=hid (show ∀ i,LD i=keepD l N i from fun i=>by rw [hLD])
 have HAH:=hid (show ∀ i m,ms[i]?=some m→∀ a∈m.1.args,a<i from fun i m hm=>(hw i m.1 (by rw [Kal,hm];rfl)).ahead)
 have HAT:=hid (show ∀ i m,ms[i]?=some m→atD l i=m.1 from fun i m hm=>atD_some (by rw [hl0,Kal,hm];rfl))
 have HDR:=hid (show dropD l outs=((LD l.length).1,outs.map (LD l.length).2) from by rw [hLD,hN];rfl)
 have HLL:=hid (show l.length=ms.length from by rw [hl0,Kak])
 rw [←hl0]
 clear hl0 hN hLD hw
 obtain ⟨gn,hgn⟩:∃ b,b=w.heap.size:=⟨_,rfl⟩
 obtain ⟨W0,hW0⟩:∃ W0,W0=w.alloc (.cells ((List.range ms.length).map fun _=>bI false).toArray 3):=⟨_,rfl⟩
 have hm0:MkB W0 3 gn ms.length (fun _=>bI false):=by rw [hW0,hgn];exact Kac w _
 have hb0:Below w.heap.size w W0:=by rw [hW0];exact alloc_below _ _
 have hmk:(Instr.makeSlice 41 (.int .i64 (ms.length:Int)) (.int .i64 (ms.length:Int))).run Tryz.prog w=.ok (.slice (some ⟨gn,0,none⟩) ms.length ms.length) W0:=by
  rw [hW0,hgn];exact Zfw ms.length (by omega) w (ms.length:Int) (by simp)
 have HGN:=hid (show w.heap.size≤gn from Nat.le_of_eq hgn.symm)
 have HS:=hid hS
 have HO:=hid ho
 have HBw:=hid hBw
 have HCW:=hid hcw
 have HGW:=hid hgw
 have HC:=hid (show ∀ W,Below w.heap.size w W→W.cell? ⟨cb,3,none⟩=some (.slice NA ms.length nc)∧W.cell? ⟨cb,4,none⟩=some (.slice OA outs.length oc) from fun W hW=>⟨(hS.next hW).cells.2.2.2.1,(hS.next hW).cells.2.2.2.2.1⟩)
 have HM0:=hid hm0
 have HB0:=hid hb0
 have cc3:=(HC.out w (Kai _ _)).1
 have cc4:=(HC.out W0 hb0).2
 clear hW0 hgn hm0 hb0 hS ho hBw hcw hgw
 go_enter Tryz.func66,Tryz.ntmps66
 go_wp2_with fail
 clear hmk cc3 cc4
 go_loopw [27] (fun iv wr=>(∃ k:Nat,k≤outs.length∧iv=.int .i64 k∧MkB wr 3 gn ms.length (fun a=>bI ((outs.take k).any fun b=>b==a)))∧Below w.heap.size w wr) (fun iv _=>outs.length-(intOf iv).toNat)
 case atStart=>exact ⟨⟨0,by omega,rfl,by simpa using HM0.out⟩,HB0.out⟩
 case round=>
  clear HM0 HB0
  obtain ⟨⟨k,hk,rfl,hM⟩,hb⟩:=hrel
  have HM:=hid hM
  have HB:=hid hb
  clear hM hb
  by_cases hlk:k<outs.length
  ·have ht:outs[k]?=some (outs[k]'hlk):=Kad _
   obtain ⟨o,hoo⟩:∃ a,a=outs[k]'hlk:=⟨_,rfl⟩
   rw [←hoo] at ht
   have hool:=HO.out o (Kam ht)
   obtain ⟨b,p,hOA,hbl,d1⟩:=(HS.out.next HB.out).ho.rd.at_ (show (outs.map VNt)[k]?=some (VNt o) by rw [Kal,ht];rfl)
   subst hOA
   have d0:wr.cell? ⟨b,p+k,none⟩=some (.int .i64 (o:Int)):=d1
   clear d1
   have k0:(0:Int)≤(k:Int):=by omega
   have k1:(k:Int)<(outs.length:Int):=by omega
   have o0:(0:Int)≤(o:Int):=by omega
   have o1:(o:Int)<(ms.length:Int):=by omega
   have fa:=HM.out.free o
   have HST:=hid (HM.out.set (i:=o) hool (.int .i64 1) (fun y=>bI ((outs.take (k+1)).any fun b=>b==y)) (fun y=>by
    rw [outs_step ht]
    split <;> rfl))
   have HBT:=hid (Zaf (k:=o) HB.out HGN.out (.int .i64 1))
   clear ht hoo hbl
   have ca:=HM.out.cell (i:=o) (by omega)
   go_wp2
   exact ⟨⟨⟨k+1,by omega,rfl,HST.out⟩,HBT.out⟩,by simp [intOf];omega⟩
  ·obtain rfl:k=outs.length:=by omega
   have HX:=hid (show MkB wr 3 gn ms.length (fun a=>bI (outs.any fun b=>b==a)) from by
    have:=HM.out
    rw [List.take_length] at this
    exact this)
   clear HM hk
   have c3:=(HC.out wr HB.out).1
   go_wp2_with fail
   clear c3
   go_loopw [5] (fun iv wr=>(∃ (j:Nat) (m:Nat→Bool),j≤ms.length∧iv=.int .i64 ((j:Int)-1)∧N=markD l j m∧MkB wr 3 gn ms.length (fun a=>bI (m a)))∧Below w.heap.size w wr) (fun iv _=>(intOf iv+1).toNat)
   case atStart=>exact ⟨⟨ms.length,_,Kag _,rfl,by rw [HN.out];unfold needD;rw [HLL.out],HX.out⟩,HB.out⟩
   case round=>
    clear HX HB
    obtain ⟨⟨j,m,hj,rfl,hwm,hM⟩,hb⟩:=hrel
    have HW:=hid hwm
    have HM:=hid hM
    have HB:=hid hb
    clear hwm hM hb
    match j,hj,HW with
    | 0,hj,HW=>
     rw [show (((0:Nat):Int)-1) = -1 by omega]
     have HM:=hid (show MkB wr 3 gn ms.length (fun a=>bI (N a)) from by rw [HW.out];exact HM.out)
     clear HW
     obtain ⟨gp,hgp⟩:∃ b,b=wr.heap.size:=⟨_,rfl⟩
     obtain ⟨W1,hW1⟩:∃ W1,W1=wr.alloc (.cells ((List.range ms.length).map fun _=>bI false).toArray 3):=⟨_,rfl⟩
     have hmk2:(Instr.makeSlice 41 (.int .i64 (ms.length:Int)) (.int .i64 (ms.length:Int))).run Tryz.prog wr=.ok (.slice (some ⟨gp,0,none⟩) ms.length ms.length) W1:=by
      rw [hW1,hgp];exact Zfw ms.length (by omega) wr (ms.length:Int) (by simp)
     have hbW:Below wr.heap.size wr W1:=by rw [hW1];exact alloc_below _ _
     have hbX:Below w.heap.size w W1:=bnext HB.out hbW
     have HGP:=hid (show w.heap.size≤gp from by rw [hgp];exact HB.out.size)
     have HGG:=hid (show gn≠gp from by have:=HM.out.lt;omega)
     have hmp:MkB W1 3 gp ms.length (fun a=>VNt ((LD 0).2 a)):=by
      rw [HLD.out]
      show W1.heap[gp]?=_
      rw [hW1,hgp]
      refine (Kac wr _).trans ?_
      rw [mkb_vnt]
      rfl
     have HR0:=hid (show DrpRel w W1 B cb g NA nc ms OA oc outs gn gp N 0 (LD 0) none 0 [] ms from
      ⟨rfl,fun _ _=>rfl,(HS.out.next hbX).hr,NdRow.nil _ _,by rw [HLD.out];rfl,by simp,fun q hq=>(by cases hq),hbX.block _ HCW.out,hbX.block _ HGW.out,(HS.out.next hbX).ho,HM.out.next hbW,hmp,DrpK.of hbX,hbX.mono HBw.out⟩)
     have c3:=(HC.out wr HB.out).1
     have c3':=(HC.out W1 hbX).1
     clear hgp hW1 hbW hbX HM HB hmp
     go_wp2_with fail
     clear hmk2 c3 c3'
     go_loopw [9,80] (fun xv iv wr=>∃ (i:Nat) (KA:Option Addr) (kc:Nat) (ks msX:List (ND × NV)),i≤ms.length∧iv=.int .i64 i∧xv=.slice KA ks.length kc∧DrpRel w wr B cb g NA nc ms OA oc outs gn gp N i (LD i) KA kc ks msX) (fun _ iv _=>ms.length-(intOf iv).toNat)
     case atStart=>exact ⟨0,none,0,[],ms,by omega,rfl,rfl,HR0.out⟩
     case round=>
      clear HR0
      obtain ⟨i,KA,kc,ks,msX,hi,rfl,rfl,hR⟩:=hrel
      have HR:=hid hR
      clear hR
      by_cases hlt:i<ms.length
      ·obtain ⟨⟨n,⟨sv,av,ev⟩⟩,hmm⟩:∃ x,ms[i]?=some x:=⟨ms[i]'(by omega),Kad (by omega)⟩
       obtain ⟨q,hNA,hql,hc,hv⟩:=HR.out.rows.at_ ((HR.out.rest i (Kag _)).trans hmm)
       subst hNA
       obtain ⟨_,hla,_,⟨A1,d1,e1,_⟩,⟨AA,ca,e2,_⟩,A3,d3,e3,_⟩:=hv
       change sv=.slice A1 n.shape.length d1 at e1
       change av=.slice AA n.args.length ca at e2
       change ev=.slice A3 n.elems.length d3 at e3
       subst e1 e2 e3
       change n.args.length≤1000000 at hla
       have c0:wr.cell? ⟨q,i*7,none⟩=some (.int .i64 n.kind):=hc 0 _ rfl (by omega)
       have c1:wr.cell? ⟨q,i*7+1,none⟩=some (.slice A1 n.shape.length d1):=hc 1 _ rfl (by omega)
       have c2:wr.cell? ⟨q,i*7+2,none⟩=some (.slice AA n.args.length ca):=hc 2 _ rfl (by omega)
       have c3:wr.cell? ⟨q,i*7+3,none⟩=some (.int .i64 n.party):=hc 3 _ rfl (by omega)
       have c4:wr.cell? ⟨q,i*7+4,none⟩=some (.int .i64 n.input):=hc 4 _ rfl (by omega)
       have c5:wr.cell? ⟨q,i*7+5,none⟩=some (.int .i64 n.k):=hc 5 _ rfl (by omega)
       have c6:wr.cell? ⟨q,i*7+6,none⟩=some (.slice A3 n.elems.length d3):=hc 6 _ rfl (by omega)
       obtain ⟨w5,hw5⟩:∃ w5,w5=wr.alloc (.cells #[.int .i64 n.kind,.slice A1 n.shape.length d1,.slice AA n.args.length ca,.int .i64 n.party,.int .i64 n.input,.int .i64 n.k,.slice A3 n.elems.length d3] 77):=⟨_,rfl⟩
       obtain ⟨nb,hnb⟩:∃ q,q=wr.heap.size:=⟨_,rfl⟩
       have hb5:Below wr.heap.size wr w5:=by rw [hw5];exact alloc_below _ _
       have hsz:=HR.out.keep.1
       have HN5:=hid (show w5.heap[nb]?=some (.cells (ndC (n,⟨.slice A1 n.shape.length d1,.slice AA n.args.length ca,.slice A3 n.elems.length d3⟩)).toArray 77 (0,0)) from by rw [hw5,hnb];exact Kac wr _)
       have HR5:=hid (HR.out.next hb5 (Kah HBw.out hsz) (Kae HCW.out hsz) (Kae HGW.out hsz))
       have HMM:=hid hmm
       have HW5:=hid hw5
       have HNB:=hid hnb
       have i0:(0:Int)≤(i:Int):=by omega
       have i1:(i:Int)<(ms.length:Int):=by omega
       clear hmm hql hc hw5 hnb hb5 hsz
       go_upto_region 19 with fail
       rw [←HW5.out,←HNB.out]
       clear c0 c1 c2 c3 c4 c5 c6
       have ci:=HR5.out.hn.cell (i:=i) hlt
       have HLN:=hid (show LD (i+1)=if N i=true then ((LD i).1++[{ n with args:=n.args.map (LD i).2 }],updD (LD i).2 i (LD i).1.length) else LD i from by
        have:=HAT.out i _ HMM.out
        rw [HLD.out,HLD.out,keepD_succ,this])
       cases hNi:N i with
       | false=>
        rw [hNi] at ci
        simp only [bI,Bool.false_eq_true,if_false] at ci
        have HLN:=hid (show LD (i+1)=LD i from by rw [HLN.out,hNi];rfl)
        clear hNi
        go_wp2_with fail
        exact ⟨⟨i+1,KA,kc,ks,msX,by omega,rfl,rfl,by rw [HLN.out];exact HR5.out.skip⟩,by simp [intOf];omega⟩
       | true=>
        rw [hNi] at ci
        simp only [bI,if_true] at ci
        have HLN:=hid (show LD (i+1)=((LD i).1++[{ n with args:=n.args.map (LD i).2 }],updD (LD i).2 i (LD i).1.length) from by rw [HLN.out,hNi];rfl)
        have HIN:=hid (HR5.out.toIn HMM.out HN5.out)
        have HAHn:=hid (show ∀ a∈n.args,a<i from HAH.out i _ HMM.out)
        have c2:w5.cell? ⟨nb,2,none⟩=some (.slice AA n.args.length ca):=cells_node HN5.out 2 _ rfl
        clear hNi
        go_wp2_with fail
        clear ci c2
        go_loopw [93] (fun kv wr2=>∃ (k:Nat) (msY:List (ND × NV)),k≤n.args.length∧kv=.int .i64 k∧DrpIn w wr2 B cb g (some ⟨q,0,none⟩) nc ms OA oc outs gn gp N i k (LD i).2 (n,⟨.slice A1 n.shape.length d1,.slice AA n.args.length ca,.slice A3 n.elems.length d3⟩) nb KA kc ks msY) (fun kv _=>n.args.length-(intOf kv).toNat)
        case atStart=>exact ⟨0,msX,by omega,rfl,HIN.out⟩
        case round=>
         clear HIN HN5
         obtain ⟨k,msY,hk,rfl,hI⟩:=hrel
         have HI:=hid hI
         have hsz:=HI.out.keep.1
         by_cases hlk:k<n.args.length
         ·have ht:n.args[k]?=some (n.args[k]'hlk):=Kad _
          obtain ⟨a,hx⟩:∃ d,d=n.args[k]'hlk:=⟨_,rfl⟩
          rw [←hx] at ht
          have ha:=HAHn.out a (Kam ht)
          obtain ⟨qa,hAA,d0,fq⟩:=hI.arg ht rfl
          subst hAA
          have c2:wr.cell? ⟨nb,2,none⟩=some (.slice (some ⟨qa,0,none⟩) n.args.length ca):=cells_node HI.out.node 2 _ rfl
          have cp:=HI.out.hpl.cell (i:=a) (by omega)
          unfold VNt at cp
          have k0:(0:Int)≤(k:Int):=by omega
          have k1:(k:Int)<(n.args.length:Int):=by omega
          have a0:(0:Int)≤(a:Int):=by omega
          have a1:(a:Int)<(ms.length:Int):=by omega
          obtain ⟨_,msZ,hZ⟩:=DrpIn.step HS.out (hI.next (Kai _ _).drew (Kah HBw.out hsz) (Kae HCW.out hsz) (Kae HGW.out hsz)) HR5.out.ksub HGN.out HGP.out ht rfl
          have HZ:=hid hZ
          clear hI hsz ht hx hZ
          go_wp2_with fail
          go_region
          all_goals
           go_wp2
           exact ⟨⟨k+1,msZ,by omega,rfl,HZ.out⟩,by simp [intOf];omega⟩
         ·obtain rfl:n.args.length=k:=by omega
          have hkl:ks.length≤i:=by
           have:=HR5.out.ksub.length_le
           rw [Kak,Kak,List.length_take] at this
           omega
          have cg:=HI.out.hpl.cell (i:=i) hlt
          have fp:=HI.out.hpl.free i
          obtain ⟨wA,hwA⟩:∃ wA,wA=wr.setCell ⟨gp,i,none⟩ (.int .i64 (ks.length:Int)):=⟨_,rfl⟩
          have HA:=hid (show DrpIn w wA B cb g (some ⟨q,0,none⟩) nc ms OA oc outs gn gp N i n.args.length (updD (LD i).2 i ks.length) (n,⟨.slice A1 n.shape.length d1,.slice AA n.args.length ca,.slice A3 n.elems.length d3⟩) nb KA kc ks msY from by rw [hwA];exact hI.place HS.out HAHn.out hlt HGP.out HGG.out HR5.out.ksub HBw.out)
          have hszA:=HA.out.keep.1
          have hbB:Below wA.heap.size wA (wA.alloc (.cells #[.int .i64 n.kind,.slice A1 n.shape.length d1,.slice AA n.args.length ca,.int .i64 n.party,.int .i64 n.input,.int .i64 n.k,.slice A3 n.elems.length d3] 77)):=alloc_below _ _
          have HB:=hid (HA.out.next hbB (Kah HBw.out hszA) (Kae HCW.out hszA) (Kae HGW.out hszA))
          have HNB:=hid (show (wA.alloc (.cells #[.int .i64 n.kind,.slice A1 n.shape.length d1,.slice AA n.args.length ca,.int .i64 n.party,.int .i64 n.input,.int .i64 n.k,.slice A3 n.elems.length d3] 77)).heap[wA.heap.size]?=some (.cells (ndC (({ n with args:=n.args.map (updD (LD i).2 i ks.length) }:ND),(⟨.slice A1 n.shape.length d1,.slice AA n.args.length ca,.slice A3 n.elems.length d3⟩:NV))).toArray 77 (0,0)) from Kac wA _)
          have HNV:=hid (show NdV (wA.alloc (.cells #[.int .i64 n.kind,.slice A1 n.shape.length d1,.slice AA n.args.length ca,.int .i64 n.party,.int .i64 n.input,.int .i64 n.k,.slice A3 n.elems.length d3] 77)) B (({ n with args:=n.args.map (updD (LD i).2 i ks.length) }:ND),(⟨.slice A1 n.shape.length d1,.slice AA n.args.length ca,.slice A3 n.elems.length d3⟩:NV)) from by
           have:=HB.out.rows.2 _ (Kam HB.out.cur)
           have e:((n.args.take n.args.length).map (updD (LD i).2 i ks.length)++n.args.drop n.args.length)=n.args.map (updD (LD i).2 i ks.length):=by rw [List.take_length,List.drop_length,List.append_nil]
           dsimp only at this
           rw [e] at this
           exact this)
          have HWA:=hid hwA
          have HLZ:=hid (show LD (i+1)=((ks++[(({ n with args:=n.args.map (updD (LD i).2 i ks.length) }:ND),(⟨.slice A1 n.shape.length d1,.slice AA n.args.length ca,.slice A3 n.elems.length d3⟩:NV))]).map Prod.fst,updD (LD i).2 i ks.length) from by
           have hkf:=HR5.out.kfst
           have hlen:ks.length=(LD i).1.length:=by rw [←hkf,Kak]
           have hargs:n.args.map (updD (LD i).2 i ks.length)=n.args.map (LD i).2:=List.map_congr_left fun a ha=>by
            unfold updD
            rw [if_neg (by have:=HAHn.out a ha;omega)]
           rw [HLN.out,List.map_append,hkf,←hlen,hargs]
           rfl)
          have a0:wA.cell? ⟨nb,0,none⟩=some (.int .i64 n.kind):=cells_node HA.out.node 0 _ rfl
          have a1:wA.cell? ⟨nb,1,none⟩=some (.slice A1 n.shape.length d1):=cells_node HA.out.node 1 _ rfl
          have a2:wA.cell? ⟨nb,2,none⟩=some (.slice AA n.args.length ca):=cells_node HA.out.node 2 _ rfl
          have a3:wA.cell? ⟨nb,3,none⟩=some (.int .i64 n.party):=cells_node HA.out.node 3 _ rfl
          have a4:wA.cell? ⟨nb,4,none⟩=some (.int .i64 n.input):=cells_node HA.out.node 4 _ rfl
          have a5:wA.cell? ⟨nb,5,none⟩=some (.int .i64 n.k):=cells_node HA.out.node 5 _ rfl
          have a6:wA.cell? ⟨nb,6,none⟩=some (.slice A3 n.elems.length d3):=cells_node HA.out.node 6 _ rfl
          have HBZ:=hid (Kah (Kah HBw.out hszA) hbB.size)
          clear hI hsz hwA hszA hbB hk hlk
          go_upto_region 26 with fail
          rw [←HWA.out]
          clear cg fp
          go_wp2_with (at_builtin;(refine appNd2 rfl (.tmp 112) (.tmp 114) rfl B KA kc ks.length ks rfl rfl HB.out.kept wA.heap.size rfl (({ n with args:=n.args.map (updD (LD i).2 i ks.length) }:ND),(⟨.slice A1 n.shape.length d1,.slice AA n.args.length ca,.slice A3 n.elems.length d3⟩:NV)) HNB.out HNV.out (by omega) HBZ.out ?_);intro KA2 kc2 w8 r8 g8 k8)
          exact ⟨⟨i+1,KA2,kc2,ks++[(({ n with args:=n.args.map (updD (LD i).2 i ks.length) }:ND),(⟨.slice A1 n.shape.length d1,.slice AA n.args.length ca,.slice A3 n.elems.length d3⟩:NV))],msY,by omega,rfl,(show Value.slice KA2 (ks.length+1) kc2=.slice KA2 (ks++[(({ n with args:=n.args.map (updD (LD i).2 i ks.length) }:ND),(⟨.slice A1 n.shape.length d1,.slice AA n.args.length ca,.slice A3 n.elems.length d3⟩:NV))]).length kc2 from by rw [List.length_append,List.length_singleton]),by rw [HLZ.out];exact HB.out.push HS.out HMM.out rfl HR5.out.knew HR5.out.ksub HBw.out g8 r8 k8 rfl⟩,by simp [intOf];omega⟩
      ·obtain rfl:ms.length=i:=by omega
       have hc:=HR.out.hcb.trans HS.out.hc
       have c3:wr.cell? ⟨cb,3,none⟩=some (.slice NA ms.length nc):=Kaa _ _ 3 _ _ _ hc
       have f3:wr.frozen? ⟨cb,3,none⟩=false:=by simp [World.frozen?,hc]
       obtain ⟨wF,hwF⟩:∃ wF,wF=wr.setCell ⟨cb,3,none⟩ (.slice KA ks.length kc):=⟨_,rfl⟩
       have HF:=hid (show DrpFin w wF B cb g f s d ms OA oc outs I0 I1 m0 k0 m1 k1 gp (LD ms.length).2 0 KA kc ks from by rw [hwF];exact HR.out.fin HS.out HGP.out)
       have HKF:=hid HR.out.kfst
       have HKS:=hid HR.out.ksub
       have HWF:=hid hwF
       have c4:wF.cell? ⟨cb,4,none⟩=some (.slice OA outs.length oc):=Kaa _ _ 4 _ _ _ HF.out.hcb
       clear hc hwF HR hi hlt
       go_upto_region 29 with fail
       rw [←HWF.out]
       clear c3 f3
       go_wp2_with fail
       clear c4
       go_loopw [126] (fun kv wr=>∃ k:Nat,k≤outs.length∧kv=.int .i64 k∧DrpFin w wr B cb g f s d ms OA oc outs I0 I1 m0 k0 m1 k1 gp (LD ms.length).2 k KA kc ks) (fun kv _=>outs.length-(intOf kv).toNat)
       case atStart=>exact ⟨0,by omega,rfl,HF.out⟩
       case round=>
        clear HF
        obtain ⟨k,hk,rfl,hF⟩:=hrel
        have HF:=hid hF
        have hsz:=HF.out.keep.1
        by_cases hlk:k<outs.length
        ·have ht:outs[k]?=some (outs[k]'hlk):=Kad _
         obtain ⟨o,hx⟩:∃ d,d=outs[k]'hlk:=⟨_,rfl⟩
         rw [←hx] at ht
         have hoo:=HO.out o (Kam ht)
         obtain ⟨qo,hOA,d0,fq⟩:=hF.arg ht
         have HZ:=hid (DrpFin.step (hF.next (Kai _ _).drew (Kah HBw.out hsz) (Kae HGW.out hsz)) HS.out HGP.out HKS.out ht hOA)
         subst hOA
         have c4:wr.cell? ⟨cb,4,none⟩=some (.slice (some ⟨qo,0,none⟩) outs.length oc):=Kaa _ _ 4 _ _ _ hF.hcb
         have cp:=HF.out.hpl.cell (i:=o) (by omega)
         unfold VNt at cp
         have k0':(0:Int)≤(k:Int):=by omega
         have k1':(k:Int)<(outs.length:Int):=by omega
         have o0:(0:Int)≤(o:Int):=by omega
         have o1:(o:Int)<(ms.length:Int):=by omega
         clear hF hsz ht hx hoo
         go_wp2_with fail
         go_region
         all_goals
          go_wp2
          exact ⟨⟨k+1,by omega,rfl,HZ.out⟩,by simp [intOf];omega⟩
        ·obtain rfl:k=outs.length:=by omega
         clear hk hlk hsz hF
         go_wp2
         exact ⟨rfl,.tuple #[],res_drop _ _,rfl,KA,kc,ks,outs.map (LD ms.length).2,by rw [HDR.out,HLL.out];exact HKF.out,by rw [HDR.out,HLL.out],HF.out.done HS.out HKS.out rfl,HF.out.below,HF.out.keep⟩
    | i+1,hj,HW=>
     obtain ⟨mm,hmm⟩:∃ x,ms[i]?=some x:=⟨ms[i]'(by omega),Kad (by omega)⟩
     have hat:=HAT.out i mm hmm
     obtain ⟨q,hNA,hql,hc,hv⟩:=HS.out.hr.at_ hmm
     subst hNA
     obtain ⟨_,l2,_,_,⟨AA,ca,e2,o2⟩,_⟩:=hv
     have c2:=(HB.out.cell (p:=⟨q,i*7+2,none⟩) hql).trans (hc 2 _ rfl (by omega))
     rw [e2] at c2
     obtain ⟨args,hargs⟩:∃ x,x=mm.1.args:=⟨_,rfl⟩
     rw [←hargs] at c2 o2 l2
     have HWA:=hid (show (atD l i).args=args from by rw [hat,hargs])
     have hah:=HAH.out i mm hmm
     rw [←hargs] at hah
     have HAA:=hid hah
     have HRA:=hid (show ∀ W,Below w.heap.size w W→Rd W W.heap.size AA (args.map VNt) from fun W hW=>o2.rd.next hW)
     rw [show (((i+1:Nat):Int)-1)=(i:Int) by omega]
     have i0:(0:Int)≤(i:Int):=by omega
     have i1:(i:Int)<(ms.length:Int):=by omega
     have c3:=(HC.out wr HB.out).1
     clear hmm hat hc e2 o2 hargs hah
     go_wp2_with fail
     clear c3 c2
     go_loopw [54] (fun kv wr=>(∃ k:Nat,k≤args.length∧kv=.int .i64 k∧MkB wr 3 gn ms.length (fun a=>bI (mrkN m i args k a)))∧Below w.heap.size w wr) (fun kv _=>args.length-(intOf kv).toNat)
     case atStart=>exact ⟨⟨0,by omega,rfl,by rw [mrkN_zero];exact HM.out⟩,HB.out⟩
     case round=>
      clear HM HB
      obtain ⟨⟨k,hk,rfl,hM⟩,hb⟩:=hrel
      have HM:=hid hM
      have HB:=hid hb
      clear hM hb
      by_cases hlk:k<args.length
      ·have ht:args[k]?=some (args[k]'hlk):=Kad _
       obtain ⟨a,hx⟩:∃ d,d=args[k]'hlk:=⟨_,rfl⟩
       rw [←hx] at ht
       have ha:=HAA.out a (Kam ht)
       obtain ⟨b2,o2,hAA,hbl2,d1⟩:=(HRA.out _ HB.out).at_ (show (args.map VNt)[k]?=some (VNt a) by rw [Kal,ht];rfl)
       subst hAA
       have d0:wr.cell? ⟨b2,o2+k,none⟩=some (.int .i64 (a:Int)):=d1
       have k0:(0:Int)≤(k:Int):=by omega
       have k1:(k:Int)<(args.length:Int):=by omega
       have a0:(0:Int)≤(a:Int):=by omega
       have a1:(a:Int)<(ms.length:Int):=by omega
       have ca:=HM.out.cell (i:=a) (by omega)
       have ci:=HM.out.cell (i:=i) (by omega)
       rw [mrkN_self HAA.out] at ci
       have fa:=HM.out.free a
       have HST:=hid (fun v (hv:v=bI (mrkN m i args k a||m i))=>HM.out.drew.set (i:=a) (by omega) v (fun y=>bI (mrkN m i args (k+1) y)) (fun y=>by
        rw [mrkN_step m i args ht y,hv]
        split <;> rfl))
       have HBT:=hid (fun v=>Zaf (k:=a) HB.out.drew HGN.out v)
       obtain ⟨ba,hba⟩:∃ ba,ba=mrkN m i args k a:=⟨_,rfl⟩
       rw [←hba] at ca HST
       obtain ⟨bi,hbi⟩:∃ bi,bi=m i:=⟨_,rfl⟩
       rw [←hbi] at ci HST
       clear ht hx hba hbi hbl2 d1
       cases ba <;> cases bi
       all_goals
        simp only [bI,if_true,Bool.false_eq_true,if_false] at ca ci
        go_wp2_with fail
        go_region
        all_goals
         go_wp2
         exact ⟨⟨⟨k+1,by omega,rfl,HST.out _ rfl⟩,HBT.out _⟩,by simp [intOf];omega⟩
      ·obtain rfl:args.length=k:=by omega
       have HX:=hid (show N=markD l i (mrkN m i args args.length) from by rw [HW.out,markD_step,HWA.out])
       clear hk hlk
       go_wp2
       exact ⟨⟨⟨i,_,by omega,rfl,HX.out,HM.out⟩,HB.out⟩,by simp [intOf]⟩
structure BldInv (f s:Bool) (ss:List SI) (es:List EI) (sh:List (List Int)) (rest:List SI) (names:PlacesD) (sn:Names) (l:List ND) (i0 i1:Nat) (outs:List Nat):Prop where
 ok:Zas es sh rest sn
 d0:(Zae ss 0).drop i0=Zae rest 0
 d1:(Zae ss 1).drop i1=Zae rest 1
 wf:WfD (Zae ss 0) (Zae ss 1) l
 nm:NamesD l names sn
 ks:KeysD names sn
 ob:∀ o∈outs,o<l.length
 eq:stmtsD f s es sh ss [] [] 0 0 []=stmtsD f s es sh rest names l i0 i1 outs
 l64:l.length≤64
section
variable {f s:Bool} {ss:List SI} {es:List EI} {sh:List (List Int)} {rest:List SI} {names:PlacesD} {sn:Names} {l:List ND} {i0 i1:Nat} {outs:List Nat} {x:SI}
theorem BldInv.start (h:Zas es sh ss []):BldInv f s ss es sh ss [] [] [] 0 0 []:=
 ⟨h,by simp,by simp,fun i n h=>(by simp at h),fun n s h=>(by cases h),rfl,fun o h=>(by simp at h),rfl,by simp⟩
theorem taken_any (h:ZaC sn x.name=false) (hk:KeysD names sn):(names.any fun q=>decide (q.1.toList=x.name.toList))=false:=by
 rw [hk.any,←findN_keys]
 unfold ZaC at h
 rw [Bool.or_eq_false_iff] at h
 exact h.1
theorem BldInv.inn (h:BldInv f s ss es sh (x::rest) names sn l i0 i1 outs) (h1:x.kind=1):(x.party=0∨x.party=1)∧Zad x.shape≠0∧(names.any fun q=>decide (q.1.toList=x.name.toList))=false∧NodeOk (Zae ss 0) (Zae ss 1) l l.length (inD x (if x.party=0 then i0 else i1)):=by
 have hok:=h.ok
 unfold Zas at hok
 rw [if_pos h1] at hok
 obtain ⟨hp,hs,ht,hok⟩:=hok
 refine ⟨hp,hs,taken_any ht h.ks,?_⟩
 have key:∀ (i:Nat),((x.party.toNat=0∧(Zae ss 0)[i]?=some x.shape)∨(x.party.toNat=1∧(Zae ss 1)[i]?=some x.shape))→NodeOk (Zae ss 0) (Zae ss 1) l l.length (inD x i):=fun i hi=>⟨fun a ha=>by simp [inD] at ha,hs,.inl ⟨rfl,rfl,rfl,rfl,hi⟩⟩
 by_cases hp0:x.party=0
 ·rw [if_pos hp0]
  exact key i0 (.inl ⟨by rw [hp0];rfl,(drop_cons (h.d0.trans (ZhE h1 hp0))).1⟩)
 ·have hp1:x.party=1:=by omega
  rw [if_neg hp0]
  exact key i1 (.inr ⟨by rw [hp1];rfl,(drop_cons (h.d1.trans (ZhE h1 hp1))).1⟩)
theorem BldInv.inn_eq (h:BldInv f s ss es sh (x::rest) names sn l i0 i1 outs) (h1:x.kind=1) {q:List ND × Nat} (hq:q=madeD f s l (inD x (if x.party=0 then i0 else i1))):
  stmtsD f s es sh ss [] [] 0 0 []=if 64<q.1.length then none else stmtsD f s es sh rest (names++[(x.name,q.2)]) q.1 (if x.party=0 then i0+1 else i0) (if x.party=0 then i1 else i1+1) outs:=by
 rw [h.eq]
 conv=>lhs;unfold stmtsD
 rw [if_pos h1]
 dsimp only
 rw [←hq]
 by_cases hp0:x.party=0
 ·simp only [if_pos hp0]
 ·simp only [if_neg hp0]
theorem BldInv.inn_next (h:BldInv f s ss es sh (x::rest) names sn l i0 i1 outs) (h1:x.kind=1) {q:List ND × Nat} (hq:q=madeD f s l (inD x (if x.party=0 then i0 else i1))) (h64:¬ 64<q.1.length):
  ∃ sn',BldInv f s ss es sh rest (names++[(x.name,q.2)]) sn' q.1 (if x.party=0 then i0+1 else i0) (if x.party=0 then i1 else i1+1) outs:=by
 obtain ⟨hp,hs,ht,hno⟩:=h.inn h1
 have hok:=h.ok
 unfold Zas at hok
 rw [if_pos h1] at hok
 have heq:=h.inn_eq h1 hq
 rw [if_neg h64] at heq
 subst hq
 have hpre:=madeD_pre f s l (inD x (if x.party=0 then i0 else i1))
 have hlt:=madeD_lt f s l (inD x (if x.party=0 then i0 else i1))
 have hsn:=(h.nm.pre hpre).snoc h.ks x.name _ hlt
 rw [show (atD (madeD f s l (inD x (if x.party=0 then i0 else i1))).1 (madeD f s l (inD x (if x.party=0 then i0 else i1))).2).shape=x.shape from by rw [atD_some (madeD_at f s l _),foldD_shape];rfl] at hsn
 refine ⟨_,hok.2.2.2,?_,?_,madeD_wf f s h.wf hno,hsn.1,hsn.2,fun o ho=>Kae (h.ob o ho) hpre.length_le,heq,by omega⟩
 ·by_cases hp0:x.party=0
  ·rw [if_pos hp0]
   exact (drop_cons (h.d0.trans (ZhE h1 hp0))).2
  ·rw [if_neg hp0]
   exact h.d0.trans (Zgm (.inr (by omega)))
 ·by_cases hp0:x.party=0
  ·rw [if_pos hp0]
   exact h.d1.trans (Zgm (.inr (by omega)))
  ·rw [if_neg hp0]
   exact (drop_cons (h.d1.trans (ZhE h1 (by omega)))).2
theorem BldInv.lett (h:BldInv f s ss es sh (x::rest) names sn l i0 i1 outs) (h2:x.kind=2):LetOk es sn sh x.expr.toNat∧(names.any fun q=>decide (q.1.toList=x.name.toList))=false:=by
 have hok:=h.ok
 unfold Zas at hok
 rw [if_neg (by omega),if_pos h2] at hok
 exact ⟨hok.1,taken_any hok.2.1 h.ks⟩
theorem BldInv.let_eq (h:BldInv f s ss es sh (x::rest) names sn l i0 i1 outs) (h2:x.kind=2) {q:List ND × (Nat→Nat)} (hq:q=letD f s es sh names (Zac es x.expr.toNat) l (x.expr.toNat+1)):
  stmtsD f s es sh ss [] [] 0 0 []=if 64<q.1.length then none else stmtsD f s es sh rest (names++[(x.name,q.2 x.expr.toNat)]) q.1 i0 i1 outs:=by
 rw [h.eq]
 conv=>lhs;unfold stmtsD
 rw [if_neg (by omega),if_pos h2]
 dsimp only
 rw [←hq]
theorem BldInv.let_next (h:BldInv f s ss es sh (x::rest) names sn l i0 i1 outs) (hx:exsOk 0 es=true) (ho:Ahead es) (h2:x.kind=2) {q:List ND × (Nat→Nat)} (hq:q=letD f s es sh names (Zac es x.expr.toNat) l (x.expr.toNat+1)) (h64:¬ 64<q.1.length):
  ∃ sn',BldInv f s ss es sh rest (names++[(x.name,q.2 x.expr.toNat)]) sn' q.1 i0 i1 outs:=by
 have heq:=h.let_eq h2 hq
 rw [if_neg h64] at heq
 have hok:=h.ok
 unfold Zas at hok
 rw [if_neg (by omega),if_pos h2] at hok
 obtain ⟨hl,ht,hok⟩:=hok
 subst hq
 have hr:=letD_res (names:=names) (Q:=fun _=>True) f s hx ho hl h.wf h.nm (fun _ _ _ _ _=>trivial) trivial (x.expr.toNat+1)
 have hroot:Zac es x.expr.toNat x.expr.toNat=true:=by
  unfold Zac
  rw [Zd7 ho _ _ _ (Kag _)]
  simp
 obtain ⟨p1,p2⟩:=hr.at_ x.expr.toNat (Nat.lt_succ_self _) hroot
 have hsn:=(h.nm.pre hr.pre).snoc h.ks x.name _ p1
 rw [p2] at hsn
 exact ⟨_,hok,h.d0.trans (Zgm (.inl (by omega))),h.d1.trans (Zgm (.inl (by omega))),hr.wf,hsn.1,hsn.2,fun o ho=>Kae (h.ob o ho) hr.pre.length_le,heq,by omega⟩
theorem BldInv.out (h:BldInv f s ss es sh (x::rest) names sn l i0 i1 outs) (h1:x.kind≠1) (h2:x.kind≠2):BldInv f s ss es sh rest names sn l i0 i1 (outs++[placeD names x.name]):=by
 have hok:=h.ok
 unfold Zas at hok
 rw [if_neg h1,if_neg h2] at hok
 have heq:=h.eq
 unfold stmtsD at heq
 have h64:=h.l64
 rw [if_neg h1,if_neg h2,if_neg (by omega)] at heq
 refine ⟨hok.2,h.d0.trans (Zgm (.inl h1)),h.d1.trans (Zgm (.inl h1)),h.wf,h.nm,h.ks,fun o ho => ?_,?_,h64⟩
 ·rcases List.mem_append.1 ho with ho | ho
  ·exact h.ob o ho
  ·rw [List.mem_singleton.1 ho]
   cases hf:findN sn x.name with
   | none=>rw [hf] at hok;cases hok.1
   | some y=>exact (h.nm _ _ hf).1
 ·rw [h.eq]
  conv=>lhs;unfold stmtsD
  rw [if_neg h1,if_neg h2,if_neg (by omega)]
theorem BldInv.fin (h:BldInv f s ss es sh [] names sn l i0 i1 outs):stmtsD f s es sh ss [] [] 0 0 []=some (l,outs):=h.eq
end
def dagN:ByteArray:=⟨#[100,97,103]⟩
def BuildOut (w:World) (ss:List SI) (r:Sum (List ND × List Nat) Nat) (e:Ending) (w':World):Prop:=
 Below w.heap.size w w' ∧
 match r with
 | .inr c=>∃ v ps,e=.returned (.tuple #[.agg #[.slice none 0 0,.slice none 0 0,.slice none 0 0,.slice none 0 0],v])∧IsErr w' v ps c
 | .inl (l,outs)=>∃ (NA:Option Addr) (nc:Nat) (ms:List (ND × NV)) (OA:Option Addr) (oc:Nat) (A0:Option Addr) (n0 c0:Nat) (A1:Option Addr) (n1 c1 B:Nat),e=.returned (.tuple #[.agg #[.slice NA ms.length nc,.slice OA outs.length oc,.slice A0 n0 c0,.slice A1 n1 c1],.nilIface])∧w.heap.size≤B∧ms.map Prod.fst=l ∧
   NdRow w' B NA nc ms∧Own w' B 3 OA oc (outs.map VNt)∧InRow w' B A0 n0 c0 (Zae ss 0)∧InRow w' B A1 n1 c1 (Zae ss 1)
def KG (g:Nat) (w w':World):Prop:=w.heap.size≤w'.heap.size∧∀ (k:Nat) (o:Obj),w.heap[k]?=some o→quietO o→k≠g→w'.heap[k]?=some o
section
variable {g:Nat} {w w1 w':World}
theorem KG.of (h:KD w w'):KG g w w':=⟨h.1,fun k o hk hq _=>h.2 k o hk hq⟩
theorem KG.refl (w:World):KG g w w:=KG.of (KD.refl w)
theorem KG.trans (h:KG g w w1) (h':KG g w1 w'):KG g w w':=⟨Kah h.1 h'.1,fun k o hk hq hg=>h'.2 k o (h.2 k o hk hq hg) hq hg⟩
theorem KG.next (h:KG g w w1) (hb:Below w1.heap.size w1 w'):KG g w w':=h.trans (KG.of (KD.of hb))
theorem KG.kd (h:KG g w w1) (h':KD w1 w'):KG g w w':=h.trans (KG.of h')
theorem KG.setNew {q k:Nat} (h:KG g w w1) (hq:w.heap.size≤q) (v:Value):KG g w (w1.setCell ⟨q,k,none⟩ v):=
 ⟨by simpa [World.setCell] using h.1,fun b o hb ho hg=>(ZaS _ _ _ (by have:=(Kab.1 hb).1;show b≠q;omega)).trans (h.2 b o hb ho hg)⟩
theorem KG.setBad {q k:Nat} {cs:Array Value} {T:TypeId} {fr:Nat × Nat} (h:KG g w w1) (hp:w1.heap[q]?=some (.cells cs T fr)) (hT:T=77∨T=131) (v:Value):KG g w (w1.setCell ⟨q,k,none⟩ v):=h.kd (KD.set hp hT v)
theorem KG.map {o:Obj} (h:KG g w w1):KG g w { w1 with heap:=w1.heap.setIfInBounds g o }:=
 ⟨by simpa using h.1,fun k ob hk hq hg=>by
  have:=h.2 k ob hk hq hg
  show (w1.heap.setIfInBounds g o)[k]?=_
  rw [Array.getElem?_setIfInBounds_ne (fun e=>hg e.symm)]
  exact this⟩
theorem KG.own {B c:Nat} {e:TypeId} {A:Option Addr} {xs:List Value} (h:KG g w w') (hg:∃ es c,w.heap[g]?=some (.map es c)) (ho:Own w B e A c xs) (h1:e≠77) (h2:e≠131):Own w' B e A c xs:=Zf4 ho fun k cur hk=>by
 rw [h.2 k _ hk ⟨h1,h2⟩ (fun e=>by
  obtain ⟨es,c,hm⟩:=hg
  rw [e,hm] at hk
  cases hk),hk]
theorem KG.inRow {B n c:Nat} {A:Option Addr} {l:List (List Int)} (h:KG g w w') (hg:∃ es c,w.heap[g]?=some (.map es c)) (hi:InRow w B A n c l):InRow w' B A n c l:=by
 obtain ⟨vs,h1,h2,h3,h4⟩:=hi
 refine ⟨vs,h1,h.own hg h2 (by decide) (by decide),h3,fun j v x hv hx => ?_⟩
 obtain ⟨A',c',e,ho⟩:=h4 j v x hv hx
 exact ⟨A',c',e,h.own hg ho (by decide) (by decide)⟩
end
structure BldM (w5 wr:World) (B cb g:Nat) (f s d:Bool) (NA:Option Addr) (nc:Nat) (ms:List (ND × NV)) (OA:Option Addr) (oc:Nat) (outs:List Nat) (A0 A1:Option Addr) (n0 c0 n1 c1:Nat) (names:PlacesD) (nx i0 i1:Nat):Prop where
 st:DgSt wr B cb g f s d NA nc ms OA oc outs A0 A1 n0 c0 n1 c1 names
 far:∀ b∈(blk OA::ms.flatMap ndB),∀ k,b=some k→w5.heap.size≤k
 hx:wr.heap[nx]?=some (.cells #[.int .i64 i0,.int .i64 i1] 114 (0,0))
 kg:KG g w5 wr
 below:Below B w5 wr
section
variable {w5 wr w':World} {B cb g:Nat} {f s d:Bool} {NA:Option Addr} {nc:Nat} {ms:List (ND × NV)} {OA:Option Addr} {oc:Nat} {outs:List Nat} {A0 A1:Option Addr} {n0 c0 n1 c1:Nat} {names:PlacesD} {nx i0 i1:Nat}
theorem BldM.next (h:BldM w5 wr B cb g f s d NA nc ms OA oc outs A0 A1 n0 c0 n1 c1 names nx i0 i1) (hb:Below wr.heap.size wr w'):BldM w5 w' B cb g f s d NA nc ms OA oc outs A0 A1 n0 c0 n1 c1 names nx i0 i1:=
 ⟨h.st.next hb,h.far,(hb.block _ (Kab.1 h.hx).1).trans h.hx,h.kg.next hb,h.below.trans (hb.mono (Kah h.st.b1 (Nat.le_of_lt h.st.lt)))⟩
theorem BldM.call {NA':Option Addr} {nc':Nat} {ms':List (ND × NV)} (h:BldM w5 wr B cb g f s d NA nc ms OA oc outs A0 A1 n0 c0 n1 c1 names nx i0 i1) (h1:DgSt w' B cb g f s d NA' nc' ms' OA oc outs A0 A1 n0 c0 n1 c1 names) (h2:KD wr w') (h3:Below B wr w') (h4:∀ b∈ms'.flatMap ndB,∀ k,b=some k→w5.heap.size≤k):BldM w5 w' B cb g f s d NA' nc' ms' OA oc outs A0 A1 n0 c0 n1 c1 names nx i0 i1:=
 ⟨h1,fun b hb=>by
  rcases List.mem_cons.1 hb with rfl | hb
  ·exact h.far _ (List.mem_cons_self ..)
  ·exact h4 b hb,h2.2 _ _ h.hx ⟨by decide,by decide⟩,h.kg.kd h2,h.below.trans h3⟩
theorem BldM.name {o:Obj} {n:ByteArray} {p:Nat} (h:BldM w5 wr B cb g f s d NA nc ms OA oc outs A0 A1 n0 c0 n1 c1 names nx i0 i1) (ho:NamM { wr with heap:=wr.heap.setIfInBounds g o } g (namV (names++[(n,p)]))):BldM w5 { wr with heap:=wr.heap.setIfInBounds g o } B cb g f s d NA nc ms OA oc outs A0 A1 n0 c0 n1 c1 (names++[(n,p)]) nx i0 i1:=by
 obtain ⟨es,c,hm,_⟩:=h.st.hn
 have hs:∀ k,k≠g→({ wr with heap:=wr.heap.setIfInBounds g o }:World).heap[k]?=wr.heap[k]?:=fun k hk=>by
  show (wr.heap.setIfInBounds g o)[k]?=_
  rw [Array.getElem?_setIfInBounds_ne (fun e=>hk e.symm)]
 have hki:KIW wr { wr with heap:=wr.heap.setIfInBounds g o }:=KIW.map hm hs
 have hcb:cb≠g:=fun e=>by
  have:=h.st.hc
  rw [e,hm] at this
  cases this
 have hnx:nx≠g:=fun e=>by
  have:=h.hx
  rw [e,hm] at this
  cases this
 refine ⟨⟨h.st.b1,h.st.b2,(hs cb hcb).trans h.st.hc,ho,h.st.hr.keep hki fun q hq=>hs q fun e => ?_,own_kiw h.st.ho (.inl rfl) hki,h.st.hp⟩,h.far,(hs nx hnx).trans h.hx,h.kg.map,?_⟩
 ·obtain ⟨cur,hc⟩:=h.st.hr.form q hq
  rw [e,hm] at hc
  cases hc
 ·have hb:=h.below
  exact ⟨hb.os,hb.tape,hb.output,by simpa using hb.size,fun k hk=>(hs k (by have:=h.st.b2;omega)).trans (hb.block k hk)⟩
theorem BldM.num {k:Nat} {v:Value} {j0 j1:Nat} (h:BldM w5 wr B cb g f s d NA nc ms OA oc outs A0 A1 n0 c0 n1 c1 names nx i0 i1) (hn:w5.heap.size≤nx) (hB:B≤w5.heap.size) (hv:(#[.int .i64 i0,.int .i64 i1]:Array Value).setIfInBounds k v=#[.int .i64 j0,.int .i64 j1]):BldM w5 (wr.setCell ⟨nx,k,none⟩ v) B cb g f s d NA nc ms OA oc outs A0 A1 n0 c0 n1 c1 names nx j0 j1:=by
 have hs:∀ b,b≠nx→(wr.setCell ⟨nx,k,none⟩ v).heap[b]?=wr.heap[b]?:=fun b hb=>ZaS _ _ _ hb
 have hki:KIW wr (wr.setCell ⟨nx,k,none⟩ v):=KIW.set h.hx (by decide) (by decide) _
 have hty:∀ b cs T fr,wr.heap[b]?=some (.cells cs T fr)→T≠114→b≠nx:=fun b cs T fr hb hT e=>by
  rw [e,h.hx] at hb
  injection hb with hb
  injection hb with _ hb _
  exact hT hb.symm
 refine ⟨⟨h.st.b1,h.st.b2,(hs cb (hty _ _ _ _ h.st.hc (by decide))).trans h.st.hc,?_,h.st.hr.keep hki fun q hq => ?_,own_kiw h.st.ho (.inl rfl) hki,h.st.hp⟩,h.far,?_,h.kg.setNew hn _,setCell_below' h.below (by omega) _⟩
 ·obtain ⟨es,c,h1,h2⟩:=h.st.hn
  exact ⟨es,c,(hs g fun e=>by rw [e,h.hx] at h1;cases h1).trans h1,h2⟩
 ·obtain ⟨cur,hc⟩:=h.st.hr.form q hq
  exact hs q (hty _ _ _ _ hc (by decide))
 ·rw [←hv]
  exact heap_setCell_same _ _ _ _ _ _ h.hx
theorem BldM.out {w8:World} {OA':Option Addr} {oc' p:Nat} (h:BldM w5 wr B cb g f s d NA nc ms OA oc outs A0 A1 n0 c0 n1 c1 names nx i0 i1) (hB:B≤w5.heap.size) (hg:wr.grownBy w8 (blk OA)) (ho:Own w8 B 3 OA' oc' ((outs++[p]).map VNt)) (hA:blk OA'=blk OA∨blk OA'=some wr.heap.size):
  BldM w5 (w8.setCell ⟨cb,4,none⟩ (.slice OA' (outs.length+1) oc')) B cb g f s d NA nc ms OA' oc' (outs++[p]) A0 A1 n0 c0 n1 c1 names nx i0 i1:=by
 have hfo:∀ k,blk OA=some k→w5.heap.size≤k:=h.far _ (List.mem_cons_self ..)
 have hsz:=h.kg.1
 have hform:∀ k,blk OA=some k→∃ cur,wr.heap[k]?=some (.cells cur 3 (0,0)):=fun k hk=>by
  rcases h.st.ho.form with ⟨h0,_⟩ | ⟨g',cur,hA,_,hg,_⟩
  ·rw [h0] at hk;cases hk
  ·rw [hA] at hk
   have:g'=k:=by simpa [blk] using hk
   subst this
   exact ⟨cur,hg⟩
 have hty:∀ (b:Nat) (o:Obj),wr.heap[b]?=some o→(∀ cur:Array Value,o≠Obj.cells cur 3 (0,0))→w8.heap[b]?=wr.heap[b]?:=fun b o hb hT=>hg.block b (Kab.1 hb).1 fun e=>by
  obtain ⟨cur,hc⟩:=hform b e.symm
  rw [hb] at hc
  injection hc with hc
  exact hT _ hc
 have hcb8:=(hty cb _ h.st.hc (fun cur e=>by injection e with _ e _;exact absurd e (by decide))).trans h.st.hc
 have hki8:KIW w8 (w8.setCell ⟨cb,4,none⟩ (.slice OA' (outs.length+1) oc')):=KIW.set hcb8 (by decide) (by decide) _
 have hs:∀ b,b≠cb→(w8.setCell ⟨cb,4,none⟩ (.slice OA' (outs.length+1) oc')).heap[b]?=w8.heap[b]?:=fun b hb=>ZaS _ _ _ hb
 have hp:=List.pairwise_cons.1 h.st.hp
 have hlt:=h.st.blocks
 have hr8:NdRow w8 B NA nc ms:=by
  refine ⟨ZaK h.st.hr.1 fun b hb => ?_,fun m hm => ?_⟩
  ·obtain ⟨cur,hc⟩:=h.st.hr.form b hb
   exact hty b _ hc (fun cur e=>by injection e with _ e _;exact absurd e (by decide))
  ·obtain ⟨l1,l2,l3,⟨A1,c1,e1,o1⟩,⟨A2,c2,e2,o2⟩,A3,c3,e3,o3⟩:=h.st.hr.2 m hm
   have hb:∀ b,b∈ndB m→∀ k,b=some k→w8.heap[k]?=wr.heap[k]?:=fun b hb k hk=>by
    have hin:=List.mem_flatMap.2 ⟨m,hm,hb⟩
    refine hg.block k (hlt b (List.mem_cons_of_mem _ hin) k hk) fun e => ?_
    rcases hp.1 b hin with h1 | h1
    ·rw [h1] at e;cases e
    ·exact h1 (by rw [←e,hk])
   exact ⟨l1,l2,l3,⟨A1,c1,e1,own_at o1 fun b hb'=>hb (blk A1) (by simp [ndB,e1,Za4]) b hb'⟩,⟨A2,c2,e2,own_at o2 fun b hb'=>hb (blk A2) (by simp [ndB,e2,Za4]) b hb'⟩,A3,c3,e3,Zf4 o3 fun b cur hb'=>hty b _ hb' (fun cur e=>by injection e with _ e _;exact absurd e (by decide))⟩
 refine ⟨⟨h.st.b1,h.st.b2,?_,?_,hr8.keep hki8 fun q hq=>hs q fun e => ?_,own_kiw ho (.inl rfl) hki8,?_⟩,fun b hb k hk => ?_,?_,?_,?_⟩
 ·rw [List.length_append,List.length_singleton]
  exact heap_setCell_same _ _ _ _ _ _ hcb8
 ·obtain ⟨es,c,h1,h2⟩:=h.st.hn
  refine ⟨es,c,(hs g fun e => ?_).trans ((hty g _ h1 (fun cur e=>by cases e)).trans h1),h2⟩
  rw [e,h.st.hc] at h1
  cases h1
 ·obtain ⟨cur,hc⟩:=h.st.hr.form q hq
  rw [e,h.st.hc] at hc
  injection hc with hc
  injection hc with _ hc _
  exact absurd hc (by decide)
 ·refine List.pairwise_cons.2 ⟨fun b hb => ?_,hp.2⟩
  rcases hA with e | e
  ·rw [e];exact hp.1 b hb
  ·refine .inr fun e2 => ?_
   have:=hlt b (List.mem_cons_of_mem _ hb) _ (e2.symm.trans e)
   omega
 ·rcases List.mem_cons.1 hb with rfl | hb
  ·rcases hA with e | e
   ·exact hfo k (e ▸ hk)
   ·rw [e] at hk
    injection hk with hk
    omega
  ·exact h.far b (List.mem_cons_of_mem _ hb) k hk
 ·refine (hs nx fun e => ?_).trans ((hty nx _ h.hx (fun cur e=>by injection e with _ e _;exact absurd e (by decide))).trans h.hx)
  have:=h.hx
  rw [e,h.st.hc] at this
  injection this with this
  injection this with _ this _
  exact absurd this (by decide)
 ·have hk8:KG g w5 w8:=⟨Kah hsz hg.size,fun k o hk hq hgk=>by
   rw [hg.block k (by have:=(Kab.1 hk).1;omega) (fun e=>by have:=hfo k e.symm;have:=(Kab.1 hk).1;omega)]
   exact h.kg.2 k o hk hq hgk⟩
  exact hk8.setBad hcb8 (.inr rfl) _
 ·exact setCell_below' (Zal h.below hg (by omega) fun k hk=>by have:=hfo k hk;omega) h.st.b1 _
end
theorem build_pre {ss:List SI} {es:List EI} {sh:List (List Int)} (hc:ZaA ss es=.inl sh):exsOk 0 es=true∧Ahead es∧Zas es sh ss []∧sh.length=es.length:=by
 obtain ⟨ho,hok,hlen⟩:=ZbI hc
 have ht:=(Zbz hc).1
 unfold treeP at ht
 rw [Bool.and_eq_true] at ht
 exact ⟨ht.1,ho,hok,hlen⟩
theorem build_big {f s d:Bool} {ss:List SI} {es:List EI} {sh:List (List Int)} (hc:ZaA ss es=.inl sh) (h:64<countD ss es):buildD f s d ss es=.inr 160:=by
 unfold buildD
 rw [hc]
 dsimp only
 rw [if_pos h]
theorem build_full {f s d:Bool} {ss:List SI} {es:List EI} {sh:List (List Int)} (hc:ZaA ss es=.inl sh) (h:¬ 64<countD ss es) (hs:stmtsD f s es sh ss [] [] 0 0 []=none):buildD f s d ss es=.inr 160:=by
 unfold buildD
 rw [hc]
 dsimp only
 rw [if_neg h,hs]
theorem build_done {f s d:Bool} {ss:List SI} {es:List EI} {sh:List (List Int)} {l:List ND} {outs:List Nat} (hc:ZaA ss es=.inl sh) (h:¬ 64<countD ss es) (hs:stmtsD f s es sh ss [] [] 0 0 []=some (l,outs)):buildD f s d ss es=.inl (if d then dropD l outs else (l,outs)):=by
 unfold buildD
 rw [hc]
 dsimp only
 rw [if_neg h,hs]
theorem outsh_shb {w:World} {base q:Nat} {sh:List (List Int)} (h:OutSh w base q sh):ShB w w.heap.size (some ⟨q,0,none⟩) sh:=by
 obtain ⟨svs,h1,h2,h3,h4,h5⟩:=h
 refine ⟨q,rfl,(Kab.1 h1).1,fun i l hl => ?_⟩
 have hi:i<svs.length:=by rw [h3];exact (Kaf.1 hl).1
 obtain ⟨l2,A,c,e,ho⟩:=h4 i _ l (Kad hi) hl
 refine ⟨A,c,?_,ho.rd,l2⟩
 have:=Kaa _ _ i _ _ _ h1
 rw [this,List.getElem?_toArray,Kad hi,e]
theorem cnt_snoc {es:List EI} {k:Nat} {e:EI} (h:es[k]?=some e):((es.take (k+1)).filter fun e=>e.kind != 2).length=((es.take k).filter fun e=>e.kind != 2).length+if e.kind=2 then 0 else 1:=by
 obtain ⟨hi,he⟩:=Kaf.1 h
 rw [List.take_succ_eq_append_getElem hi,he,List.filter_append,List.length_append]
 by_cases h2:e.kind=2
 ·rw [if_pos h2,List.filter_cons,if_neg (by simp [h2])];rfl
 ·rw [if_neg h2,List.filter_cons,if_pos (by simp [h2])];rfl
theorem KG.drop {w5 wz w9:World} {g cb:Nat} {bs:List (Option Nat)} {cs:Array Value} {fr:Nat × Nat} (h:KG g w5 wz) (hd:DrpK wz w9 cb bs) (hf:∀ b∈bs,∀ k,b=some k→w5.heap.size≤k) (hcb:w5.heap[cb]?=some (.cells cs 131 fr)):KG g w5 w9:=
 ⟨Kah h.1 hd.1,fun k o hk hq hg=>by
  have hlt:=(Kab.1 hk).1
  rw [hd.2 k (Kae hlt h.1) (fun e=>by
   rw [e,hcb] at hk
   injection hk with hk
   subst hk
   exact hq.2 rfl) (fun hb=>by have:=hf _ hb k rfl;omega)]
  exact h.2 k o hk hq hg⟩
theorem build_fin {wz w':World} {B cb g rb:Nat} {f s d:Bool} {NA:Option Addr} {nc:Nat} {ms:List (ND × NV)} {OA:Option Addr} {oc:Nat} {outs:List Nat} {A0 A1:Option Addr} {n0 c0 n1 c1:Nat} {names:PlacesD} {l0 l1:List (List Int)} {cs:Array Value} {fr:Nat × Nat}
  (hst:DgSt wz B cb g f s d NA nc ms OA oc outs A0 A1 n0 c0 n1 c1 names) (h0:InRow wz B A0 n0 c0 l0) (h1:InRow wz B A1 n1 c1 l1) (hrb:wz.heap[rb]?=some (.cells cs 68 fr)) (hk:∀ b,b≠rb→w'.heap[b]?=wz.heap[b]?):
  NdRow w' B NA nc ms∧Own w' B 3 OA oc (outs.map VNt)∧InRow w' B A0 n0 c0 l0∧InRow w' B A1 n1 c1 l1:=by
 have hki:KIW wz w':=fun q cur T hq hT=>hk q fun e=>by
  rw [e,hrb] at hq
  injection hq with hq
  injection hq with _ hq _
  rcases hT with rfl | rfl <;> exact absurd hq (by decide)
 refine ⟨hst.hr.keep hki fun q hq=>hk q fun e => ?_,own_kiw hst.ho (.inl rfl) hki,h0.other hrb (by decide) (by decide) fun b _ hb=>hk b hb,h1.other hrb (by decide) (by decide) fun b _ hb=>hk b hb⟩
 obtain ⟨cur,hc⟩:=hst.hr.form q hq
 rw [e,hrb] at hc
 injection hc with hc
 injection hc with _ hc _
 exact absurd hc (by decide)
theorem isErr_set {w:World} {t:Addr} {x:Value} {cs:Array Value} {T:TypeId} {fr:Nat × Nat} (hp:w.heap[t.block]?=some (.cells cs T fr)) (hT:T≠192):
  ∀ {l:List (ByteArray × Int)} {v:Value} {code:Int},IsErr w v l code→IsErr (w.setCell t x) v l code:=by
 intro l
 induction l with
 | nil=>intro v code h;exact h
 | cons p r ih=>
  intro v code h
  obtain ⟨a,inner,rfl,hc,hi⟩:=h
  refine ⟨a,inner,rfl,?_,ih hi⟩
  rw [ZaS w t x (fun e=>by rw [e,hp] at hc;injection hc with hc;injection hc with _ h2;exact hT h2)]
  exact hc
def set4 (w:World) (rb:Nat) (a b c d:Value):World:=(((w.setCell ⟨rb,0,none⟩ a).setCell ⟨rb,1,none⟩ b).setCell ⟨rb,2,none⟩ c).setCell ⟨rb,3,none⟩ d
theorem set4_ne {w:World} {rb q:Nat} {a b c d:Value} (h:q≠rb):(set4 w rb a b c d).heap[q]?=w.heap[q]?:=by
 unfold set4
 rw [ZaS _ _ _ h,ZaS _ _ _ h,ZaS _ _ _ h,ZaS _ _ _ h]
theorem set4_row {w:World} {rb:Nat} {a b c d x0 x1 x2 x3:Value} {T:TypeId} {fr:Nat × Nat} (hp:w.heap[rb]?=some (.cells #[x0,x1,x2,x3] T fr)):(set4 w rb a b c d).heap[rb]?=some (.cells #[a,b,c,d] T fr):=by
 have e1:(w.setCell ⟨rb,0,none⟩ a).heap[rb]?=some (.cells #[a,x1,x2,x3] T fr):=by simp [World.setCell,Array.getElem?_modify,hp]
 have e2:((w.setCell ⟨rb,0,none⟩ a).setCell ⟨rb,1,none⟩ b).heap[rb]?=some (.cells #[a,b,x2,x3] T fr):=by
  generalize w.setCell ⟨rb,0,none⟩ a=w1 at e1
  simp [World.setCell,Array.getElem?_modify,e1]
 have e3:(((w.setCell ⟨rb,0,none⟩ a).setCell ⟨rb,1,none⟩ b).setCell ⟨rb,2,none⟩ c).heap[rb]?=some (.cells #[a,b,c,x3] T fr):=by
  generalize (w.setCell ⟨rb,0,none⟩ a).setCell ⟨rb,1,none⟩ b=w1 at e2
  simp [World.setCell,Array.getElem?_modify,e2]
 unfold set4
 generalize ((w.setCell ⟨rb,0,none⟩ a).setCell ⟨rb,1,none⟩ b).setCell ⟨rb,2,none⟩ c=w1 at e3
 simp [World.setCell,Array.getElem?_modify,e3]
theorem set4_below {W w:World} {B rb:Nat} {a b c d:Value} (h:Below B W w) (hb:B≤rb):Below B W (set4 w rb a b c d):=setCell_below' (setCell_below' (setCell_below' (setCell_below' h hb _) hb _) hb _) hb _
theorem set4_err {w:World} {rb:Nat} {a b c d v:Value} {l:List (ByteArray × Int)} {code:Int} {cs:Array Value} {fr:Nat × Nat} (hp:w.heap[rb]?=some (.cells cs 68 fr)) (h:IsErr w v l code):IsErr (set4 w rb a b c d) v l code:=by
 have e1:(w.setCell ⟨rb,0,none⟩ a).heap[rb]?=some (.cells (cs.setIfInBounds 0 a) 68 fr):=by simp [World.setCell,Array.getElem?_modify,hp]
 have e2:((w.setCell ⟨rb,0,none⟩ a).setCell ⟨rb,1,none⟩ b).heap[rb]?=some (.cells ((cs.setIfInBounds 0 a).setIfInBounds 1 b) 68 fr):=by
  generalize w.setCell ⟨rb,0,none⟩ a=w1 at e1
  simp [World.setCell,Array.getElem?_modify,e1]
 have e3:(((w.setCell ⟨rb,0,none⟩ a).setCell ⟨rb,1,none⟩ b).setCell ⟨rb,2,none⟩ c).heap[rb]?=some (.cells (((cs.setIfInBounds 0 a).setIfInBounds 1 b).setIfInBounds 2 c) 68 fr):=by
  generalize (w.setCell ⟨rb,0,none⟩ a).setCell ⟨rb,1,none⟩ b=w1 at e2
  simp [World.setCell,Array.getElem?_modify,e2]
 exact isErr_set e3 (by decide) (isErr_set e2 (by decide) (isErr_set e1 (by decide) (isErr_set hp (by decide) h)))
theorem build_err {w w9:World} {ss:List SI} {rb c:Nat} {r:Sum (List ND × List Nat) Nat} {v:Value} {l:List (ByteArray × Int)} {cs:Array Value} {fr:Nat × Nat} (hz:r=.inr c) (hb:Below w.heap.size w w9) (hrl:w.heap.size≤rb) (hp:w9.heap[rb]?=some (.cells cs 68 fr)) (h:IsErr w9 v l c):
  BuildOut w ss r (.returned (.tuple #[.agg #[.slice none 0 0,.slice none 0 0,.slice none 0 0,.slice none 0 0],v])) (set4 w9 rb (.slice none 0 0) (.slice none 0 0) (.slice none 0 0) (.slice none 0 0)):=by
 refine ⟨set4_below hb hrl,?_⟩
 rw [hz]
 exact ⟨v,l,rfl,set4_err hp h⟩
theorem build_ok {w wz:World} {ss:List SI} {r:Sum (List ND × List Nat) Nat} {l:List ND} {B cb g rb:Nat} {f s d:Bool} {NA:Option Addr} {nc:Nat} {ms:List (ND × NV)} {OA:Option Addr} {oc:Nat} {outs:List Nat} {A0 A1:Option Addr} {n0 c0 n1 c1:Nat} {names:PlacesD} {cs:Array Value} {fr:Nat × Nat}
  (hz:r=.inl (l,outs)) (hl:ms.map Prod.fst=l) (hb:Below w.heap.size w wz) (hB:w.heap.size≤B) (hrl:w.heap.size≤rb) (hst:DgSt wz B cb g f s d NA nc ms OA oc outs A0 A1 n0 c0 n1 c1 names) (h0:InRow wz B A0 n0 c0 (Zae ss 0)) (h1:InRow wz B A1 n1 c1 (Zae ss 1)) (hp:wz.heap[rb]?=some (.cells cs 68 fr)):
  BuildOut w ss r (.returned (.tuple #[.agg #[.slice NA ms.length nc,.slice OA outs.length oc,.slice A0 n0 c0,.slice A1 n1 c1],.nilIface])) (set4 wz rb (.slice NA ms.length nc) (.slice OA outs.length oc) (.slice A0 n0 c0) (.slice A1 n1 c1)):=by
 refine ⟨set4_below hb hrl,?_⟩
 rw [hz]
 obtain ⟨q1,q2,q3,q4⟩:=build_fin hst h0 h1 hp (fun b hb=>set4_ne hb)
 exact ⟨NA,nc,ms,OA,oc,A0,n0,c0,A1,n1,c1,B,rfl,hB,hl,q1,q2,q3,q4⟩
theorem in_node {W:World} {B S sl:Nat} (x:SI) (i:Nat) {Ax:Option Addr} {cx:Nat} (hx:Own W S 3 Ax cx (x.shape.map VI)) (hB:B≤S) (hl:x.shape.length≤1000000) (hsl:sl=x.shape.length):NdV W B (inD x i,⟨.slice Ax sl cx,.slice none 0 0,.slice none 0 0⟩):=
 ⟨hl,Nat.zero_le _,Nat.zero_le _,⟨Ax,cx,by rw [hsl];rfl,hx.more hB⟩,⟨none,0,rfl,Own.nil _ _ _⟩,⟨none,0,rfl,Own.nil _ _ _⟩⟩
section
variable {wq wt W w':World} {B cb g:Nat} {f s d:Bool} {NA:Option Addr} {nc:Nat} {ms:List (ND × NV)} {OA:Option Addr} {oc:Nat} {outs:List Nat} {A0 A1:Option Addr} {n0 c0 n1 c1:Nat} {names:PlacesD} {nx i0 i1:Nat} {in0 in1:List (List Int)}
theorem BldM.made (h:BldM wq wt B cb g f s d NA nc ms OA oc outs A0 A1 n0 c0 n1 c1 names nx i0 i1) (hb:Below wt.heap.size wt W) {x:SI} {i sl:Nat} {Ax:Option Addr} {cx:Nat} (hx:Own W wt.heap.size 3 Ax cx (x.shape.map VI)) (hsl:sl=x.shape.length) (hl:x.shape.length≤1000000) (hp:x.party=0∨x.party=1) (hw:WfD in0 in1 (ms.map Prod.fst)) (hok:NodeOk in0 in1 (ms.map Prod.fst) (ms.map Prod.fst).length (inD x i)) (hg:ETyped W) (hms:ms.length≤1000):
  Calls Tryz.prog 64 #[.pointer (some ⟨cb,0,none⟩),.agg #[.int .i64 1,.slice Ax sl cx,.slice none 0 0,.int .i64 x.party,.int .i64 i,.int .i64 0,.slice none 0 0]] W fun e w'=>∃ NA' nc' ms',ms'.map Prod.fst=(madeD f s (ms.map Prod.fst) (inD x i)).1∧e=.returned (.int .i64 ((madeD f s (ms.map Prod.fst) (inD x i)).2:Nat))∧BldM wq w' B cb g f s d NA' nc' ms' OA oc outs A0 A1 n0 c0 n1 c1 names nx i0 i1∧KD W w':=by
 have hpe:((x.party.toNat:Nat):Int)=x.party:=by omega
 have hW:=h.next hb
 have hBt:B≤wt.heap.size:=Kah h.st.b1 (Nat.le_of_lt h.st.lt)
 have hav:ndA (inD x i,(⟨.slice Ax sl cx,.slice none 0 0,.slice none 0 0⟩:NV))=.agg #[.int .i64 1,.slice Ax sl cx,.slice none 0 0,.int .i64 x.party,.int .i64 i,.int .i64 0,.slice none 0 0]:=by
  show Value.agg #[.int .i64 ((1:Nat):Int),.slice Ax sl cx,.slice none 0 0,.int .i64 ((x.party.toNat:Nat):Int),.int .i64 (i:Int),.int .i64 ((0:Nat):Int),.slice none 0 0]=_
  rw [hpe]
  rfl
 rw [←hav]
 refine (dmade_any in0 in1 B cb g f s d NA nc ms OA oc outs A0 A1 n0 c0 n1 c1 names (inD x i,⟨.slice Ax sl cx,.slice none 0 0,.slice none 0 0⟩) W hW.st (in_node x i hx hBt hl hsl) (apart_new (mid:=W.heap.size) h.st (fun k hk => ?_) (fun k hk=>by cases hk) hb.size) hw hok hg hms).mono ?_
 ·rw [Za4] at hk
  exact hx.lt k hk
 ·rintro e w' ⟨NA',nc',ms',h1,h2,h3,h4,h5,h6⟩
  refine ⟨NA',nc',ms',h1,h2,hW.call h3 h4 h5 fun b hb' k hk => ?_,h4⟩
  rcases h6 b hb' with h7 | h7 | h7
  ·exact h.far b (List.mem_cons_of_mem _ h7) k hk
  ·have h8:b=blk Ax∨b=none:=by
    simp only [ndB,Za4,List.mem_cons,List.not_mem_nil,or_false] at h7
    exact h7
   rcases h8 with h8 | h8
   ·exact Kah h.kg.1 (hx.lt k (h8.symm.trans hk)).1
   ·rw [h8] at hk;cases hk
  ·rw [h7] at hk;cases hk
theorem BldM.lett (h:BldM wq wt B cb g f s d NA nc ms OA oc outs A0 A1 n0 c0 n1 c1 names nx i0 i1) {SV:Value} {EA HA:Option Addr} {ne ec:Nat} {es:List EI} {sh:List (List Int)} {sn:Names} {root:Nat} (hSV:SV.oneCell'=true) (hne:ne=es.length) (hn:ne≤100000) (hE:RdEI wt B EA es) (hnum:∀ e∈es,e.num≤18446744073709551615) (hH:ShB wt B HA sh) (hsl:sh.length=ne) (hx:exsOk 0 es=true) (ho:Ahead es) (hlet:LetOk es sn sh root) (hw:WfD in0 in1 (ms.map Prod.fst)) (hnm:NamesD (ms.map Prod.fst) names sn) (hg:∀ W,Below B wt W→ETyped W) (hl:ms.length+ne≤1000):
  Calls Tryz.prog 65 #[.pointer (some ⟨cb,0,none⟩),.agg #[SV,.slice EA ne ec],.int .i64 root,.slice HA ne ne] wt fun e w'=>∃ NA' nc' ms',ms'.map Prod.fst=(letD f s es sh names (Zac es root) (ms.map Prod.fst) (root+1)).1∧e=.returned (.int .i64 ((letD f s es sh names (Zac es root) (ms.map Prod.fst) (root+1)).2 root:Nat))∧BldM wq w' B cb g f s d NA' nc' ms' OA oc outs A0 A1 n0 c0 n1 c1 names nx i0 i1∧KD wt w':=by
 refine (let_any in0 in1 B cb g f s d NA nc ms OA oc outs A0 A1 n0 c0 n1 c1 names wt SV EA HA ne ec es sh sn root h.st hSV hne hn hE hnum hH hsl hx ho hlet hw hnm hg hl wq.heap.size h.kg.1 (fun b hb=>h.far b (List.mem_cons_of_mem _ hb))).mono ?_
 rintro e w' ⟨NA',nc',ms',h1,h2,h3,h4,h5,h6⟩
 exact ⟨NA',nc',ms',h1,h2,h.call h3 h4 h5 h6,h4⟩
end
theorem wp_app2 {w:World} {o:Oper} {a:Act} {K:Act→World→Prop} {Q:Exit→Act→World→Prop} (s x:Operand)
  (ho:o.op=.call { callee:=.builtin .append,args:=#[s,x],argTypes:=#[41,41] }) (base:Nat) (A:Option Addr) (cap n:Nat) (xs:List Value) (hn:n=xs.length) (hs:a.eval s=.slice A n cap) (hown:Own w base 3 A cap xs)
  (g2:Nat) (hx:a.eval x=.slice (some ⟨g2,0,none⟩) 1 1) (v:Value) (hb:w.heap[g2]?=some (.cells #[v] 3 (0,0))) (h1:v.oneCell'=true) (hl:n≤100000) (hbase:base≤w.heap.size)
  (h:∀ A' cap' w',Own w' base 3 A' cap' (xs++[v])→w.grownBy w' (blk A)→(blk A'=blk A∨blk A'=some w.heap.size)→K (a.put o.dst (.slice A' (n+1) cap')) w'):o.wp Tryz.prog a w K Q:=by
 obtain ⟨i0,hi0,hz0,hz1,hz2⟩:=info_parts ZcB
 refine ZlF s x 41 ho base 3 i0 _ 8 Tryz.underlying41 hi0 hz0 hz1 hz2 rfl A cap xs n hn.symm hs hown (some ⟨g2,0,none⟩) 1 1 (g2+1) [v] rfl hx (Rd.of_block hb (Nat.lt_succ_self _) ⟨[],by simp⟩) (fun e=>by cases e) (fun u hu=>by rw [List.mem_singleton.1 hu];exact h1) (by simp only [maxLen];omega) (by omega) hbase ?_
 intro A' cap' w' h2 h3 h4
 exact h A' cap' w' h2 h3 h4
theorem grown_other {w w8:World} {B c:Nat} {OA:Option Addr} {xs:List Value} (ho:Own w B 3 OA c xs) (hg:w.grownBy w8 (blk OA)) {b:Nat} {cs:Array Value} {T:TypeId} {fr:Nat × Nat} (hb:w.heap[b]?=some (.cells cs T fr)) (hT:T≠3):w8.heap[b]?=some (.cells cs T fr):=by
 rw [hg.block b (Kab.1 hb).1 fun e => ?_,hb]
 rcases ho.form with ⟨h0,_⟩ | ⟨g',cur,hA,_,hg',_⟩
 ·rw [h0] at e;cases e
 ·rw [hA] at e
  have:b=g':=by simpa [blk] using e
  subst this
  rw [hb] at hg'
  injection hg' with h1
  injection h1 with _ h1 _
  exact hT h1
theorem BuildOut.ok {w w':World} {ss:List SI} {G:List ND × List Nat} {e:Ending} (h:BuildOut w ss (.inl G) e w'):Below w.heap.size w w'∧∃ (NA:Option Addr) (nc:Nat) (ms:List (ND × NV)) (OA:Option Addr) (oc:Nat) (A0:Option Addr) (n0 c0:Nat) (A1:Option Addr) (n1 c1 B:Nat),e=.returned (.tuple #[.agg #[.slice NA ms.length nc,.slice OA G.2.length oc,.slice A0 n0 c0,.slice A1 n1 c1],.nilIface])∧w.heap.size≤B∧ms.map Prod.fst=G.1 ∧
  NdRow w' B NA nc ms∧Own w' B 3 OA oc (G.2.map VNt)∧InRow w' B A0 n0 c0 (Zae ss 0)∧InRow w' B A1 n1 c1 (Zae ss 1):=by
 obtain ⟨l,outs⟩:=G
 exact h
theorem BuildOut.bad {w w':World} {ss:List SI} {c:Nat} {e:Ending} (h:BuildOut w ss (.inr c) e w'):Below w.heap.size w w'∧∃ t x ps,e=.returned (.tuple #[.agg #[.slice none 0 0,.slice none 0 0,.slice none 0 0,.slice none 0 0],.iface t x])∧IsErr w' (.iface t x) ps c:=by
 obtain ⟨h1,v,ps,h2,h3⟩:=h
 obtain ⟨t,x,rfl⟩:=h3.iface
 exact ⟨h1,t,x,ps,h2,h3⟩
theorem built_wf {f s d:Bool} {ss:List SI} {es:List EI} {g:List ND × List Nat} (h:buildD f s d ss es=.inl g):WfD (Zae ss 0) (Zae ss 1) g.1∧(∀ o∈g.2,o<g.1.length)∧g.1.length≤64∧g.2.length=outsN ss:=by
 obtain ⟨sh,l,outs,hc,hs,rfl,_⟩:=buildD_parts h
 have hr:=built_res hc hs (Q:=fun _=>True) (fun _ _ _ _ _=>trivial) trivial
 have h1:=hr.small (by simp)
 have h2:=hr.len
 rw [List.length_nil,Nat.zero_add] at h2
 have hd:=dropD_wf hr.wf hr.bnd
 cases d with
 | false=>exact ⟨hr.wf,hr.bnd,h1,h2⟩
 | true=>exact ⟨hd.1,hd.2.1,Kah hd.2.2.2 h1,by show (dropD l outs).2.length=_;rw [hd.2.2.1];exact h2⟩
theorem outsN_le (ss:List SI):outsN ss≤ss.length:=by
 unfold outsN
 exact List.length_filter_le _ _
end Go.Proofs.YtghlnncfigkkaaaGreatDoor
