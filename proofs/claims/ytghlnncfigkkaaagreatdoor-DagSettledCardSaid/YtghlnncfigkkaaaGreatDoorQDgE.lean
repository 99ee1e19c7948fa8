/-
 What dag.drop needs: stores into rows of arguments; marks over lists of numbers.
-/
import Derived.Test.YtghlnncfigkkaaaGreatDoorQDgD
import Derived.RegionTactic
import Derived.Test.YtghlnncfigkkaaaGreatDoorQDgA
import Derived.Test.YtghlnncfigkkaaaGreatDoorQChkI
set_option maxRecDepth 100000
set_option maxHeartbeats 16000000
set_option linter.unusedVariables false
set_option linter.unusedSimpArgs false
namespace Go.Proofs.YtghlnncfigkkaaaGreatDoor
open Go.RowKit
def mrkN (m:Nat→Bool) (i:Nat) (l:List Nat) (k:Nat):Nat→Bool:=fun a=>m a||(m i&&(l.take k).any fun b=>b==a)
theorem mrkN_zero (m:Nat→Bool) (i:Nat) (l:List Nat):mrkN m i l 0=m:=by
 funext a
 unfold mrkN;simp
theorem takeN_any (l:List Nat) {k a:Nat} (h:l[k]?=some a) (x:Nat):(l.take (k+1)).any (fun b=>b==x)=((l.take k).any (fun b=>b==x)||decide (x=a)):=by
 obtain ⟨e,j⟩:=Kaf.1 h;rw [List.take_succ_eq_append_getElem e,List.any_append,j];simp only [List.any_cons,List.any_nil,Bool.or_false]
 by_cases c:x=a
 ·subst c;simp
 ·have:(a==x)=false:=by rw [Kaj];omega
  rw [this];simp [c]
theorem mrkN_self {m:Nat→Bool} {i k:Nat} {l:List Nat} (h:∀ a∈l,a<i):mrkN m i l k i=m i:=by
 unfold mrkN;have:(l.take k).any (fun b=>b==i)=false:=by
  rw [List.any_eq_false]
  intro x c
  have:=h x (List.mem_of_mem_take c);simp;omega
 rw [this];simp
theorem mrkN_step (m:Nat→Bool) (i:Nat) (l:List Nat) {k a:Nat} (h:l[k]?=some a) (x:Nat):mrkN m i l (k+1) x=if x=a then (mrkN m i l k a||m i) else mrkN m i l k x:=by
 unfold mrkN;rw [takeN_any l h]
 by_cases b:x=a
 ·subst b;rw [if_pos rfl]
  cases m x <;> cases m i <;> simp
 ·rw [if_neg b];simp [b]
theorem markD_step {l:List ND} {i:Nat} (m:Nat→Bool):markD l (i+1) m=markD l i (mrkN m i (atD l i).args (atD l i).args.length):=by
 show markD l i (fun a=>m a||(m i&&(atD l i).args.any fun b=>b==a))=_
 unfold mrkN;rw [List.take_length]
theorem outs_step {outs:List Nat} {k o:Nat} (h:outs[k]?=some o) (x:Nat):(outs.take (k+1)).any (fun b=>b==x)=if x=o then true else (outs.take k).any (fun b=>b==x):=by
 rw [takeN_any outs h]
 by_cases a:x=o
 ·rw [if_pos a];simp [a]
 ·rw [if_neg a];simp [a]
theorem Own.setAt {w:World} {B q k c:Nat} {e:TypeId} {xs:List Value} (h:Own w B e (some ⟨q,0,none⟩) c xs) (j:k<xs.length) (v:Value):Own (w.setCell ⟨q,k,none⟩ v) B e (some ⟨q,0,none⟩) c (xs.set k v):=by
 have a:w.ownsRow B e 1 (.slice (some ⟨q,0,none⟩) xs.length c) xs.length xs:=h;have b:=rown_set (size:=1) (n:=xs.length) (k:=k) a v (by omega)
 unfold Own;rw [List.length_set];exact b
theorem NdRow.setOther {w:World} {B c q k:Nat} {A:Option Addr} {ms:List (ND × NV)} {n:Array Value} (h:NdRow w B A c ms) (F:w.heap[q]?=some (.cells n 3 (0,0))) (H:∀ b∈ms.flatMap ndB,b≠some q) (v:Value):NdRow (w.setCell ⟨q,k,none⟩ v) B A c ms:=by
 have p:∀ b,b≠q→(w.setCell ⟨q,k,none⟩ v).heap[b]?=w.heap[b]?:=fun b a=>ZaS _ _ _ a
 have r:∀ b n T y,w.heap[b]?=some (.cells n T y)→T≠3→b≠q:=fun b n T y a I e=>by
  rw [e,F] at a;injection a with a
  injection a with _ a _
  exact I a.symm
 refine ⟨ZaK h.1 fun b a => ?_,fun m z => ?_⟩
 ·obtain ⟨cur,J⟩:=h.form b a;exact p b (r _ _ _ _ J (by decide))
 ·obtain ⟨L,M,O,⟨A1,c1,C,Q⟩,⟨D,c2,E,S⟩,V,c3,X,Y⟩:=h.2 m z;have a:∀ b,b∈ndB m→b≠some q:=fun b a=>H b (List.mem_flatMap.2 ⟨m,z,a⟩)
  exact ⟨L,M,O,⟨A1,c1,C,own_at Q fun b j=>p b fun e=>a (blk A1) (by simp [ndB,C,Za4]) (by rw [j,e])⟩,⟨D,c2,E,own_at S fun b j=>p b fun e=>a (blk D) (by simp [ndB,E,Za4]) (by rw [j,e])⟩,V,c3,X,Zf4 Y fun b cur j=>p b (r _ _ _ _ j (by decide))⟩
theorem nd_flat_set {ms:List (ND × NV)} {i:Nat} {m m':ND × NV} (h:ms[i]?=some m) (a:ndC m'=ndC m):(ms.set i m').flatMap ndC=ms.flatMap ndC:=by
 induction ms generalizing i with
 | nil=>simp at h
 | cons x r ih=>
  cases i with
  | zero=>
   simp at h;subst h;simp [a]
  | succ i=>
   rw [List.set_cons_succ,List.flatMap_cons,List.flatMap_cons,ih (by simpa using h)]
theorem NdRow.setArg {w:World} {B c q k i p E:Nat} {A:Option Addr} {ms:List (ND × NV)} {m:ND × NV} (h:NdRow w B A c ms) (X:ms[i]?=some m) (Y:m.2.av=.slice (some ⟨q,0,none⟩) m.1.args.length E) (a0:k<m.1.args.length) (a1:m.2.sv.ownBlock≠some q) (a2:∀ j m',ms[j]?=some m'→j≠i→∀ b∈ndB m',b≠some q):
  NdRow (w.setCell ⟨q,k,none⟩ (VNt p)) B A c (ms.set i ({ m.1 with args:=m.1.args.set k p },m.2)):=by
 obtain ⟨H,I,J,⟨A1,c1,z,L⟩,⟨M,c2,v,F⟩,O,c3,Q,S⟩:=h.2 m (Kam X);rw [Y] at v;injection v with v _ a3
 subst v a3;obtain ⟨C,a4⟩:∃ C,w.heap[q]?=some (.cells C 3 (0,0)):=by
  rcases F.form with ⟨h0,_⟩ | ⟨b0,cur,D,_,a5,_⟩
  ·cases h0
  ·injection D with D
   injection D with D _ _
   subst D;exact ⟨cur,a5⟩
 have y:∀ b,b≠q→(w.setCell ⟨q,k,none⟩ (VNt p)).heap[b]?=w.heap[b]?:=fun b a=>ZaS _ _ _ a
 have V:∀ b C T Z,w.heap[b]?=some (.cells C T Z)→T≠3→b≠q:=fun b C T Z a a6 e=>by
  rw [e,a4] at a;injection a with a
  injection a with _ a _
  exact a6 a.symm
 have a7:(w.setCell ⟨q,k,none⟩ (VNt p)).ownsRow B 77 7 (.slice A ms.length c) ms.length (ms.flatMap ndC):=ZaK h.1 fun b a=>by
  obtain ⟨cur,a8⟩:=h.form b a;exact y b (V _ _ _ _ a8 (by decide))
 refine ⟨?_,fun x a9 => ?_⟩
 ·rw [List.length_set,nd_flat_set (m':=({ m.1 with args:=m.1.args.set k p },m.2)) X rfl]
  exact a7
 ·obtain ⟨j,n⟩:=List.getElem?_of_mem a9;rw [List.getElem?_set] at n;split at n
  ·split at n
   ·injection n with n
    subst n;refine ⟨H,by show (m.1.args.set k p).length≤_;rw [List.length_set];exact I,J,⟨A1,c1,z,own_at L fun b r=>y b fun e=>a1 (by rw [z,Za4,r,e])⟩,⟨some ⟨q,0,none⟩,E,?_,?_⟩,O,c3,Q,Zf4 S fun b cur r=>y b (V _ _ _ _ r (by decide))⟩
    ·show m.2.av=.slice _ (m.1.args.set k p).length E
     rw [List.length_set,Y]
    ·show Own _ B 3 _ E ((m.1.args.set k p).map VNt)
     rw [List.map_set];exact F.setAt (by rw [Kak];exact a0) _
   ·cases n
  ·rename_i hij
   obtain ⟨H,I,J,⟨A1,c1,z,L⟩,⟨M,c2,v,F⟩,O,c3,Q,S⟩:=h.2 x (Kam n);have a:∀ b,b∈ndB x→b≠some q:=a2 j x n (fun e=>hij e.symm)
   exact ⟨H,I,J,⟨A1,c1,z,own_at L fun b r=>y b fun e=>a (blk A1) (by simp [ndB,z,Za4]) (by rw [r,e])⟩,⟨M,c2,v,own_at F fun b r=>y b fun e=>a (blk M) (by simp [ndB,v,Za4]) (by rw [r,e])⟩,O,c3,Q,Zf4 S fun b cur r=>y b (V _ _ _ _ r (by decide))⟩
def nvB (v:NV):List (Option Nat):=[v.sv.ownBlock,v.av.ownBlock]
theorem flat_nvB (ms:List (ND × NV)):ms.flatMap ndB=(ms.map Prod.snd).flatMap nvB:=by rw [List.flatMap_map];rfl
theorem sub_flat {b e:Type} (f:b→List e) {l c:List b} (h:l.Sublist c):(l.flatMap f).Sublist (c.flatMap f):=by
 induction h with
 | slnil=>exact List.Sublist.refl _
 | cons a _ ih=>
  rw [List.flatMap_cons];exact ih.trans (List.sublist_append_right _ _)
 | cons_cons a _ ih=>
  rw [List.flatMap_cons,List.flatMap_cons];exact List.Sublist.append (List.Sublist.refl _) ih
theorem pair_ne {l:List NV} {i j:Nat} {v p:NV} {q:Nat} (h:(l.flatMap nvB).Pairwise apart) (c:l[i]?=some v) (n:l[j]?=some p) (z:i≠j) (y:v.av.ownBlock=some q):∀ b∈nvB p,b≠some q:=by
 induction l generalizing i j with
 | nil=>simp at c
 | cons x r ih=>
  rw [List.flatMap_cons,List.pairwise_append] at h
  intro b t e
  cases i with
  | zero=>
   simp at c;subst c
   cases j with
   | zero=>exact z rfl
   | succ j=>
    have:=h.2.2 (some q) (by simp [nvB,y]) b (List.mem_flatMap.2 ⟨p,Kam (by simpa using n),t⟩)
    rcases this with a | a
    ·cases a
    ·exact a e.symm
  | succ i=>
   cases j with
   | zero=>
    simp at n;subst n;have:=h.2.2 b t (some q) (List.mem_flatMap.2 ⟨v,Kam (by simpa using c),by simp [nvB,y]⟩)
    rcases this with a | a
    ·rw [a] at e;cases e
    ·exact a e
   | succ j=>exact ih (i:=i) (j:=j) h.2.1 (by simpa using c) (by simpa using n) (by omega) b t e
theorem pair_self {l:List NV} {i:Nat} {v:NV} {q:Nat} (h:(l.flatMap nvB).Pairwise apart) (a:l[i]?=some v) (j:v.av.ownBlock=some q):v.sv.ownBlock≠some q:=by
 induction l generalizing i with
 | nil=>simp at a
 | cons x r ih=>
  rw [List.flatMap_cons,List.pairwise_append] at h
  cases i with
  | zero=>
   simp at a;subst a
   intro e
   have b:=h.1;unfold nvB at b;rw [j,e] at b;have:=(List.pairwise_cons.1 b).1 (some q) (by simp)
   rcases this with c | c
   ·cases c
   ·exact c rfl
  | succ i=>exact ih h.2.1 (by simpa using a)
def DrpK (w w':World) (cb:Nat) (bs:List (Option Nat)):Prop:=w.heap.size≤w'.heap.size∧∀ k,k<w.heap.size→k≠cb→some k ∉ bs→w'.heap[k]?=w.heap[k]?
theorem DrpK.of {w w':World} {cb:Nat} {a:List (Option Nat)} (h:Below w.heap.size w w'):DrpK w w' cb a:=⟨h.size,fun k b _ _=>h.block k b⟩
theorem DrpK.next {w w1 w':World} {cb:Nat} {a:List (Option Nat)} (h:DrpK w w1 cb a) (b:Below w1.heap.size w1 w'):DrpK w w' cb a:=⟨Kah h.1 b.size,fun k c e j=>(b.block k (Kae c h.1)).trans (h.2 k c e j)⟩
theorem DrpK.set {w w1:World} {cb q k:Nat} {b:List (Option Nat)} (h:DrpK w w1 cb b) (a:q=cb∨some q∈b∨w.heap.size≤q) (v:Value):DrpK w (w1.setCell ⟨q,k,none⟩ v) cb b:=by
 refine ⟨by simpa [World.setCell] using h.1,fun j p c n=>(ZaS _ _ _ (fun e => ?_)).trans (h.2 j p c n)⟩
 have r:j=q:=e;subst r;rcases a with a | a | a
 ·exact c a
 ·exact n a
 ·omega
theorem DrpK.grown {w w1 w':World} {cb:Nat} {a:List (Option Nat)} {A:Option Addr} (h:DrpK w w1 cb a) (b:w1.grownBy w' (blk A)) (j:∀ q,blk A=some q→w.heap.size≤q):DrpK w w' cb a:=
 ⟨Kah h.1 b.size,fun k c n p=>(b.block k (Kae c h.1) (fun e=>by have:=j k e.symm;omega)).trans (h.2 k c n p)⟩
theorem args_setP (b:List Nat) (P:Nat→Nat) {k a:Nat} (h:b[k]?=some a):((b.take k).map P++b.drop k).set k (P a)=(b.take (k+1)).map P++b.drop (k+1):=by
 obtain ⟨c,e⟩:=Kaf.1 h;have j:((b.take k).map P).length=k:=by rw [Kak,List.length_take];omega
 rw [List.set_append_right _ _ (by omega),j,Nat.sub_self,List.drop_eq_getElem_cons c,List.set_cons_zero,List.take_succ_eq_append_getElem c,e,List.map_append]
 simp
theorem args_len (a:List Nat) (P:Nat→Nat) {k:Nat} (h:k≤a.length):((a.take k).map P++a.drop k).length=a.length:=by
 rw [List.length_append,Kak,List.length_take,List.length_drop];omega
theorem args_nth (b:List Nat) (P:Nat→Nat) {k a:Nat} (h:b[k]?=some a):((b.take k).map P++b.drop k)[k]?=some a:=by
 obtain ⟨e,j⟩:=Kaf.1 h;have c:((b.take k).map P).length=k:=by rw [Kak,List.length_take];omega
 rw [List.getElem?_append_right (by omega),c,Nat.sub_self,List.getElem?_drop,Nat.add_zero,h]
structure DrpIn (w wr:World) (B cb g:Nat) (NA:Option Addr) (nc:Nat) (ms:List (ND × NV)) (OA:Option Addr) (oc:Nat) (outs:List Nat) (gn gp:Nat) (N:Nat→Bool) (i k:Nat) (P:Nat→Nat) (m:ND × NV) (nb:Nat) (KA:Option Addr) (kc:Nat) (ks msX:List (ND × NV)):Prop where
 snd:msX.map Prod.snd=ms.map Prod.snd
 rest:∀ j,i<j→msX[j]?=ms[j]?
 cur:msX[i]?=some ({ m.1 with args:=(m.1.args.take k).map P++m.1.args.drop k },m.2)
 rows:NdRow wr B NA nc msX
 kept:NdRow wr B KA kc ks
 hcb:wr.heap[cb]?=w.heap[cb]?
 hg:wr.heap[g]?=w.heap[g]?
 hout:Own wr B 3 OA oc (outs.map VNt)
 hn:MkB wr 3 gn ms.length (fun a=>bI (N a))
 hpl:MkB wr 3 gp ms.length (fun a=>VNt (P a))
 keep:DrpK w wr cb (blk OA::ms.flatMap ndB)
 below:Below B w wr
 node:wr.heap[nb]?=some (.cells (ndC m).toArray 77 (0,0))
theorem map_snd_set {ms msX:List (ND × NV)} {i:Nat} {m m':ND × NV} (h:msX.map Prod.snd=ms.map Prod.snd) (a:msX[i]?=some m) (b:m'.2=m.2):(msX.set i m').map Prod.snd=ms.map Prod.snd:=by
 rw [←h];apply List.ext_getElem?
 intro j
 rw [Kal,Kal,List.getElem?_set];split
 ·rename_i e
  subst e;split
  ·rw [a];simp [b]
  ·rename_i hl
   rw [List.getElem?_eq_none (by omega)]
 ·rfl
theorem snd_at {ms msX:List (ND × NV)} {i:Nat} {m:ND × NV} (h:msX.map Prod.snd=ms.map Prod.snd) (a:msX[i]?=some m):(ms.map Prod.snd)[i]?=some m.2:=by
 rw [←h,Kal,a];rfl
section
variable {w wr:World} {B cb g:Nat} {f s d:Bool} {NA:Option Addr} {nc:Nat} {ms:List (ND × NV)} {OA:Option Addr} {oc:Nat} {outs:List Nat} {I0 I1:Option Addr} {m0 k0 m1 k1:Nat} {names:PlacesD}
variable {gn gp:Nat} {N:Nat→Bool} {i k:Nat} {P:Nat→Nat} {m:ND × NV} {nb:Nat} {KA:Option Addr} {kc:Nat} {ks msX:List (ND × NV)}
theorem DrpIn.next {b:World} (h:DrpIn w wr B cb g NA nc ms OA oc outs gn gp N i k P m nb KA kc ks msX) (a:Below wr.heap.size wr b) (c:B≤wr.heap.size) (e:cb<wr.heap.size) (j:g<wr.heap.size):DrpIn w b B cb g NA nc ms OA oc outs gn gp N i k P m nb KA kc ks msX:=
 ⟨h.snd,h.rest,h.cur,h.rows.next a,h.kept.next a,(a.block _ e).trans h.hcb,(a.block _ j).trans h.hg,h.hout.next a,h.hn.next a,h.hpl.next a,h.keep.next a,h.below.trans (a.mono c),(a.block _ (Kab.1 h.node).1).trans h.node⟩
theorem DrpIn.step (y:DgSt w B cb g f s d NA nc ms OA oc outs I0 I1 m0 k0 m1 k1 names) (h:DrpIn w wr B cb g NA nc ms OA oc outs gn gp N i k P m nb KA kc ks msX) (Z:(ks.map Prod.snd).Sublist ((ms.take i).map Prod.snd)) (b0:w.heap.size≤gn) (b1:w.heap.size≤gp)
  {a q a0:Nat} (M:m.1.args[k]?=some a) (C:m.2.av=.slice (some ⟨q,0,none⟩) m.1.args.length a0):
  q<w.heap.size∧∃ msX',DrpIn w (wr.setCell ⟨q,k,none⟩ (VNt (P a))) B cb g NA nc ms OA oc outs gn gp N i (k+1) P m nb KA kc ks msX':=by
 have O:k<m.1.args.length:=(Kaf.1 M).1;have Q:=y.hp;rw [flat_nvB] at Q;have S:=(List.pairwise_cons.1 Q).2;have E:m.2.av.ownBlock=some q:=by rw [C];rfl
 have F:=snd_at h.snd h.cur;have H:some q∈ms.flatMap ndB:=by
  rw [flat_nvB];exact List.mem_flatMap.2 ⟨m.2,Kam F,by simp [nvB,E]⟩
 have a1:=y.blocks (some q) (List.mem_cons_of_mem _ H) q rfl;have T:=args_len m.1.args P (Nat.le_of_lt O);obtain ⟨V,D⟩:∃ V,wr.heap[q]?=some (.cells V 3 (0,0)):=by
  obtain ⟨l1,l2,l3,_,⟨I,c2,c,J⟩,_⟩:=h.rows.2 _ (Kam h.cur);have c:m.2.av=.slice I ((m.1.args.take k).map P++m.1.args.drop k).length c2:=c;rw [C] at c;injection c with c _ X
  subst c X;rcases J.form with ⟨h0,_⟩ | ⟨b2,cur,z,_,a2,_⟩
  ·cases h0
  ·injection z with z
   injection z with z _ _
   subst z;exact ⟨cur,a2⟩
 have a3:B≤q:=by
  obtain ⟨l1,l2,l3,_,⟨I,c2,c,J⟩,_⟩:=h.rows.2 _ (Kam h.cur);have c:m.2.av=.slice I ((m.1.args.take k).map P++m.1.args.drop k).length c2:=c;rw [C] at c;injection c with c _ X
  subst c;exact (J.lt q rfl).1
 have r:∀ b,b≠q→(wr.setCell ⟨q,k,none⟩ (VNt (P a))).heap[b]?=wr.heap[b]?:=fun b p=>ZaS _ _ _ p
 have Y:∀ j v,(ms.map Prod.snd)[j]?=some v→j≠i→∀ b∈nvB v,b≠some q:=fun j v n L=>pair_ne S F n (fun e=>L e.symm) E
 refine ⟨a1,msX.set i ({ m.1 with args:=((m.1.args.take k).map P++m.1.args.drop k).set k (P a) },m.2),?_⟩
 refine ⟨map_snd_set h.snd h.cur rfl,fun j n => ?_,?_,?_,?_,?_,?_,?_,?_,?_,h.keep.set (.inr (.inl (List.mem_cons_of_mem _ H))) _,setCell_below' h.below a3 _,?_⟩
 ·rw [List.getElem?_set_ne (by omega)]
  exact h.rest j n
 ·rw [List.getElem?_set_self (by have:=(Kaf.1 h.cur).1;omega),args_setP _ _ M]
 ·refine h.rows.setArg (m:=({ m.1 with args:=(m.1.args.take k).map P++m.1.args.drop k },m.2)) h.cur (by rw [C];show _=Value.slice _ ((m.1.args.take k).map P++m.1.args.drop k).length _;rw [T]) (by show k<((m.1.args.take k).map P++m.1.args.drop k).length;rw [T];exact O) (pair_self S F E) (fun j a4 n L => ?_)
  exact Y j a4.2 (snd_at h.snd n) L
 ·refine h.kept.setOther D (fun b p => ?_) _
  obtain ⟨x,a5,a6⟩:=List.mem_flatMap.1 p;have a7:x.2∈(ms.take i).map Prod.snd:=Z.subset (List.mem_map.2 ⟨x,a5,rfl⟩);obtain ⟨b3,a8,a9⟩:=List.mem_map.1 a7;obtain ⟨j,n⟩:=List.getElem?_of_mem a8;rw [List.getElem?_take] at n;split at n
  ·rename_i hji
   refine Y j x.2 (by rw [Kal,n,←a9];rfl) (by omega) b ?_
   exact a6
  ·cases n
 ·refine (r cb fun e => ?_).trans h.hcb
  have:=h.hcb.trans y.hc;rw [e,D] at this;injection this with this
  injection this with _ this _
  exact absurd this (by decide)
 ·refine (r g fun e => ?_).trans h.hg
  obtain ⟨es,b4,A,_⟩:=y.hn;have:=h.hg.trans A;rw [e,D] at this
  cases this
 ·refine own_at h.hout fun b p=>r b fun e => ?_
  rcases (List.pairwise_cons.1 y.hp).1 (some q) H with A | A
  ·rw [A] at p;cases p
  ·exact A (by rw [p,e])
 ·exact (r gn (by omega)).trans h.hn
 ·exact (r gp (by omega)).trans h.hpl
 ·refine (r nb fun e => ?_).trans h.node
  have:=h.node;rw [e,D] at this;injection this with this
  injection this with _ this _
  exact absurd this (by decide)
end
structure DrpRel (w wr:World) (B cb g:Nat) (NA:Option Addr) (nc:Nat) (ms:List (ND × NV)) (OA:Option Addr) (oc:Nat) (outs:List Nat) (gn gp:Nat) (N:Nat→Bool) (i:Nat) (R:List ND × (Nat→Nat)) (KA:Option Addr) (kc:Nat) (ks msX:List (ND × NV)):Prop where
 snd:msX.map Prod.snd=ms.map Prod.snd
 rest:∀ j,i≤j→msX[j]?=ms[j]?
 rows:NdRow wr B NA nc msX
 kept:NdRow wr B KA kc ks
 kfst:ks.map Prod.fst=R.1
 ksub:(ks.map Prod.snd).Sublist ((ms.take i).map Prod.snd)
 knew:∀ q,blk KA=some q→w.heap.size≤q
 hcb:wr.heap[cb]?=w.heap[cb]?
 hg:wr.heap[g]?=w.heap[g]?
 hout:Own wr B 3 OA oc (outs.map VNt)
 hn:MkB wr 3 gn ms.length (fun a=>bI (N a))
 hpl:MkB wr 3 gp ms.length (fun a=>VNt (R.2 a))
 keep:DrpK w wr cb (blk OA::ms.flatMap ndB)
 below:Below B w wr
section
variable {w wr:World} {B cb g:Nat} {f s d:Bool} {NA:Option Addr} {nc:Nat} {ms:List (ND × NV)} {OA:Option Addr} {oc:Nat} {outs:List Nat} {I0 I1:Option Addr} {m0 k0 m1 k1:Nat} {names:PlacesD}
variable {gn gp:Nat} {N:Nat→Bool} {i k:Nat} {R:List ND × (Nat→Nat)} {P:Nat→Nat} {m:ND × NV} {nb:Nat} {KA:Option Addr} {kc:Nat} {ks msX:List (ND × NV)}
theorem DrpRel.next {b:World} (h:DrpRel w wr B cb g NA nc ms OA oc outs gn gp N i R KA kc ks msX) (a:Below wr.heap.size wr b) (c:B≤wr.heap.size) (e:cb<wr.heap.size) (j:g<wr.heap.size):DrpRel w b B cb g NA nc ms OA oc outs gn gp N i R KA kc ks msX:=
 ⟨h.snd,h.rest,h.rows.next a,h.kept.next a,h.kfst,h.ksub,h.knew,(a.block _ e).trans h.hcb,(a.block _ j).trans h.hg,h.hout.next a,h.hn.next a,h.hpl.next a,h.keep.next a,h.below.trans (a.mono c)⟩
theorem DrpRel.skip (h:DrpRel w wr B cb g NA nc ms OA oc outs gn gp N i R KA kc ks msX):DrpRel w wr B cb g NA nc ms OA oc outs gn gp N (i+1) R KA kc ks msX:=by
 refine ⟨h.snd,fun j a=>h.rest j (by omega),h.rows,h.kept,h.kfst,h.ksub.trans ?_,h.knew,h.hcb,h.hg,h.hout,h.hn,h.hpl,h.keep,h.below⟩
 exact (List.take_sublist_take_left (Nat.le_succ i)).map _
theorem DrpRel.toIn (h:DrpRel w wr B cb g NA nc ms OA oc outs gn gp N i R KA kc ks msX) (a:ms[i]?=some m) (b:wr.heap[nb]?=some (.cells (ndC m).toArray 77 (0,0))):DrpIn w wr B cb g NA nc ms OA oc outs gn gp N i 0 R.2 m nb KA kc ks msX:=
 ⟨h.snd,fun j c=>h.rest j (by omega),(h.rest i (Kag _)).trans (by rw [a];simp),h.rows,h.kept,h.hcb,h.hg,h.hout,h.hn,h.hpl,h.keep,h.below,b⟩
theorem kept_blocks (c:(ks.map Prod.snd).Sublist ((ms.take i).map Prod.snd)):∀ b∈ks.flatMap ndB,b∈ms.flatMap ndB:=by
 intro b a
 rw [flat_nvB] at a ⊢;have e:=(sub_flat nvB c).subset a;exact (sub_flat nvB ((List.take_sublist i ms).map Prod.snd)).subset e
theorem DrpIn.place {p:Nat} (h:DrpIn w wr B cb g NA nc ms OA oc outs gn gp N i k P m nb KA kc ks msX) (q:DgSt w B cb g f s d NA nc ms OA oc outs I0 I1 m0 k0 m1 k1 names) (z:∀ a∈m.1.args,a<i) (A:i<ms.length) (C:w.heap.size≤gp) (D:gn≠gp) (E:(ks.map Prod.snd).Sublist ((ms.take i).map Prod.snd)) (J:B≤w.heap.size):
  DrpIn w (wr.setCell ⟨gp,i,none⟩ (VNt p)) B cb g NA nc ms OA oc outs gn gp N i k (updD P i p) m nb KA kc ks msX:=by
 have n:∀ b,b≠gp→(wr.setCell ⟨gp,i,none⟩ (VNt p)).heap[b]?=wr.heap[b]?:=fun b j=>ZaS _ _ _ j
 obtain ⟨y,r⟩:∃ y,wr.heap[gp]?=some (.cells y 3 (0,0)):=⟨_,h.hpl⟩;have L:=q.lt;have M:g<w.heap.size:=by
  obtain ⟨es,c,F,_⟩:=q.hn;exact (Kab.1 F).1
 have v:=q.blocks;have H:∀ b∈msX.flatMap ndB,b≠some gp:=fun b j e=>by
  rw [flat_nvB,h.snd,←flat_nvB] at j;have:=v b (List.mem_cons_of_mem _ j) gp e;omega
 refine ⟨h.snd,h.rest,?_,h.rows.setOther r H _,h.kept.setOther r (fun b j e => ?_) _,(n cb (by omega)).trans h.hcb,(n g (by omega)).trans h.hg,own_at h.hout fun b j=>n b fun e => ?_,(n gn D).trans h.hn,h.hpl.set A _ _ (fun a => ?_),h.keep.set (.inr (.inr C)) _,setCell_below' h.below (by omega) _,(n nb fun e => ?_).trans h.node⟩
 ·rw [h.cur];have:(m.1.args.take k).map (updD P i p)=(m.1.args.take k).map P:=List.map_congr_left fun a I=>by
   have:=z a (List.mem_of_mem_take I);unfold updD;rw [if_neg (by omega)]
  rw [this]
 ·have:=v b (List.mem_cons_of_mem _ (kept_blocks E b j)) gp e;omega
 ·have:=v (blk OA) (List.mem_cons_self ..) b j;omega
 ·unfold updD;split <;> rfl
 ·have:=h.node;rw [e,r] at this;injection this with this
  injection this with _ this _
  exact absurd this (by decide)
theorem DrpIn.push {n:World} {p:Option Addr} {A:Nat} {L:List ND} (h:DrpIn w wr B cb g NA nc ms OA oc outs gn gp N i k P m nb KA kc ks msX) (y:DgSt w B cb g f s d NA nc ms OA oc outs I0 I1 m0 k0 m1 k1 names) (C:ms[i]?=some m) (O:k=m.1.args.length) (r:∀ q,blk KA=some q→w.heap.size≤q) (D:(ks.map Prod.snd).Sublist ((ms.take i).map Prod.snd)) (Q:B≤w.heap.size)
  (t:wr.grownBy n (blk KA)) (E:NdRow n B p A (ks++[({ m.1 with args:=m.1.args.map P },m.2)])) (F:blk p=blk KA∨blk p=some wr.heap.size) (H:(ks++[({ m.1 with args:=m.1.args.map P },m.2)]).map Prod.fst=L):
  DrpRel w n B cb g NA nc ms OA oc outs gn gp N (i+1) (L,P) p A (ks++[({ m.1 with args:=m.1.args.map P },m.2)]) msX:=by
 have v:KIW wr n:=KIW.grown t (by decide) (by decide) h.kept.form
 have I:=y.lt;have J:g<w.heap.size:=by
  obtain ⟨es,c,M,_⟩:=y.hn;exact (Kab.1 M).1
 have S:=h.keep.1;have z:∀ b,b<w.heap.size→n.heap[b]?=wr.heap[b]?:=fun b T=>t.block b (by omega) fun e=>by have:=r b e.symm;omega
 refine ⟨h.snd,fun j V=>h.rest j (by omega),h.rows.keep v fun q a=>z q (y.hr.lt q a).2,E,H,?_,fun q a => ?_,(z cb I).trans h.hcb,(z g J).trans h.hg,own_kiw h.hout (.inl rfl) v,(v _ _ _ h.hn (.inl rfl)).trans h.hn,(v _ _ _ h.hpl (.inl rfl)).trans h.hpl,h.keep.grown t r,Zal h.below t (by omega) fun q a=>by have:=r q a;omega⟩
 ·rw [List.map_append,List.take_add_one,C,List.map_append];exact D.append (List.Sublist.refl _)
 ·rcases F with e | e
  ·exact r q (e ▸ a)
  ·rw [e] at a;injection a with a
   omega
theorem DrpIn.arg (h:DrpIn w wr B cb g NA nc ms OA oc outs gn gp N i k P m nb KA kc ks msX) {a v:Nat} {e:Option Addr} (j:m.1.args[k]?=some a) (y:m.2.av=.slice e m.1.args.length v):
  ∃ q,e=some ⟨q,0,none⟩∧wr.cell? ⟨q,k,none⟩=some (.int .i64 (a:Int))∧wr.frozen? ⟨q,k,none⟩=false:=by
 have z:k<m.1.args.length:=(Kaf.1 j).1;obtain ⟨H,I,J,_,⟨n,c2,b,c⟩,_⟩:=h.rows.2 _ (Kam h.cur);have b:m.2.av=.slice n ((m.1.args.take k).map P++m.1.args.drop k).length c2:=b;have c:Own wr B 3 n c2 (((m.1.args.take k).map P++m.1.args.drop k).map VNt):=c;rw [y] at b;injection b with b _ A
 subst b A;have C:(((m.1.args.take k).map P++m.1.args.drop k).map VNt)[k]?=some (VNt a):=by rw [Kal,args_nth _ _ j];rfl
 rcases c.form with ⟨L,p⟩ | ⟨q,cur,D,_,E,_⟩
 ·have F:(((m.1.args.take k).map P++m.1.args.drop k).map VNt).length=0:=by
   cases hq:(((m.1.args.take k).map P++m.1.args.drop k).map VNt) with
   | nil=>rfl
   | cons x r=>rw [hq] at p;simp at p
  rw [Kak,args_len _ _ (Nat.le_of_lt z)] at F;omega
 ·subst D;exact ⟨q,rfl,c.cellAt C,by simp [World.frozen?,E]⟩
end
theorem appNd2 {w:World} {p:Array Oper} {rest:List Oper} {o:Oper} {a:Act} {Q:Exit→Act→World→Prop} (q:o.guard=none) (s x:Operand)
  (r:o.op=.call { callee:=.builtin .append,args:=#[s,x],argTypes:=#[66,66] }) (B:Nat)
  (A:Option Addr) (e n:Nat) (ms:List (ND × NV)) (v:n=ms.length) (y:a.eval s=.slice A n e) (z:NdRow w B A e ms)
  (j:Nat) (C:a.eval x=.slice (some ⟨j,0,none⟩) 1 1) (m:ND × NV) (D:w.heap[j]?=some (.cells (ndC m).toArray 77 (0,0))) (E:NdV w B m)
  (F:n≤100000) (H:B≤w.heap.size)
  (h:∀ b c w',NdRow w' B b c (ms++[m])→w.grownBy w' (blk A)→(blk b=blk A∨blk b=some w.heap.size)→wpList Tryz.prog p Q rest (a.put o.dst (.slice b (n+1) c)) w'):
  wpList Tryz.prog p Q (o::rest) a w:=by
 obtain ⟨b,c,w',I,J,L,M,_⟩:=run_appNd o.type B A e n ms v z j m D E F H;refine wpList_plain q fun K hK => ?_
 unfold Oper.wp execOp;simp only [r,resolve,invoke,builtin,Sem.run_bind,Sem.run_pure,Result.andThen_ok,List.map_toArray,List.map_cons,List.map_nil,y,C,I];exact hK _ _ (h b c w' J L M)
structure DrpFin (w wr:World) (B cb g:Nat) (f s d:Bool) (ms:List (ND × NV)) (OA:Option Addr) (oc:Nat) (outs:List Nat) (I0 I1:Option Addr) (m0 k0 m1 k1:Nat) (gp:Nat) (P:Nat→Nat) (k:Nat) (KA:Option Addr) (kc:Nat) (ks:List (ND × NV)):Prop where
 hcb:wr.heap[cb]?=some (.cells #[.bool f,.bool s,.bool d,.slice KA ks.length kc,.slice OA outs.length oc,.slice I0 m0 k0,.slice I1 m1 k1,.map (some g)] 131 (0,0))
 hg:wr.heap[g]?=w.heap[g]?
 kept:NdRow wr B KA kc ks
 hout:Own wr B 3 OA oc (((outs.take k).map P++outs.drop k).map VNt)
 hpl:MkB wr 3 gp ms.length (fun a=>VNt (P a))
 keep:DrpK w wr cb (blk OA::ms.flatMap ndB)
 below:Below B w wr
section
variable {w wr:World} {B cb g:Nat} {f s d:Bool} {NA:Option Addr} {nc:Nat} {ms:List (ND × NV)} {OA:Option Addr} {oc:Nat} {outs:List Nat} {I0 I1:Option Addr} {m0 k0 m1 k1:Nat} {names:PlacesD}
variable {gn gp:Nat} {N:Nat→Bool} {i k:Nat} {R:List ND × (Nat→Nat)} {P:Nat→Nat} {KA:Option Addr} {kc:Nat} {ks msX:List (ND × NV)}
theorem DrpRel.fin (h:DrpRel w wr B cb g NA nc ms OA oc outs gn gp N i R KA kc ks msX) (a:DgSt w B cb g f s d NA nc ms OA oc outs I0 I1 m0 k0 m1 k1 names) (r:w.heap.size≤gp):
  DrpFin w (wr.setCell ⟨cb,3,none⟩ (.slice KA ks.length kc)) B cb g f s d ms OA oc outs I0 I1 m0 k0 m1 k1 gp R.2 0 KA kc ks:=by
 have b:=h.hcb.trans a.hc;have j:KIW wr (wr.setCell ⟨cb,3,none⟩ (.slice KA ks.length kc)):=KIW.set b (by decide) (by decide) _
 have t:=a.lt;refine ⟨heap_setCell_same _ _ _ _ _ _ b,(ZaS _ _ _ fun e => ?_).trans h.hg,h.kept.keep j fun q p=>ZaS _ _ _ fun e => ?_,?_,(ZaS _ _ _ fun e => ?_).trans h.hpl,h.keep.set (.inl rfl) _,setCell_below' h.below a.b1 _⟩
 ·have e:g=cb:=e;obtain ⟨es,c,n,_⟩:=a.hn;rw [e,a.hc] at n
  cases n
 ·have e:q=cb:=e;have:=h.knew q p;omega
 ·exact own_kiw h.hout (.inl rfl) j
 ·have e:gp=cb:=e;omega
theorem DrpFin.step (h:DrpFin w wr B cb g f s d ms OA oc outs I0 I1 m0 k0 m1 k1 gp P k KA kc ks) (p:DgSt w B cb g f s d NA nc ms OA oc outs I0 I1 m0 k0 m1 k1 names) (H:w.heap.size≤gp) (C:(ks.map Prod.snd).Sublist ((ms.take i).map Prod.snd)) {o a:Nat} (y:outs[k]?=some o) (j:OA=some ⟨a,0,none⟩):
  DrpFin w (wr.setCell ⟨a,k,none⟩ (VNt (P o))) B cb g f s d ms OA oc outs I0 I1 m0 k0 m1 k1 gp P (k+1) KA kc ks:=by
 subst j;have z:k<outs.length:=(Kaf.1 y).1;obtain ⟨A,q⟩:∃ A,wr.heap[a]?=some (.cells A 3 (0,0)):=by
  rcases h.hout.form with ⟨D,_⟩ | ⟨I,cur,j,_,E,_⟩
  ·cases D
  ·injection j with j
   injection j with j _ _
   subst j;exact ⟨cur,E⟩
 have J:=p.blocks (some a) (List.mem_cons_self ..) a rfl;have F:=(h.hout.lt a rfl).1;have r:∀ b,b≠a→(wr.setCell ⟨a,k,none⟩ (VNt (P o))).heap[b]?=wr.heap[b]?:=fun b v=>ZaS _ _ _ v
 refine ⟨(r cb fun e => ?_).trans h.hcb,(r g fun e => ?_).trans h.hg,h.kept.setOther q (fun b v e => ?_) _,?_,(r gp (by omega)).trans h.hpl,h.keep.set (.inr (.inl (List.mem_cons_self ..))) _,setCell_below' h.below F _⟩
 ·have:=h.hcb;rw [e,q] at this;injection this with this
  injection this with _ this _
  exact absurd this (by decide)
 ·obtain ⟨es,c,n,_⟩:=p.hn;have:=h.hg.trans n;rw [e,q] at this
  cases this
 ·rcases (List.pairwise_cons.1 p.hp).1 b (kept_blocks C b v) with n | n
  ·cases n
  ·exact n e.symm
 ·have:=h.hout.setAt (k:=k) (by rw [Kak,args_len _ _ (Nat.le_of_lt z)];exact z) (VNt (P o))
  rw [←List.map_set,args_setP _ _ y] at this;exact this
theorem DrpFin.next {b:World} (h:DrpFin w wr B cb g f s d ms OA oc outs I0 I1 m0 k0 m1 k1 gp P k KA kc ks) (a:Below wr.heap.size wr b) (c:B≤wr.heap.size) (e:g<wr.heap.size):DrpFin w b B cb g f s d ms OA oc outs I0 I1 m0 k0 m1 k1 gp P k KA kc ks:=
 ⟨(a.block _ (Kab.1 h.hcb).1).trans h.hcb,(a.block _ e).trans h.hg,h.kept.next a,h.hout.next a,h.hpl.next a,h.keep.next a,h.below.trans (a.mono c)⟩
theorem DrpFin.arg (h:DrpFin w wr B cb g f s d ms OA oc outs I0 I1 m0 k0 m1 k1 gp P k KA kc ks) {o:Nat} (a:outs[k]?=some o):
  ∃ q,OA=some ⟨q,0,none⟩∧wr.cell? ⟨q,k,none⟩=some (.int .i64 (o:Int))∧wr.frozen? ⟨q,k,none⟩=false:=by
 have e:k<outs.length:=(Kaf.1 a).1;have j:(((outs.take k).map P++outs.drop k).map VNt)[k]?=some (VNt o):=by rw [Kal,args_nth _ _ a];rfl
 have b:=h.hout;rcases b.form with ⟨v,c⟩ | ⟨q,cur,n,_,p,_⟩
 ·have t:(((outs.take k).map P++outs.drop k).map VNt).length=0:=by
   cases hq:(((outs.take k).map P++outs.drop k).map VNt) with
   | nil=>rfl
   | cons x r=>rw [hq] at c;simp at c
  rw [Kak,args_len _ _ (Nat.le_of_lt e)] at t;omega
 ·subst n;exact ⟨q,rfl,b.cellAt j,by simp [World.frozen?,p]⟩
theorem DrpFin.done (h:DrpFin w wr B cb g f s d ms OA oc outs I0 I1 m0 k0 m1 k1 gp P k KA kc ks) (a:DgSt w B cb g f s d NA nc ms OA oc outs I0 I1 m0 k0 m1 k1 names) (b:(ks.map Prod.snd).Sublist ((ms.take i).map Prod.snd)) (e:k=outs.length):
  DgSt wr B cb g f s d KA kc ks OA oc (outs.map P) I0 I1 m0 k0 m1 k1 names:=by
 subst e;refine ⟨a.b1,a.b2,?_,?_,h.kept,?_,?_⟩
 ·rw [Kak];exact h.hcb
 ·obtain ⟨es,c,j,n⟩:=a.hn;exact ⟨es,c,h.hg.trans j,n⟩
 ·have:=h.hout;rw [List.take_length,List.drop_length,List.append_nil] at this;exact this
 ·refine List.Pairwise.sublist (List.Sublist.cons_cons _ ?_) a.hp;rw [flat_nvB,flat_nvB];exact (sub_flat nvB b).trans (sub_flat nvB ((List.take_sublist i ms).map Prod.snd))
end
theorem keepD_succ (l:List ND) (m:Nat→Bool) (i:Nat):keepD l m (i+1)=if m i=true then ((keepD l m i).1++[{ atD l i with args:=(atD l i).args.map (keepD l m i).2 }],updD (keepD l m i).2 i (keepD l m i).1.length) else keepD l m i:=rfl
theorem res_drop (t:Array Value) (w:World):(results Tryz.f66 t).run Tryz.prog w=.ok (.tuple #[]) w:=by kernel_rfl
theorem drop_any (in0 in1:List (List Int)) (B cb g:Nat) (f s d:Bool) (NA:Option Addr) (nc:Nat) (ms:List (ND × NV)) (OA:Option Addr) (oc:Nat) (outs:List Nat) (I0 I1:Option Addr) (m0 k0 m1 k1:Nat) (names:PlacesD) (w:World)
  (V:DgSt w B cb g f s d NA nc ms OA oc outs I0 I1 m0 k0 m1 k1 names) (i7:WfD in0 in1 (ms.map Prod.fst)) (i8:∀ o∈outs,o<ms.length) (p9:ms.length≤1000) (q0:outs.length≤1000):
  Calls Tryz.prog 66 #[.pointer (some ⟨cb,3,none⟩)] w fun e w'=>e=.returned (.tuple #[])∧∃ NA' nc' ms' outs',ms'.map Prod.fst=(dropD (ms.map Prod.fst) outs).1∧outs'=(dropD (ms.map Prod.fst) outs).2∧DgSt w' B cb g f s d NA' nc' ms' OA oc outs' I0 I1 m0 k0 m1 k1 names∧Below B w w'∧DrpK w w' cb (blk OA::ms.flatMap ndB):=by
 have i9:B≤w.heap.size:=Kah V.b1 (Nat.le_of_lt V.lt);have j0:=V.lt;have j1:g<w.heap.size:=by
  obtain ⟨es,q1,h1,_⟩:=V.hn;exact (Kab.1 h1).1
 obtain ⟨l,c8⟩:=Ky (ms.map Prod.fst);obtain ⟨N,f6⟩:=Ky (needD l outs);obtain ⟨b,f7⟩:∃ F:Nat→List ND × (Nat→Nat),F=fun i=>keepD l N i:=⟨_,rfl⟩
 have q2:=Kz c8;have l8:=Kz f6;have d6:=Kz (show ∀ i,b i=keepD l N i from fun i=>by rw [f7])
 have j2:=Kz (show ∀ i m,ms[i]?=some m→∀ a∈m.1.args,a<i from fun i m f8=>(i7 i m.1 (by rw [Kal,f8];rfl)).ahead)
 have j3:=Kz (show ∀ i m,ms[i]?=some m→atD l i=m.1 from fun i m f8=>atD_some (by rw [c8,Kal,f8];rfl))
 have j4:=Kz (show dropD l outs=((b l.length).1,outs.map (b l.length).2) from by rw [f7,f6];rfl)
 have f9:=Kz (show l.length=ms.length from by rw [c8,Kak])
 rw [←c8];clear c8 f6 f7 i7;obtain ⟨gn,d7⟩:=Ky w.heap.size;obtain ⟨W0,d8⟩:=Ky (w.alloc (.cells ((List.range ms.length).map fun _=>bI false).toArray 3))
 have j5:MkB W0 3 gn ms.length (fun _=>bI false):=by rw [d8,d7];exact Kac w _
 have g0:=Kv d8;have l9:(Instr.makeSlice 41 (.int .i64 (ms.length:Int)) (.int .i64 (ms.length:Int))).run Tryz.prog w=.ok (.slice (some ⟨gn,0,none⟩) ms.length ms.length) W0:=by
  rw [d8,d7];exact Zfw ms.length (by omega) w (ms.length:Int) (by simp)
 have g1:=Kz (show w.heap.size≤gn from Nat.le_of_eq d7.symm)
 have I:=Kz V;have j6:=Kz i8;have X:=Kz i9;have d9:=Kz j0;have c9:=Kz j1;have b4:=Kz (show ∀ W,Below w.heap.size w W→W.cell? ⟨cb,3,none⟩=some (.slice NA ms.length nc)∧W.cell? ⟨cb,4,none⟩=some (.slice OA outs.length oc) from fun W e0=>⟨(V.next e0).cells.2.2.2.1,(V.next e0).cells.2.2.2.2.1⟩)
 have j7:=Kz j5;have j8:=Kz g0;have m2:=(b4.o w (Kai _ _)).1;have m3:=(b4.o W0 g0).2;clear d8 d7 j5 g0 V i8 i9 j0 j1
 go_enter Tryz.func66,Tryz.ntmps66
 go_wp2_with fail
 clear l9 m2 m3
 go_loopw [27] (fun J wr=>(∃ k:Nat,k≤outs.length∧J=.int .i64 k∧MkB wr 3 gn ms.length (fun a=>bI ((outs.take k).any fun b0=>b0==a)))∧Below w.heap.size w wr) (fun J _=>outs.length-(intOf J).toNat)
 case atStart=>exact ⟨⟨0,by omega,rfl,by simpa using j7.o⟩,j8.o⟩
 case round=>
  clear j7 j8;obtain ⟨⟨k,b3,rfl,Y⟩,Z⟩:=hrel;have r:=Kz Y;have c:=Kz Z;clear Y Z
  by_cases H:k<outs.length
  ·have h:outs[k]?=some (outs[k]'H):=Kad _;obtain ⟨o,e4⟩:=Ky (outs[k]'H);rw [←e4] at h;have m4:=j6.o o (Kam h);obtain ⟨b0,j9,e5,m5,p⟩:=(I.o.next c.o).ho.rd.at_ (show (outs.map VNt)[k]?=some (VNt o) by rw [Kal,h];rfl)
   subst e5;have d0:wr.cell? ⟨b0,j9+k,none⟩=some (.int .i64 (o:Int)):=p;clear p;have k0:(0:Int)≤(k:Int):=by omega
   have k1:(k:Int)<(outs.length:Int):=by omega
   have o0:(0:Int)≤(o:Int):=by omega
   have o1:(o:Int)<(ms.length:Int):=by omega
   have m6:=r.o.free o;have d1:=Kz (r.o.set (i:=o) m4 (.int .i64 1) (fun b5=>bI ((outs.take (k+1)).any fun b0=>b0==b5)) (fun b5=>by
    rw [outs_step h];split <;> rfl))
   have g2:=Kz (Zaf (k:=o) c.o g1.o (.int .i64 1));clear h e4 m5;have j:=r.o.cell (i:=o) (by omega)
   go_wp2
   exact ⟨⟨⟨k+1,by omega,rfl,d1.o⟩,g2.o⟩,by simp [intOf];omega⟩
  ·obtain rfl:k=outs.length:=by omega
   have e6:=Kz (show MkB wr 3 gn ms.length (fun a=>bI (outs.any fun b0=>b0==a)) from by
    have:=r.o;rw [List.take_length] at this;exact this)
   clear r b3;have c3:=(b4.o wr c.o).1
   go_wp2_with fail
   clear c3
   go_loopw [5] (fun J wr=>(∃ (d2:Nat) (m:Nat→Bool),d2≤ms.length∧J=.int .i64 ((d2:Int)-1)∧N=markD l d2 m∧MkB wr 3 gn ms.length (fun a=>bI (m a)))∧Below w.heap.size w wr) (fun J _=>(intOf J+1).toNat)
   case atStart=>exact ⟨⟨ms.length,_,Kag _,rfl,by rw [l8.o];unfold needD;rw [f9.o],e6.o⟩,c.o⟩
   case round=>
    clear e6 c;obtain ⟨⟨d2,m,g3,rfl,k2,Y⟩,Z⟩:=hrel;have b6:=Kz k2;have r:=Kz Y;have c:=Kz Z;clear k2 Y Z
    match d2,g3,b6 with
    | 0,g3,b6=>
     rw [show (((0:Nat):Int)-1) = -1 by omega]
     have r:=Kz (show MkB wr 3 gn ms.length (fun a=>bI (N a)) from by rw [b6.o];exact r.o)
     clear b6;obtain ⟨gp,e7⟩:=Ky wr.heap.size;obtain ⟨W1,e8⟩:=Ky (wr.alloc (.cells ((List.range ms.length).map fun _=>bI false).toArray 3))
     have m7:(Instr.makeSlice 41 (.int .i64 (ms.length:Int)) (.int .i64 (ms.length:Int))).run Tryz.prog wr=.ok (.slice (some ⟨gp,0,none⟩) ms.length ms.length) W1:=by
      rw [e8,e7];exact Zfw ms.length (by omega) wr (ms.length:Int) (by simp)
     have g4:=Kv e8;have a7:Below w.heap.size w W1:=bnext c.o g4;have e9:=Kz (show w.heap.size≤gp from by rw [e7];exact c.o.size)
     have m8:=Kz (show gn≠gp from by have:=r.o.lt;omega)
     have k3:MkB W1 3 gp ms.length (fun a=>VNt ((b 0).2 a)):=by
      rw [d6.o]
      show W1.heap[gp]?=_
      rw [e8,e7];refine (Kac wr _).trans ?_;rw [mkb_vnt];rfl
     have k4:=Kz (show DrpRel w W1 B cb g NA nc ms OA oc outs gn gp N 0 (b 0) none 0 [] ms from
      ⟨rfl,fun _ _=>rfl,(I.o.next a7).hr,NdRow.nil _ _,by rw [d6.o];rfl,by simp,fun q m9=>(by cases m9),a7.block _ d9.o,a7.block _ c9.o,(I.o.next a7).ho,r.o.next g4,k3,DrpK.of a7,a7.mono X.o⟩)
     have c3:=(b4.o wr c.o).1;have n2:=(b4.o W1 a7).1;clear e7 e8 g4 a7 r c k3
     go_wp2_with fail
     clear m7 c3 n2
     go_loopw [9,80] (fun xv J wr=>∃ (i:Nat) (KA:Option Addr) (kc:Nat) (ks msX:List (ND × NV)),i≤ms.length∧J=.int .i64 i∧xv=.slice KA ks.length kc∧DrpRel w wr B cb g NA nc ms OA oc outs gn gp N i (b i) KA kc ks msX) (fun _ J _=>ms.length-(intOf J).toNat)
     case atStart=>exact ⟨0,none,0,[],ms,by omega,rfl,rfl,k4.o⟩
     case round=>
      clear k4;obtain ⟨i,KA,kc,ks,msX,n3,rfl,rfl,k5⟩:=hrel;have M:=Kz k5;clear k5
      by_cases f0:i<ms.length
      ·obtain ⟨⟨n,⟨n4,n5,n6⟩⟩,a8⟩:∃ x,ms[i]?=some x:=⟨ms[i]'(by omega),Kad (by omega)⟩
       obtain ⟨q,g5,g6,D,d3⟩:=M.o.rows.at_ ((M.o.rest i (Kag _)).trans a8);subst g5;obtain ⟨_,n7,_,⟨A1,p,e1,_⟩,⟨v,j,e2,_⟩,y,z,e3,_⟩:=d3;change n4=.slice A1 n.shape.length p at e1;change n5=.slice v n.args.length j at e2;change n6=.slice y n.elems.length z at e3;subst e1 e2 e3;change n.args.length≤1000000 at n7;have c0:wr.cell? ⟨q,i*7,none⟩=some (.int .i64 n.kind):=D 0 _ rfl (by omega)
       have c1:wr.cell? ⟨q,i*7+1,none⟩=some (.slice A1 n.shape.length p):=D 1 _ rfl (by omega)
       have c2:wr.cell? ⟨q,i*7+2,none⟩=some (.slice v n.args.length j):=D 2 _ rfl (by omega)
       have c3:wr.cell? ⟨q,i*7+3,none⟩=some (.int .i64 n.party):=D 3 _ rfl (by omega)
       have c4:wr.cell? ⟨q,i*7+4,none⟩=some (.int .i64 n.input):=D 4 _ rfl (by omega)
       have c5:wr.cell? ⟨q,i*7+5,none⟩=some (.int .i64 n.k):=D 5 _ rfl (by omega)
       have c6:wr.cell? ⟨q,i*7+6,none⟩=some (.slice y n.elems.length z):=D 6 _ rfl (by omega)
       obtain ⟨w5,f1⟩:=Ky (wr.alloc (.cells #[.int .i64 n.kind,.slice A1 n.shape.length p,.slice v n.args.length j,.int .i64 n.party,.int .i64 n.input,.int .i64 n.k,.slice y n.elems.length z] 77));obtain ⟨nb,g7⟩:=Ky wr.heap.size;have k6:=Kv f1;have E:=M.o.keep.1;have g9:=Kz (show w5.heap[nb]?=some (.cells (ndC (n,⟨.slice A1 n.shape.length p,.slice v n.args.length j,.slice y n.elems.length z⟩)).toArray 77 (0,0)) from by rw [f1,g7];exact Kac wr _)
       have O:=Kz (M.o.next k6 (Kah X.o E) (Kae d9.o E) (Kae c9.o E));have f2:=Kz a8;have n8:=Kz f1;have h0:=Kz g7;have i0:(0:Int)≤(i:Int):=by omega
       have i1:(i:Int)<(ms.length:Int):=by omega
       clear a8 g6 D f1 g7 k6 E
       go_upto_region 19 with fail
       rw [←n8.o,←h0.o];clear c0 c1 c2 c3 c4 c5 c6;have Q:=O.o.hn.cell (i:=i) f0;have b7:=Kz (show b (i+1)=if N i=true then ((b i).1++[{ n with args:=n.args.map (b i).2 }],updD (b i).2 i (b i).1.length) else b i from by
        have:=j3.o i _ f2.o;rw [d6.o,d6.o,keepD_succ,this])
       cases hNi:N i with
       | false=>
        rw [hNi] at Q;simp only [bI,Bool.false_eq_true,if_false] at Q;have b7:=Kz (show b (i+1)=b i from by rw [b7.o,hNi];rfl)
        clear hNi
        go_wp2_with fail
        exact ⟨⟨i+1,KA,kc,ks,msX,by omega,rfl,rfl,by rw [b7.o];exact O.o.skip⟩,by simp [intOf];omega⟩
       | true=>
        rw [hNi] at Q;simp only [bI,if_true] at Q;have b7:=Kz (show b (i+1)=((b i).1++[{ n with args:=n.args.map (b i).2 }],updD (b i).2 i (b i).1.length) from by rw [b7.o,hNi];rfl)
        have k7:=Kz (O.o.toIn f2.o g9.o);have h2:=Kz (show ∀ a∈n.args,a<i from j2.o i _ f2.o)
        have c2:w5.cell? ⟨nb,2,none⟩=some (.slice v n.args.length j):=cells_node g9.o 2 _ rfl;clear hNi
        go_wp2_with fail
        clear Q c2
        go_loopw [93] (fun L n9=>∃ (k:Nat) (f4:List (ND × NV)),k≤n.args.length∧L=.int .i64 k∧DrpIn w n9 B cb g (some ⟨q,0,none⟩) nc ms OA oc outs gn gp N i k (b i).2 (n,⟨.slice A1 n.shape.length p,.slice v n.args.length j,.slice y n.elems.length z⟩) nb KA kc ks f4) (fun L _=>n.args.length-(intOf L).toNat)
        case atStart=>exact ⟨0,msX,by omega,rfl,k7.o⟩
        case round=>
         clear k7 g9;obtain ⟨k,f4,b3,rfl,b8⟩:=hrel;have d4:=Kz b8;have E:=d4.o.keep.1
         by_cases H:k<n.args.length
         ·have h:n.args[k]?=some (n.args[k]'H):=Kad _;obtain ⟨a,a9⟩:=Ky (n.args[k]'H);rw [←a9] at h;have h3:=h2.o a (Kam h);obtain ⟨o3,h4,d0,o4⟩:=b8.arg h rfl;subst h4;have c2:wr.cell? ⟨nb,2,none⟩=some (.slice (some ⟨o3,0,none⟩) n.args.length j):=cells_node d4.o.node 2 _ rfl;have h5:=d4.o.hpl.cell (i:=a) (by omega)
          unfold VNt at h5;have k0:(0:Int)≤(k:Int):=by omega
          have k1:(k:Int)<(n.args.length:Int):=by omega
          have a0:(0:Int)≤(a:Int):=by omega
          have a1:(a:Int)<(ms.length:Int):=by omega
          obtain ⟨_,o5,k9⟩:=DrpIn.step I.o (b8.next (Kai _ _).drew (Kah X.o E) (Kae d9.o E) (Kae c9.o E)) O.o.ksub g1.o e9.o h rfl;have h6:=Kz k9;clear b8 E h a9 k9
          go_wp2_with fail
          go_region
          all_goals
           go_wp2
           exact ⟨⟨k+1,o5,by omega,rfl,h6.o⟩,by simp [intOf];omega⟩
         ·obtain rfl:n.args.length=k:=by omega
          have q3:ks.length≤i:=by
           have:=O.o.ksub.length_le;rw [Kak,Kak,List.length_take] at this;omega
          have o6:=d4.o.hpl.cell (i:=i) f0;have o7:=d4.o.hpl.free i;obtain ⟨C,h7⟩:=Ky (wr.setCell ⟨gp,i,none⟩ (.int .i64 (ks.length:Int)));have S:=Kz (show DrpIn w C B cb g (some ⟨q,0,none⟩) nc ms OA oc outs gn gp N i n.args.length (updD (b i).2 i ks.length) (n,⟨.slice A1 n.shape.length p,.slice v n.args.length j,.slice y n.elems.length z⟩) nb KA kc ks f4 from by rw [h7];exact b8.place I.o h2.o f0 e9.o m8.o O.o.ksub X.o)
          have d5:=S.o.keep.1;have h8:Below C.heap.size C (C.alloc (.cells #[.int .i64 n.kind,.slice A1 n.shape.length p,.slice v n.args.length j,.int .i64 n.party,.int .i64 n.input,.int .i64 n.k,.slice y n.elems.length z] 77)):=alloc_below _ _;have c:=Kz (S.o.next h8 (Kah X.o d5) (Kae d9.o d5) (Kae c9.o d5));have h0:=Kz (show (C.alloc (.cells #[.int .i64 n.kind,.slice A1 n.shape.length p,.slice v n.args.length j,.int .i64 n.party,.int .i64 n.input,.int .i64 n.k,.slice y n.elems.length z] 77)).heap[C.heap.size]?=some (.cells (ndC (({ n with args:=n.args.map (updD (b i).2 i ks.length) }:ND),(⟨.slice A1 n.shape.length p,.slice v n.args.length j,.slice y n.elems.length z⟩:NV))).toArray 77 (0,0)) from Kac C _)
          have o8:=Kz (show NdV (C.alloc (.cells #[.int .i64 n.kind,.slice A1 n.shape.length p,.slice v n.args.length j,.int .i64 n.party,.int .i64 n.input,.int .i64 n.k,.slice y n.elems.length z] 77)) B (({ n with args:=n.args.map (updD (b i).2 i ks.length) }:ND),(⟨.slice A1 n.shape.length p,.slice v n.args.length j,.slice y n.elems.length z⟩:NV)) from by
           have:=c.o.rows.2 _ (Kam c.o.cur);have e:((n.args.take n.args.length).map (updD (b i).2 i ks.length)++n.args.drop n.args.length)=n.args.map (updD (b i).2 i ks.length):=by rw [List.take_length,List.drop_length,List.append_nil]
           dsimp only at this;rw [e] at this;exact this)
          have h9:=Kz h7;have o9:=Kz (show b (i+1)=((ks++[(({ n with args:=n.args.map (updD (b i).2 i ks.length) }:ND),(⟨.slice A1 n.shape.length p,.slice v n.args.length j,.slice y n.elems.length z⟩:NV))]).map Prod.fst,updD (b i).2 i ks.length) from by
           have l0:=O.o.kfst;have p0:ks.length=(b i).1.length:=by rw [←l0,Kak]
           have b9:n.args.map (updD (b i).2 i ks.length)=n.args.map (b i).2:=List.map_congr_left fun a h3=>by
            unfold updD;rw [if_neg (by have:=h2.o a h3;omega)]
           rw [b7.o,List.map_append,l0,←p0,b9];rfl)
          have a0:C.cell? ⟨nb,0,none⟩=some (.int .i64 n.kind):=cells_node S.o.node 0 _ rfl;have a1:C.cell? ⟨nb,1,none⟩=some (.slice A1 n.shape.length p):=cells_node S.o.node 1 _ rfl;have a2:C.cell? ⟨nb,2,none⟩=some (.slice v n.args.length j):=cells_node S.o.node 2 _ rfl;have a3:C.cell? ⟨nb,3,none⟩=some (.int .i64 n.party):=cells_node S.o.node 3 _ rfl;have a4:C.cell? ⟨nb,4,none⟩=some (.int .i64 n.input):=cells_node S.o.node 4 _ rfl;have a5:C.cell? ⟨nb,5,none⟩=some (.int .i64 n.k):=cells_node S.o.node 5 _ rfl;have a6:C.cell? ⟨nb,6,none⟩=some (.slice y n.elems.length z):=cells_node S.o.node 6 _ rfl;have p1:=Kz (Kah (Kah X.o d5) h8.size);clear b8 E h7 d5 h8 b3 H
          go_upto_region 26 with fail
          rw [←h9.o];clear o6 o7
          go_wp2_with (at_builtin;(refine appNd2 rfl (.tmp 112) (.tmp 114) rfl B KA kc ks.length ks rfl rfl c.o.kept C.heap.size rfl (({ n with args:=n.args.map (updD (b i).2 i ks.length) }:ND),(⟨.slice A1 n.shape.length p,.slice v n.args.length j,.slice y n.elems.length z⟩:NV)) h0.o o8.o (by omega) p1.o ?_);intro i2 i3 q4 r8 g8 k8)
          exact ⟨⟨i+1,i2,i3,ks++[(({ n with args:=n.args.map (updD (b i).2 i ks.length) }:ND),(⟨.slice A1 n.shape.length p,.slice v n.args.length j,.slice y n.elems.length z⟩:NV))],f4,by omega,rfl,(show Value.slice i2 (ks.length+1) i3=.slice i2 (ks++[(({ n with args:=n.args.map (updD (b i).2 i ks.length) }:ND),(⟨.slice A1 n.shape.length p,.slice v n.args.length j,.slice y n.elems.length z⟩:NV))]).length i3 from by rw [List.length_append,List.length_singleton]),by rw [o9.o];exact c.o.push I.o f2.o rfl O.o.knew O.o.ksub X.o g8 r8 k8 rfl⟩,by simp [intOf];omega⟩
      ·obtain rfl:ms.length=i:=by omega
       have D:=M.o.hcb.trans I.o.hc;have c3:wr.cell? ⟨cb,3,none⟩=some (.slice NA ms.length nc):=Kaa 3 D;have f3:wr.frozen? ⟨cb,3,none⟩=false:=by simp [World.frozen?,D]
       obtain ⟨l1,i4⟩:=Ky (wr.setCell ⟨cb,3,none⟩ (.slice KA ks.length kc));have T:=Kz (show DrpFin w l1 B cb g f s d ms OA oc outs I0 I1 m0 k0 m1 k1 gp (b ms.length).2 0 KA kc ks from by rw [i4];exact M.o.fin I.o e9.o)
       have p2:=Kz M.o.kfst;have l3:=Kz M.o.ksub;have p3:=Kz i4;have c4:l1.cell? ⟨cb,4,none⟩=some (.slice OA outs.length oc):=Kaa 4 T.o.hcb;clear D i4 M n3 f0
       go_upto_region 29 with fail
       rw [←p3.o];clear c3 f3
       go_wp2_with fail
       clear c4
       go_loopw [126] (fun L wr=>∃ k:Nat,k≤outs.length∧L=.int .i64 k∧DrpFin w wr B cb g f s d ms OA oc outs I0 I1 m0 k0 m1 k1 gp (b ms.length).2 k KA kc ks) (fun L _=>outs.length-(intOf L).toNat)
       case atStart=>exact ⟨0,by omega,rfl,T.o⟩
       case round=>
        clear T;obtain ⟨k,b3,rfl,c7⟩:=hrel;have T:=Kz c7;have E:=T.o.keep.1
        by_cases H:k<outs.length
        ·have h:outs[k]?=some (outs[k]'H):=Kad _;obtain ⟨o,a9⟩:=Ky (outs[k]'H);rw [←a9] at h;have e4:=j6.o o (Kam h);obtain ⟨p4,e5,d0,o4⟩:=c7.arg h;have h6:=Kz (DrpFin.step (c7.next (Kai _ _).drew (Kah X.o E) (Kae c9.o E)) I.o e9.o l3.o h e5);subst e5;have c4:wr.cell? ⟨cb,4,none⟩=some (.slice (some ⟨p4,0,none⟩) outs.length oc):=Kaa 4 c7.hcb;have h5:=T.o.hpl.cell (i:=o) (by omega)
         unfold VNt at h5;have q5:(0:Int)≤(k:Int):=by omega
         have q6:(k:Int)<(outs.length:Int):=by omega
         have o0:(0:Int)≤(o:Int):=by omega
         have o1:(o:Int)<(ms.length:Int):=by omega
         clear c7 E h a9 e4
         go_wp2_with fail
         go_region
         all_goals
          go_wp2
          exact ⟨⟨k+1,by omega,rfl,h6.o⟩,by simp [intOf];omega⟩
        ·obtain rfl:k=outs.length:=by omega
         clear b3 H E c7
         go_wp2
         exact ⟨rfl,.tuple #[],res_drop _ _,rfl,KA,kc,ks,outs.map (b ms.length).2,by rw [j4.o,f9.o];exact p2.o,by rw [j4.o,f9.o],T.o.done I.o l3.o rfl,T.o.below,T.o.keep⟩
    | i+1,g3,b6=>
     obtain ⟨i5,a8⟩:∃ x,ms[i]?=some x:=⟨ms[i]'(by omega),Kad (by omega)⟩
     have l4:=j3.o i i5 a8;obtain ⟨q,g5,g6,D,d3⟩:=I.o.hr.at_ a8;subst g5;obtain ⟨_,l2,_,_,⟨v,j,e2,o2⟩,_⟩:=d3;have c2:=(c.o.cell (p:=⟨q,i*7+2,none⟩) g6).trans (D 2 _ rfl (by omega))
     rw [e2] at c2;obtain ⟨args,b9⟩:=Ky i5.1.args;rw [←b9] at c2 o2 l2;have h9:=Kz (show (atD l i).args=args from by rw [l4,b9])
     have i6:=j2.o i i5 a8;rw [←b9] at i6;have l5:=Kz i6;have p5:=Kz (show ∀ W,Below w.heap.size w W→Rd W W.heap.size v (args.map VNt) from fun W e0=>o2.rd.next e0)
     rw [show (((i+1:Nat):Int)-1)=(i:Int) by omega]
     have i0:(0:Int)≤(i:Int):=by omega
     have i1:(i:Int)<(ms.length:Int):=by omega
     have c3:=(b4.o wr c.o).1;clear a8 l4 D e2 o2 b9 i6
     go_wp2_with fail
     clear c3 c2
     go_loopw [54] (fun L wr=>(∃ k:Nat,k≤args.length∧L=.int .i64 k∧MkB wr 3 gn ms.length (fun a=>bI (mrkN m i args k a)))∧Below w.heap.size w wr) (fun L _=>args.length-(intOf L).toNat)
     case atStart=>exact ⟨⟨0,by omega,rfl,by rw [mrkN_zero];exact r.o⟩,c.o⟩
     case round=>
      clear r c;obtain ⟨⟨k,b3,rfl,Y⟩,Z⟩:=hrel;have r:=Kz Y;have c:=Kz Z;clear Y Z
      by_cases H:k<args.length
      ·have h:args[k]?=some (args[k]'H):=Kad _;obtain ⟨a,a9⟩:=Ky (args[k]'H);rw [←a9] at h;have h3:=l5.o a (Kam h);obtain ⟨b2,o2,h4,p6,p⟩:=(p5.o _ c.o).at_ (show (args.map VNt)[k]?=some (VNt a) by rw [Kal,h];rfl)
       subst h4;have d0:wr.cell? ⟨b2,o2+k,none⟩=some (.int .i64 (a:Int)):=p;have k0:(0:Int)≤(k:Int):=by omega
       have k1:(k:Int)<(args.length:Int):=by omega
       have a0:(0:Int)≤(a:Int):=by omega
       have a1:(a:Int)<(ms.length:Int):=by omega
       have j:=r.o.cell (i:=a) (by omega)
       have Q:=r.o.cell (i:=i) (by omega)
       rw [mrkN_self l5.o] at Q;have m6:=r.o.free a;have d1:=Kz (fun f5 (d3:f5=bI (mrkN m i args k a||m i))=>r.o.drew.set (i:=a) (by omega) f5 (fun b5=>bI (mrkN m i args (k+1) b5)) (fun b5=>by
        rw [mrkN_step m i args h b5,d3];split <;> rfl))
       have g2:=Kz (fun f5=>Zaf (k:=a) c.o.drew g1.o f5)
       obtain ⟨p7,l6⟩:=Ky (mrkN m i args k a);rw [←l6] at j d1;obtain ⟨p8,l7⟩:=Ky (m i);rw [←l7] at Q d1;clear h a9 l6 l7 p6 p
       cases p7 <;> cases p8
       all_goals
        simp only [bI,if_true,Bool.false_eq_true,if_false] at j Q
        go_wp2_with fail
        go_region
        all_goals
         go_wp2
         exact ⟨⟨⟨k+1,by omega,rfl,d1.o _ rfl⟩,g2.o _⟩,by simp [intOf];omega⟩
      ·obtain rfl:args.length=k:=by omega
       have e6:=Kz (show N=markD l i (mrkN m i args args.length) from by rw [b6.o,markD_step,h9.o])
       clear b3 H
       go_wp2
       exact ⟨⟨⟨i,_,by omega,rfl,e6.o,r.o⟩,c.o⟩,by simp [intOf]⟩
structure BldInv (f s:Bool) (ss:List SI) (es:List EI) (sh:List (List Int)) (rest:List SI) (names:PlacesD) (sn:Names) (l:List ND) (i0 i1:Nat) (outs:List Nat):Prop where
 ok:Zas es sh rest sn
 d0:(Zae ss 0).drop i0=Zae rest 0
 d1:(Zae ss 1).drop i1=Zae rest 1
 wf:WfD (Zae ss 0) (Zae ss 1) l
 nm:NamesD l names sn
 ks:KeysD names sn
 ob:∀ o∈outs,o<l.length
 eq:stmtsD f s es sh ss [] [] 0 0 []=stmtsD f s es sh rest names l i0 i1 outs
 l64:l.length≤64
section
variable {f s:Bool} {ss:List SI} {es:List EI} {sh:List (List Int)} {rest:List SI} {names:PlacesD} {sn:Names} {l:List ND} {i0 i1:Nat} {outs:List Nat} {x:SI}
theorem BldInv.start (h:Zas es sh ss []):BldInv f s ss es sh ss [] [] [] 0 0 []:=
 ⟨h,by simp,by simp,fun i n h=>(by simp at h),fun n s h=>(by cases h),rfl,fun o h=>(by simp at h),rfl,by simp⟩
theorem taken_any (h:ZaC sn x.name=false) (a:KeysD names sn):(names.any fun q=>decide (q.1.toList=x.name.toList))=false:=by
 rw [a.any,←findN_keys];unfold ZaC at h;rw [Bool.or_eq_false_iff] at h;exact h.1
theorem BldInv.inn (h:BldInv f s ss es sh (x::rest) names sn l i0 i1 outs) (e:x.kind=1):(x.party=0∨x.party=1)∧Zad x.shape≠0∧(names.any fun q=>decide (q.1.toList=x.name.toList))=false∧NodeOk (Zae ss 0) (Zae ss 1) l l.length (inD x (if x.party=0 then i0 else i1)):=by
 have b:=h.ok;unfold Zas at b;rw [if_pos e] at b;obtain ⟨r,j,t,b⟩:=b;refine ⟨r,j,taken_any t h.ks,?_⟩;have n:∀ (i:Nat),((x.party.toNat=0∧(Zae ss 0)[i]?=some x.shape)∨(x.party.toNat=1∧(Zae ss 1)[i]?=some x.shape))→NodeOk (Zae ss 0) (Zae ss 1) l l.length (inD x i):=fun i v=>⟨fun a y=>by simp [inD] at y,j,.inl ⟨rfl,rfl,rfl,rfl,v⟩⟩
 by_cases c:x.party=0
 ·rw [if_pos c];exact n i0 (.inl ⟨by rw [c];rfl,(drop_cons (h.d0.trans (ZhE e c))).1⟩)
 ·have p:x.party=1:=by omega
  rw [if_neg c];exact n i1 (.inr ⟨by rw [p];rfl,(drop_cons (h.d1.trans (ZhE e p))).1⟩)
theorem BldInv.inn_eq (h:BldInv f s ss es sh (x::rest) names sn l i0 i1 outs) (b:x.kind=1) {q:List ND × Nat} (c:q=madeD f s l (inD x (if x.party=0 then i0 else i1))):
  stmtsD f s es sh ss [] [] 0 0 []=if 64<q.1.length then none else stmtsD f s es sh rest (names++[(x.name,q.2)]) q.1 (if x.party=0 then i0+1 else i0) (if x.party=0 then i1 else i1+1) outs:=by
 rw [h.eq]
 conv=>lhs;unfold stmtsD
 rw [if_pos b];dsimp only;rw [←c]
 by_cases a:x.party=0
 ·simp only [if_pos a]
 ·simp only [if_neg a]
theorem BldInv.inn_next (h:BldInv f s ss es sh (x::rest) names sn l i0 i1 outs) (b:x.kind=1) {q:List ND × Nat} (j:q=madeD f s l (inD x (if x.party=0 then i0 else i1))) (r:¬ 64<q.1.length):
  ∃ sn',BldInv f s ss es sh rest (names++[(x.name,q.2)]) sn' q.1 (if x.party=0 then i0+1 else i0) (if x.party=0 then i1 else i1+1) outs:=by
 obtain ⟨z,A,C,t⟩:=h.inn b;have c:=h.ok;unfold Zas at c;rw [if_pos b] at c;have n:=h.inn_eq b j;rw [if_neg r] at n;subst j;have p:=madeD_pre f s l (inD x (if x.party=0 then i0 else i1))
 have v:=madeD_lt f s l (inD x (if x.party=0 then i0 else i1))
 have e:=(h.nm.pre p).snoc h.ks x.name _ v;rw [show (atD (madeD f s l (inD x (if x.party=0 then i0 else i1))).1 (madeD f s l (inD x (if x.party=0 then i0 else i1))).2).shape=x.shape from by rw [atD_some (madeD_at f s l _),foldD_shape];rfl] at e
 refine ⟨_,c.2.2.2,?_,?_,madeD_wf f s h.wf t,e.1,e.2,fun o y=>Kae (h.ob o y) p.length_le,n,by omega⟩
 ·by_cases a:x.party=0
  ·rw [if_pos a];exact (drop_cons (h.d0.trans (ZhE b a))).2
  ·rw [if_neg a];exact h.d0.trans (Zgm (.inr (by omega)))
 ·by_cases a:x.party=0
  ·rw [if_pos a];exact h.d1.trans (Zgm (.inr (by omega)))
  ·rw [if_neg a];exact (drop_cons (h.d1.trans (ZhE b (by omega)))).2
theorem BldInv.lett (h:BldInv f s ss es sh (x::rest) names sn l i0 i1 outs) (b:x.kind=2):LetOk es sn sh x.expr.toNat∧(names.any fun q=>decide (q.1.toList=x.name.toList))=false:=by
 have a:=h.ok;unfold Zas at a;rw [if_neg (by omega),if_pos b] at a
 exact ⟨a.1,taken_any a.2.1 h.ks⟩
theorem BldInv.let_eq (h:BldInv f s ss es sh (x::rest) names sn l i0 i1 outs) (a:x.kind=2) {q:List ND × (Nat→Nat)} (b:q=letD f s es sh names (Zac es x.expr.toNat) l (x.expr.toNat+1)):
  stmtsD f s es sh ss [] [] 0 0 []=if 64<q.1.length then none else stmtsD f s es sh rest (names++[(x.name,q.2 x.expr.toNat)]) q.1 i0 i1 outs:=by
 rw [h.eq]
 conv=>lhs;unfold stmtsD
 rw [if_neg (by omega),if_pos a]
 dsimp only;rw [←b]
theorem BldInv.let_next (h:BldInv f s ss es sh (x::rest) names sn l i0 i1 outs) (r:exsOk 0 es=true) (b:Ahead es) (j:x.kind=2) {q:List ND × (Nat→Nat)} (n:q=letD f s es sh names (Zac es x.expr.toNat) l (x.expr.toNat+1)) (t:¬ 64<q.1.length):
  ∃ sn',BldInv f s ss es sh rest (names++[(x.name,q.2 x.expr.toNat)]) sn' q.1 i0 i1 outs:=by
 have p:=h.let_eq j n;rw [if_neg t] at p;have a:=h.ok;unfold Zas at a;rw [if_neg (by omega),if_pos j] at a
 obtain ⟨v,C,a⟩:=a;subst n;have c:=letD_res (names:=names) (Q:=fun _=>True) f s r b v h.wf h.nm (fun _ _ _ _ _=>trivial) trivial (x.expr.toNat+1)
 have y:Zac es x.expr.toNat x.expr.toNat=true:=by
  unfold Zac;rw [Zd7 b _ _ _ (Kag _)];simp
 obtain ⟨z,A⟩:=c.at_ x.expr.toNat (Nat.lt_succ_self _) y;have e:=(h.nm.pre c.pre).snoc h.ks x.name _ z;rw [A] at e;exact ⟨_,a,h.d0.trans (Zgm (.inl (by omega))),h.d1.trans (Zgm (.inl (by omega))),c.wf,e.1,e.2,fun o b=>Kae (h.ob o b) c.pre.length_le,p,by omega⟩
theorem BldInv.o (h:BldInv f s ss es sh (x::rest) names sn l i0 i1 outs) (a:x.kind≠1) (e:x.kind≠2):BldInv f s ss es sh rest names sn l i0 i1 (outs++[placeD names x.name]):=by
 have b:=h.ok;unfold Zas at b;rw [if_neg a,if_neg e] at b;have j:=h.eq;unfold stmtsD at j;have n:=h.l64;rw [if_neg a,if_neg e,if_neg (by omega)] at j
 refine ⟨b.2,h.d0.trans (Zgm (.inl a)),h.d1.trans (Zgm (.inl a)),h.wf,h.nm,h.ks,fun o c => ?_,?_,n⟩
 ·rcases List.mem_append.1 c with c | c
  ·exact h.ob o c
  ·rw [List.mem_singleton.1 c]
   cases hf:findN sn x.name with
   | none=>rw [hf] at b;cases b.1
   | some y=>exact (h.nm _ _ hf).1
 ·rw [h.eq]
  conv=>lhs;unfold stmtsD
  rw [if_neg a,if_neg e,if_neg (by omega)]
theorem BldInv.fin (h:BldInv f s ss es sh [] names sn l i0 i1 outs):stmtsD f s es sh ss [] [] 0 0 []=some (l,outs):=h.eq
end
def dagN:ByteArray:=⟨#[100,97,103]⟩
def BuildOut (w:World) (ss:List SI) (r:Sum (List ND × List Nat) Nat) (e:Ending) (w':World):Prop:=
 Below w.heap.size w w' ∧
 match r with
 | .inr c=>∃ v ps,e=.returned (.tuple #[.agg #[.slice none 0 0,.slice none 0 0,.slice none 0 0,.slice none 0 0],v])∧IsErr w' v ps c
 | .inl (l,outs)=>∃ (NA:Option Addr) (nc:Nat) (ms:List (ND × NV)) (OA:Option Addr) (oc:Nat) (A0:Option Addr) (n0 c0:Nat) (A1:Option Addr) (n1 c1 B:Nat),e=.returned (.tuple #[.agg #[.slice NA ms.length nc,.slice OA outs.length oc,.slice A0 n0 c0,.slice A1 n1 c1],.nilIface])∧w.heap.size≤B∧ms.map Prod.fst=l ∧
   NdRow w' B NA nc ms∧Own w' B 3 OA oc (outs.map VNt)∧InRow w' B A0 n0 c0 (Zae ss 0)∧InRow w' B A1 n1 c1 (Zae ss 1)
def KG (g:Nat) (w w':World):Prop:=w.heap.size≤w'.heap.size∧∀ (k:Nat) (o:Obj),w.heap[k]?=some o→quietO o→k≠g→w'.heap[k]?=some o
section
variable {g:Nat} {w w1 w':World}
theorem KG.of (h:KD w w'):KG g w w':=⟨h.1,fun k o a b _=>h.2 k o a b⟩
theorem KG.trans (h:KG g w w1) (a:KG g w1 w'):KG g w w':=⟨Kah h.1 a.1,fun k o e b c=>a.2 k o (h.2 k o e b c) b c⟩
theorem KG.next (h:KG g w w1) (a:Below w1.heap.size w1 w'):KG g w w':=h.trans (KG.of (KD.of a))
theorem KG.kd (h:KG g w w1) (a:KD w1 w'):KG g w w':=h.trans (KG.of a)
theorem KG.setNew {q k:Nat} (h:KG g w w1) (j:w.heap.size≤q) (v:Value):KG g w (w1.setCell ⟨q,k,none⟩ v):=
 ⟨by simpa [World.setCell] using h.1,fun b o a c e=>(ZaS _ _ _ (by have:=(Kab.1 a).1;show b≠q;omega)).trans (h.2 b o a c e)⟩
theorem KG.setBad {q k:Nat} {a:Array Value} {T:TypeId} {b:Nat × Nat} (h:KG g w w1) (c:w1.heap[q]?=some (.cells a T b)) (e:T=77∨T=131) (v:Value):KG g w (w1.setCell ⟨q,k,none⟩ v):=h.kd (KD.set c e v)
theorem KG.map {o:Obj} (h:KG g w w1):KG g w { w1 with heap:=w1.heap.setIfInBounds g o }:=
 ⟨by simpa using h.1,fun k b c j a=>by
  have:=h.2 k b c j a
  show (w1.heap.setIfInBounds g o)[k]?=_
  rw [Array.getElem?_setIfInBounds_ne (fun e=>a e.symm)]
  exact this⟩
theorem KG.own {B c:Nat} {e:TypeId} {A:Option Addr} {xs:List Value} (h:KG g w w') (b:∃ es c,w.heap[g]?=some (.map es c)) (j:Own w B e A c xs) (n:e≠77) (p:e≠131):Own w' B e A c xs:=Zf4 j fun k cur a=>by
 rw [h.2 k _ a ⟨n,p⟩ (fun e=>by
  obtain ⟨es,c,q⟩:=b;rw [e,q] at a
  cases a),a]
theorem KG.inRow {B n c:Nat} {A:Option Addr} {l:List (List Int)} (h:KG g w w') (a:∃ es c,w.heap[g]?=some (.map es c)) (b:InRow w B A n c l):InRow w' B A n c l:=by
 obtain ⟨p,q,r,t,y⟩:=b;refine ⟨p,q,h.own a r (by decide) (by decide),t,fun j v x z C => ?_⟩
 obtain ⟨D,E,e,F⟩:=y j v x z C;exact ⟨D,E,e,h.own a F (by decide) (by decide)⟩
end
structure BldM (w5 wr:World) (B cb g:Nat) (f s d:Bool) (NA:Option Addr) (nc:Nat) (ms:List (ND × NV)) (OA:Option Addr) (oc:Nat) (outs:List Nat) (A0 A1:Option Addr) (n0 c0 n1 c1:Nat) (names:PlacesD) (nx i0 i1:Nat):Prop where
 st:DgSt wr B cb g f s d NA nc ms OA oc outs A0 A1 n0 c0 n1 c1 names
 far:∀ b∈(blk OA::ms.flatMap ndB),∀ k,b=some k→w5.heap.size≤k
 hx:wr.heap[nx]?=some (.cells #[.int .i64 i0,.int .i64 i1] 114 (0,0))
 kg:KG g w5 wr
 below:Below B w5 wr
section
variable {w5 wr w':World} {B cb g:Nat} {f s d:Bool} {NA:Option Addr} {nc:Nat} {ms:List (ND × NV)} {OA:Option Addr} {oc:Nat} {outs:List Nat} {A0 A1:Option Addr} {n0 c0 n1 c1:Nat} {names:PlacesD} {nx i0 i1:Nat}
theorem BldM.next (h:BldM w5 wr B cb g f s d NA nc ms OA oc outs A0 A1 n0 c0 n1 c1 names nx i0 i1) (a:Below wr.heap.size wr w'):BldM w5 w' B cb g f s d NA nc ms OA oc outs A0 A1 n0 c0 n1 c1 names nx i0 i1:=
 ⟨h.st.next a,h.far,(a.block _ (Kab.1 h.hx).1).trans h.hx,h.kg.next a,h.below.trans (a.mono (Kah h.st.b1 (Nat.le_of_lt h.st.lt)))⟩
theorem BldM.call {e:Option Addr} {j:Nat} {a:List (ND × NV)} (h:BldM w5 wr B cb g f s d NA nc ms OA oc outs A0 A1 n0 c0 n1 c1 names nx i0 i1) (p:DgSt w' B cb g f s d e j a OA oc outs A0 A1 n0 c0 n1 c1 names) (n:KD wr w') (q:Below B wr w') (r:∀ b∈a.flatMap ndB,∀ k,b=some k→w5.heap.size≤k):BldM w5 w' B cb g f s d e j a OA oc outs A0 A1 n0 c0 n1 c1 names nx i0 i1:=
 ⟨p,fun b c=>by
  rcases List.mem_cons.1 c with rfl | c
  ·exact h.far _ (List.mem_cons_self ..)
  ·exact r b c,n.2 _ _ h.hx ⟨by decide,by decide⟩,h.kg.kd n,h.below.trans q⟩
theorem BldM.name {o:Obj} {n:ByteArray} {p:Nat} (h:BldM w5 wr B cb g f s d NA nc ms OA oc outs A0 A1 n0 c0 n1 c1 names nx i0 i1) (y:NamM { wr with heap:=wr.heap.setIfInBounds g o } g (namV (names++[(n,p)]))):BldM w5 { wr with heap:=wr.heap.setIfInBounds g o } B cb g f s d NA nc ms OA oc outs A0 A1 n0 c0 n1 c1 (names++[(n,p)]) nx i0 i1:=by
 obtain ⟨es,c,j,_⟩:=h.st.hn;have a:∀ k,k≠g→({ wr with heap:=wr.heap.setIfInBounds g o }:World).heap[k]?=wr.heap[k]?:=fun k r=>by
  show (wr.heap.setIfInBounds g o)[k]?=_
  rw [Array.getElem?_setIfInBounds_ne (fun e=>r e.symm)]
 have t:KIW wr { wr with heap:=wr.heap.setIfInBounds g o }:=KIW.map j a
 have z:cb≠g:=fun e=>by
  have:=h.st.hc;rw [e,j] at this
  cases this
 have A:nx≠g:=fun e=>by
  have:=h.hx;rw [e,j] at this
  cases this
 refine ⟨⟨h.st.b1,h.st.b2,(a cb z).trans h.st.hc,y,h.st.hr.keep t fun q C=>a q fun e => ?_,own_kiw h.st.ho (.inl rfl) t,h.st.hp⟩,h.far,(a nx A).trans h.hx,h.kg.map,?_⟩
 ·obtain ⟨cur,v⟩:=h.st.hr.form q C;rw [e,j] at v
  cases v
 ·have b:=h.below;exact ⟨b.os,b.tape,b.output,by simpa using b.size,fun k r=>(a k (by have:=h.st.b2;omega)).trans (b.block k r)⟩
theorem BldM.num {k:Nat} {v:Value} {p r:Nat} (h:BldM w5 wr B cb g f s d NA nc ms OA oc outs A0 A1 n0 c0 n1 c1 names nx i0 i1) (D:w5.heap.size≤nx) (L:B≤w5.heap.size) (E:(#[.int .i64 i0,.int .i64 i1]:Array Value).setIfInBounds k v=#[.int .i64 p,.int .i64 r]):BldM w5 (wr.setCell ⟨nx,k,none⟩ v) B cb g f s d NA nc ms OA oc outs A0 A1 n0 c0 n1 c1 names nx p r:=by
 have j:∀ b,b≠nx→(wr.setCell ⟨nx,k,none⟩ v).heap[b]?=wr.heap[b]?:=fun b a=>ZaS _ _ _ a
 have y:KIW wr (wr.setCell ⟨nx,k,none⟩ v):=KIW.set h.hx (by decide) (by decide) _
 have z:∀ b A T C,wr.heap[b]?=some (.cells A T C)→T≠114→b≠nx:=fun b A T C a F e=>by
  rw [e,h.hx] at a;injection a with a
  injection a with _ a _
  exact F a.symm
 refine ⟨⟨h.st.b1,h.st.b2,(j cb (z _ _ _ _ h.st.hc (by decide))).trans h.st.hc,?_,h.st.hr.keep y fun q H => ?_,own_kiw h.st.ho (.inl rfl) y,h.st.hp⟩,h.far,?_,h.kg.setNew D _,setCell_below' h.below (by omega) _⟩
 ·obtain ⟨es,c,n,I⟩:=h.st.hn;exact ⟨es,c,(j g fun e=>by rw [e,h.hx] at n;cases n).trans n,I⟩
 ·obtain ⟨cur,J⟩:=h.st.hr.form q H;exact j q (z _ _ _ _ J (by decide))
 ·rw [←E];exact heap_setCell_same _ _ _ _ _ _ h.hx
theorem BldM.o {n:World} {v:Option Addr} {z p:Nat} (h:BldM w5 wr B cb g f s d NA nc ms OA oc outs A0 A1 n0 c0 n1 c1 names nx i0 i1) (a6:B≤w5.heap.size) (y:wr.grownBy n (blk OA)) (X:Own n B 3 v z ((outs++[p]).map VNt)) (D:blk v=blk OA∨blk v=some wr.heap.size):
  BldM w5 (n.setCell ⟨cb,4,none⟩ (.slice v (outs.length+1) z)) B cb g f s d NA nc ms v z (outs++[p]) A0 A1 n0 c0 n1 c1 names nx i0 i1:=by
 have F:∀ k,blk OA=some k→w5.heap.size≤k:=h.far _ (List.mem_cons_self ..);have Y:=h.kg.1;have Z:∀ k,blk OA=some k→∃ cur,wr.heap[k]?=some (.cells cur 3 (0,0)):=fun k a=>by
  rcases h.st.ho.form with ⟨h0,_⟩ | ⟨a0,cur,D,_,y,_⟩
  ·rw [h0] at a;cases a
  ·rw [D] at a;have:a0=k:=by simpa [blk] using a
   subst this;exact ⟨cur,y⟩
 have A:∀ (b:Nat) (o:Obj),wr.heap[b]?=some o→(∀ cur:Array Value,o≠Obj.cells cur 3 (0,0))→n.heap[b]?=wr.heap[b]?:=fun b o c a1=>y.block b (Kab.1 c).1 fun e=>by
  obtain ⟨cur,j⟩:=Z b e.symm;rw [c] at j;injection j with j
  exact a1 _ j
 have H:=(A cb _ h.st.hc (fun cur e=>by injection e with _ e _;exact absurd e (by decide))).trans h.st.hc
 have M:KIW n (n.setCell ⟨cb,4,none⟩ (.slice v (outs.length+1) z)):=KIW.set H (by decide) (by decide) _
 have I:∀ b,b≠cb→(n.setCell ⟨cb,4,none⟩ (.slice v (outs.length+1) z)).heap[b]?=n.heap[b]?:=fun b c=>ZaS _ _ _ c
 have J:=List.pairwise_cons.1 h.st.hp;have O:=h.st.blocks;have a2:NdRow n B NA nc ms:=by
  refine ⟨ZaK h.st.hr.1 fun b c => ?_,fun m Q => ?_⟩
  ·obtain ⟨cur,j⟩:=h.st.hr.form b c;exact A b _ j (fun cur e=>by injection e with _ e _;exact absurd e (by decide))
  ·obtain ⟨l1,l2,l3,⟨A1,c1,S,o1⟩,⟨T,c2,E,o2⟩,A3,c3,e3,o3⟩:=h.st.hr.2 m Q;have c:∀ b,b∈ndB m→∀ k,b=some k→n.heap[k]?=wr.heap[k]?:=fun b c k a=>by
    have V:=List.mem_flatMap.2 ⟨m,Q,c⟩;refine y.block k (O b (List.mem_cons_of_mem _ V) k a) fun e => ?_
    rcases J.1 b V with r | r
    ·rw [r] at e;cases e
    ·exact r (by rw [←e,a])
   exact ⟨l1,l2,l3,⟨A1,c1,S,own_at o1 fun b C=>c (blk A1) (by simp [ndB,S,Za4]) b C⟩,⟨T,c2,E,own_at o2 fun b C=>c (blk T) (by simp [ndB,E,Za4]) b C⟩,A3,c3,e3,Zf4 o3 fun b cur C=>A b _ C (fun cur e=>by injection e with _ e _;exact absurd e (by decide))⟩
 refine ⟨⟨h.st.b1,h.st.b2,?_,?_,a2.keep M fun q L=>I q fun e => ?_,own_kiw X (.inl rfl) M,?_⟩,fun b c k a => ?_,?_,?_,?_⟩
 ·rw [List.length_append,List.length_singleton];exact heap_setCell_same _ _ _ _ _ _ H
 ·obtain ⟨es,a3,r,h2⟩:=h.st.hn;refine ⟨es,a3,(I g fun e => ?_).trans ((A g _ r (fun cur e=>by cases e)).trans r),h2⟩
  rw [e,h.st.hc] at r
  cases r
 ·obtain ⟨cur,j⟩:=h.st.hr.form q L;rw [e,h.st.hc] at j;injection j with j
  injection j with _ j _
  exact absurd j (by decide)
 ·refine List.pairwise_cons.2 ⟨fun b c => ?_,J.2⟩
  rcases D with e | e
  ·rw [e];exact J.1 b c
  ·refine .inr fun E => ?_
   have:=O b (List.mem_cons_of_mem _ c) _ (E.symm.trans e);omega
 ·rcases List.mem_cons.1 c with rfl | c
  ·rcases D with e | e
   ·exact F k (e ▸ a)
   ·rw [e] at a;injection a with a
    omega
  ·exact h.far b (List.mem_cons_of_mem _ c) k a
 ·refine (I nx fun e => ?_).trans ((A nx _ h.hx (fun cur e=>by injection e with _ e _;exact absurd e (by decide))).trans h.hx)
  have:=h.hx;rw [e,h.st.hc] at this;injection this with this
  injection this with _ this _
  exact absurd this (by decide)
 ·have a4:KG g w5 n:=⟨Kah Y y.size,fun k o a L a5=>by
   rw [y.block k (by have:=(Kab.1 a).1;omega) (fun e=>by have:=F k e.symm;have:=(Kab.1 a).1;omega)]
   exact h.kg.2 k o a L a5⟩
  exact a4.setBad H (.inr rfl) _
 ·exact setCell_below' (Zal h.below y (by omega) fun k a=>by have:=F k a;omega) h.st.b1 _
end
theorem build_pre {ss:List SI} {es:List EI} {sh:List (List Int)} (b:ZaA ss es=.inl sh):exsOk 0 es=true∧Ahead es∧Zas es sh ss []∧sh.length=es.length:=by
 obtain ⟨c,e,h⟩:=ZbI b;have a:=(Zbz b).1;unfold treeP at a;rw [Bool.and_eq_true] at a;exact ⟨a.1,c,e,h⟩
theorem build_big {f s d:Bool} {ss:List SI} {es:List EI} {sh:List (List Int)} (a:ZaA ss es=.inl sh) (h:64<countD ss es):buildD f s d ss es=.inr 160:=by
 unfold buildD;rw [a];dsimp only;rw [if_pos h]
theorem build_full {f s d:Bool} {ss:List SI} {es:List EI} {sh:List (List Int)} (a:ZaA ss es=.inl sh) (h:¬ 64<countD ss es) (b:stmtsD f s es sh ss [] [] 0 0 []=none):buildD f s d ss es=.inr 160:=by
 unfold buildD;rw [a];dsimp only;rw [if_neg h,b]
theorem build_done {f s d:Bool} {ss:List SI} {es:List EI} {sh:List (List Int)} {l:List ND} {outs:List Nat} (a:ZaA ss es=.inl sh) (h:¬ 64<countD ss es) (b:stmtsD f s es sh ss [] [] 0 0 []=some (l,outs)):buildD f s d ss es=.inl (if d then dropD l outs else (l,outs)):=by
 unfold buildD;rw [a];dsimp only;rw [if_neg h,b]
theorem outsh_shb {w:World} {base q:Nat} {sh:List (List Int)} (h:OutSh w base q sh):ShB w w.heap.size (some ⟨q,0,none⟩) sh:=by
 obtain ⟨n,a,y,p,r,z⟩:=h;refine ⟨q,rfl,(Kab.1 a).1,fun i l b => ?_⟩
 have j:i<n.length:=by rw [p];exact (Kaf.1 b).1
 obtain ⟨t,A,c,e,v⟩:=r i _ l (Kad j) b;refine ⟨A,c,?_,v.rd,t⟩;have:=Kaa i a;rw [this,List.getElem?_toArray,Kad j,e]
theorem cnt_snoc {es:List EI} {k:Nat} {e:EI} (h:es[k]?=some e):((es.take (k+1)).filter fun e=>e.kind != 2).length=((es.take k).filter fun e=>e.kind != 2).length+if e.kind=2 then 0 else 1:=by
 obtain ⟨b,c⟩:=Kaf.1 h;rw [List.take_succ_eq_append_getElem b,c,List.filter_append,List.length_append]
 by_cases a:e.kind=2
 ·rw [if_pos a,List.filter_cons,if_neg (by simp [a])];rfl
 ·rw [if_neg a,List.filter_cons,if_pos (by simp [a])];rfl
theorem KG.drop {w5 c j:World} {g cb:Nat} {n:List (Option Nat)} {r:Array Value} {v:Nat × Nat} (h:KG g w5 c) (p:DrpK c j cb n) (y:∀ b∈n,∀ k,b=some k→w5.heap.size≤k) (z:w5.heap[cb]?=some (.cells r 131 v)):KG g w5 j:=
 ⟨Kah h.1 p.1,fun k o a q A=>by
  have C:=(Kab.1 a).1;rw [p.2 k (Kae C h.1) (fun e=>by
   rw [e,z] at a;injection a with a
   subst a;exact q.2 rfl) (fun D=>by have:=y _ D k rfl;omega)]
  exact h.2 k o a q A⟩
theorem build_fin {c w':World} {B cb g v:Nat} {f s d:Bool} {NA:Option Addr} {nc:Nat} {ms:List (ND × NV)} {OA:Option Addr} {oc:Nat} {outs:List Nat} {A0 A1:Option Addr} {n0 c0 n1 c1:Nat} {names:PlacesD} {y z:List (List Int)} {C:Array Value} {D:Nat × Nat}
  (p:DgSt c B cb g f s d NA nc ms OA oc outs A0 A1 n0 c0 n1 c1 names) (E:InRow c B A0 n0 c0 y) (F:InRow c B A1 n1 c1 z) (j:c.heap[v]?=some (.cells C 68 D)) (n:∀ b,b≠v→w'.heap[b]?=c.heap[b]?):
  NdRow w' B NA nc ms∧Own w' B 3 OA oc (outs.map VNt)∧InRow w' B A0 n0 c0 y∧InRow w' B A1 n1 c1 z:=by
 have A:KIW c w':=fun q cur T a H=>n q fun e=>by
  rw [e,j] at a;injection a with a
  injection a with _ a _
  rcases H with rfl | rfl <;> exact absurd a (by decide)
 refine ⟨p.hr.keep A fun q a=>n q fun e => ?_,own_kiw p.ho (.inl rfl) A,E.other j (by decide) (by decide) fun b _ r=>n b r,F.other j (by decide) (by decide) fun b _ r=>n b r⟩
 obtain ⟨cur,h⟩:=p.hr.form q a;rw [e,j] at h;injection h with h
 injection h with _ h _
 exact absurd h (by decide)
theorem isErr_set {w:World} {t:Addr} {x:Value} {j:Array Value} {T:TypeId} {n:Nat × Nat} (q:w.heap[t.block]?=some (.cells j T n)) (y:T≠192):
  ∀ {l:List (ByteArray × Int)} {v:Value} {c:Int},IsErr w v l c→IsErr (w.setCell t x) v l c:=by
 intro l
 induction l with
 | nil=>intro v c h;exact h
 | cons p r ih=>
  intro v c h
  obtain ⟨a,z,rfl,b,A⟩:=h;refine ⟨a,z,rfl,?_,ih A⟩;rw [ZaS w t x (fun e=>by rw [e,q] at b;injection b with b;injection b with _ C;exact y C)]
  exact b
def set4 (w:World) (rb:Nat) (a b c d:Value):World:=(((w.setCell ⟨rb,0,none⟩ a).setCell ⟨rb,1,none⟩ b).setCell ⟨rb,2,none⟩ c).setCell ⟨rb,3,none⟩ d
theorem set4_ne {w:World} {e q:Nat} {a b c d:Value} (h:q≠e):(set4 w e a b c d).heap[q]?=w.heap[q]?:=by
 unfold set4;rw [ZaS _ _ _ h,ZaS _ _ _ h,ZaS _ _ _ h,ZaS _ _ _ h]
theorem set4_row {w:World} {e:Nat} {a b c d v p n j:Value} {T:TypeId} {h:Nat × Nat} (y:w.heap[e]?=some (.cells #[v,p,n,j] T h)):(set4 w e a b c d).heap[e]?=some (.cells #[a,b,c,d] T h):=by
 have q:(w.setCell ⟨e,0,none⟩ a).heap[e]?=some (.cells #[a,p,n,j] T h):=by simp [World.setCell,Array.getElem?_modify,y]
 have r:((w.setCell ⟨e,0,none⟩ a).setCell ⟨e,1,none⟩ b).heap[e]?=some (.cells #[a,b,n,j] T h):=by
  generalize w.setCell ⟨e,0,none⟩ a=w1 at q
  simp [World.setCell,Array.getElem?_modify,q]
 have t:(((w.setCell ⟨e,0,none⟩ a).setCell ⟨e,1,none⟩ b).setCell ⟨e,2,none⟩ c).heap[e]?=some (.cells #[a,b,c,j] T h):=by
  generalize (w.setCell ⟨e,0,none⟩ a).setCell ⟨e,1,none⟩ b=w1 at r
  simp [World.setCell,Array.getElem?_modify,r]
 unfold set4
 generalize ((w.setCell ⟨e,0,none⟩ a).setCell ⟨e,1,none⟩ b).setCell ⟨e,2,none⟩ c=w1 at t
 simp [World.setCell,Array.getElem?_modify,t]
theorem set4_below {W w:World} {B j:Nat} {a b c d:Value} (h:Below B W w) (e:B≤j):Below B W (set4 w j a b c d):=setCell_below' (setCell_below' (setCell_below' (setCell_below' h e _) e _) e _) e _
theorem set4_err {w:World} {e:Nat} {a b c d v:Value} {l:List (ByteArray × Int)} {r:Int} {j:Array Value} {n:Nat × Nat} (y:w.heap[e]?=some (.cells j 68 n)) (h:IsErr w v l r):IsErr (set4 w e a b c d) v l r:=by
 have p:(w.setCell ⟨e,0,none⟩ a).heap[e]?=some (.cells (j.setIfInBounds 0 a) 68 n):=by simp [World.setCell,Array.getElem?_modify,y]
 have q:((w.setCell ⟨e,0,none⟩ a).setCell ⟨e,1,none⟩ b).heap[e]?=some (.cells ((j.setIfInBounds 0 a).setIfInBounds 1 b) 68 n):=by
  generalize w.setCell ⟨e,0,none⟩ a=w1 at p
  simp [World.setCell,Array.getElem?_modify,p]
 have z:(((w.setCell ⟨e,0,none⟩ a).setCell ⟨e,1,none⟩ b).setCell ⟨e,2,none⟩ c).heap[e]?=some (.cells (((j.setIfInBounds 0 a).setIfInBounds 1 b).setIfInBounds 2 c) 68 n):=by
  generalize (w.setCell ⟨e,0,none⟩ a).setCell ⟨e,1,none⟩ b=w1 at q
  simp [World.setCell,Array.getElem?_modify,q]
 exact isErr_set z (by decide) (isErr_set q (by decide) (isErr_set p (by decide) (isErr_set y (by decide) h)))
theorem build_err {w a:World} {ss:List SI} {b c:Nat} {r:Sum (List ND × List Nat) Nat} {v:Value} {l:List (ByteArray × Int)} {e:Array Value} {j:Nat × Nat} (n:r=.inr c) (p:Below w.heap.size w a) (q:w.heap.size≤b) (y:a.heap[b]?=some (.cells e 68 j)) (h:IsErr a v l c):
  BuildOut w ss r (.returned (.tuple #[.agg #[.slice none 0 0,.slice none 0 0,.slice none 0 0,.slice none 0 0],v])) (set4 a b (.slice none 0 0) (.slice none 0 0) (.slice none 0 0) (.slice none 0 0)):=by
 refine ⟨set4_below p q,?_⟩;rw [n];exact ⟨v,l,rfl,set4_err y h⟩
theorem build_ok {w a:World} {ss:List SI} {r:Sum (List ND × List Nat) Nat} {l:List ND} {B cb g c:Nat} {f s d:Bool} {NA:Option Addr} {nc:Nat} {ms:List (ND × NV)} {OA:Option Addr} {oc:Nat} {outs:List Nat} {A0 A1:Option Addr} {n0 c0 n1 c1:Nat} {names:PlacesD} {h:Array Value} {j:Nat × Nat}
  (n:r=.inl (l,outs)) (p:ms.map Prod.fst=l) (e:Below w.heap.size w a) (q:w.heap.size≤B) (v:w.heap.size≤c) (y:DgSt a B cb g f s d NA nc ms OA oc outs A0 A1 n0 c0 n1 c1 names) (z:InRow a B A0 n0 c0 (Zae ss 0)) (A:InRow a B A1 n1 c1 (Zae ss 1)) (C:a.heap[c]?=some (.cells h 68 j)):
  BuildOut w ss r (.returned (.tuple #[.agg #[.slice NA ms.length nc,.slice OA outs.length oc,.slice A0 n0 c0,.slice A1 n1 c1],.nilIface])) (set4 a c (.slice NA ms.length nc) (.slice OA outs.length oc) (.slice A0 n0 c0) (.slice A1 n1 c1)):=by
 refine ⟨set4_below e v,?_⟩;rw [n];obtain ⟨D,E,F,H⟩:=build_fin y z A C (fun b e=>set4_ne e)
 exact ⟨NA,nc,ms,OA,oc,A0,n0,c0,A1,n1,c1,B,rfl,q,p,D,E,F,H⟩
theorem in_node {W:World} {B S c:Nat} (x:SI) (i:Nat) {a:Option Addr} {b:Nat} (e:Own W S 3 a b (x.shape.map VI)) (h:B≤S) (j:x.shape.length≤1000000) (n:c=x.shape.length):NdV W B (inD x i,⟨.slice a c b,.slice none 0 0,.slice none 0 0⟩):=
 ⟨j,Nat.zero_le _,Nat.zero_le _,⟨a,b,by rw [n];rfl,e.more h⟩,⟨none,0,rfl,Own.nil _ _ _⟩,⟨none,0,rfl,Own.nil _ _ _⟩⟩
section
variable {wq wt W w':World} {B cb g:Nat} {f s d:Bool} {NA:Option Addr} {nc:Nat} {ms:List (ND × NV)} {OA:Option Addr} {oc:Nat} {outs:List Nat} {A0 A1:Option Addr} {n0 c0 n1 c1:Nat} {names:PlacesD} {nx i0 i1:Nat} {in0 in1:List (List Int)}
theorem BldM.made (h:BldM wq wt B cb g f s d NA nc ms OA oc outs A0 A1 n0 c0 n1 c1 names nx i0 i1) (C:Below wt.heap.size wt W) {x:SI} {i j:Nat} {c:Option Addr} {n:Nat} (v:Own W wt.heap.size 3 c n (x.shape.map VI)) (F:j=x.shape.length) (H:x.shape.length≤1000000) (a1:x.party=0∨x.party=1) (I:WfD in0 in1 (ms.map Prod.fst)) (J:NodeOk in0 in1 (ms.map Prod.fst) (ms.map Prod.fst).length (inD x i)) (L:ETyped W) (M:ms.length≤1000):
  Calls Tryz.prog 64 #[.pointer (some ⟨cb,0,none⟩),.agg #[.int .i64 1,.slice c j n,.slice none 0 0,.int .i64 x.party,.int .i64 i,.int .i64 0,.slice none 0 0]] W fun e w'=>∃ y z r,r.map Prod.fst=(madeD f s (ms.map Prod.fst) (inD x i)).1∧e=.returned (.int .i64 ((madeD f s (ms.map Prod.fst) (inD x i)).2:Nat))∧BldM wq w' B cb g f s d y z r OA oc outs A0 A1 n0 c0 n1 c1 names nx i0 i1∧KD W w':=by
 have O:((x.party.toNat:Nat):Int)=x.party:=by omega
 have D:=h.next C;have Q:B≤wt.heap.size:=Kah h.st.b1 (Nat.le_of_lt h.st.lt);have S:ndA (inD x i,(⟨.slice c j n,.slice none 0 0,.slice none 0 0⟩:NV))=.agg #[.int .i64 1,.slice c j n,.slice none 0 0,.int .i64 x.party,.int .i64 i,.int .i64 0,.slice none 0 0]:=by
  show Value.agg #[.int .i64 ((1:Nat):Int),.slice c j n,.slice none 0 0,.int .i64 ((x.party.toNat:Nat):Int),.int .i64 (i:Int),.int .i64 ((0:Nat):Int),.slice none 0 0]=_
  rw [O];rfl
 rw [←S];refine (dmade_any in0 in1 B cb g f s d NA nc ms OA oc outs A0 A1 n0 c0 n1 c1 names (inD x i,⟨.slice c j n,.slice none 0 0,.slice none 0 0⟩) W D.st (in_node x i v Q H F) (apart_new (mid:=W.heap.size) h.st (fun k a => ?_) (fun k a=>by cases a) C.size) I J L M).mono ?_
 ·rw [Za4] at a;exact v.lt k a
 ·rintro e w' ⟨y,z,r,T,V,X,E,Y,Z⟩
  refine ⟨y,z,r,T,V,D.call X E Y fun b a0 k a => ?_,E⟩
  rcases Z b a0 with p | p | p
  ·exact h.far b (List.mem_cons_of_mem _ p) k a
  ·have q:b=blk c∨b=none:=by
    simp only [ndB,Za4,List.mem_cons,List.not_mem_nil,or_false] at p;exact p
   rcases q with q | q
   ·exact Kah h.kg.1 (v.lt k (q.symm.trans a)).1
   ·rw [q] at a;cases a
  ·rw [p] at a;cases a
theorem BldM.lett (h:BldM wq wt B cb g f s d NA nc ms OA oc outs A0 A1 n0 c0 n1 c1 names nx i0 i1) {SV:Value} {j n:Option Addr} {a ec:Nat} {es:List EI} {sh:List (List Int)} {sn:Names} {root:Nat} (t:SV.oneCell'=true) (v:a=es.length) (y:a≤100000) (z:RdEI wt B j es) (C:∀ e∈es,e.num≤18446744073709551615) (D:ShB wt B n sh) (E:sh.length=a) (F:exsOk 0 es=true) (H:Ahead es) (I:LetOk es sn sh root) (J:WfD in0 in1 (ms.map Prod.fst)) (L:NamesD (ms.map Prod.fst) names sn) (M:∀ W,Below B wt W→ETyped W) (O:ms.length+a≤1000):
  Calls Tryz.prog 65 #[.pointer (some ⟨cb,0,none⟩),.agg #[SV,.slice j a ec],.int .i64 root,.slice n a a] wt fun e w'=>∃ p q c,c.map Prod.fst=(letD f s es sh names (Zac es root) (ms.map Prod.fst) (root+1)).1∧e=.returned (.int .i64 ((letD f s es sh names (Zac es root) (ms.map Prod.fst) (root+1)).2 root:Nat))∧BldM wq w' B cb g f s d p q c OA oc outs A0 A1 n0 c0 n1 c1 names nx i0 i1∧KD wt w':=by
 refine (let_any in0 in1 B cb g f s d NA nc ms OA oc outs A0 A1 n0 c0 n1 c1 names wt SV j n a ec es sh sn root h.st t v y z C D E F H I J L M O wq.heap.size h.kg.1 (fun b Q=>h.far b (List.mem_cons_of_mem _ Q))).mono ?_
 rintro e w' ⟨p,q,c,S,T,V,r,X,Y⟩
 exact ⟨p,q,c,S,T,h.call V r X Y,r⟩
end
theorem wp_app2 {w:World} {o:Oper} {a:Act} {K:Act→World→Prop} {Q:Exit→Act→World→Prop} (s x:Operand)
  (r:o.op=.call { callee:=.builtin .append,args:=#[s,x],argTypes:=#[41,41] }) (base:Nat) (A:Option Addr) (q n:Nat) (c:List Value) (y:n=c.length) (z:a.eval s=.slice A n q) (C:Own w base 3 A q c)
  (j:Nat) (D:a.eval x=.slice (some ⟨j,0,none⟩) 1 1) (v:Value) (E:w.heap[j]?=some (.cells #[v] 3 (0,0))) (F:v.oneCell'=true) (X:n≤100000) (H:base≤w.heap.size)
  (h:∀ b p w',Own w' base 3 b p (c++[v])→w.grownBy w' (blk A)→(blk b=blk A∨blk b=some w.heap.size)→K (a.put o.dst (.slice b (n+1) p)) w'):o.wp Tryz.prog a w K Q:=by
 obtain ⟨i0,I,J,L,M⟩:=info_parts ZcB;refine ZlF s x 41 r base 3 i0 _ 8 Tryz.underlying41 I J L M rfl A q c n y.symm z C (some ⟨j,0,none⟩) 1 1 (j+1) [v] rfl D (Rd.of_block E (Nat.lt_succ_self _) ⟨[],by simp⟩) (fun e=>by cases e) (fun Y O=>by rw [List.mem_singleton.1 O];exact F) (by simp only [maxLen];omega) (by omega) H ?_
 intro b p w' S T V
 exact h b p w' S T V
theorem grown_other {w j:World} {B c:Nat} {OA:Option Addr} {xs:List Value} (r:Own w B 3 OA c xs) (v:w.grownBy j (blk OA)) {b:Nat} {n:Array Value} {T:TypeId} {p:Nat × Nat} (a:w.heap[b]?=some (.cells n T p)) (y:T≠3):j.heap[b]?=some (.cells n T p):=by
 rw [v.block b (Kab.1 a).1 fun e => ?_,a]
 rcases r.form with ⟨z,_⟩ | ⟨A,cur,C,_,q,_⟩
 ·rw [z] at e;cases e
 ·rw [C] at e;have:b=A:=by simpa [blk] using e
  subst this;rw [a] at q;injection q with h
  injection h with _ h _
  exact y h
theorem BuildOut.ok {w w':World} {ss:List SI} {G:List ND × List Nat} {e:Ending} (h:BuildOut w ss (.inl G) e w'):Below w.heap.size w w'∧∃ (NA:Option Addr) (nc:Nat) (ms:List (ND × NV)) (OA:Option Addr) (oc:Nat) (A0:Option Addr) (n0 c0:Nat) (A1:Option Addr) (n1 c1 B:Nat),e=.returned (.tuple #[.agg #[.slice NA ms.length nc,.slice OA G.2.length oc,.slice A0 n0 c0,.slice A1 n1 c1],.nilIface])∧w.heap.size≤B∧ms.map Prod.fst=G.1 ∧
  NdRow w' B NA nc ms∧Own w' B 3 OA oc (G.2.map VNt)∧InRow w' B A0 n0 c0 (Zae ss 0)∧InRow w' B A1 n1 c1 (Zae ss 1):=by
 obtain ⟨l,outs⟩:=G;exact h
theorem BuildOut.bad {w w':World} {ss:List SI} {c:Nat} {e:Ending} (h:BuildOut w ss (.inr c) e w'):Below w.heap.size w w'∧∃ t x a,e=.returned (.tuple #[.agg #[.slice none 0 0,.slice none 0 0,.slice none 0 0,.slice none 0 0],.iface t x])∧IsErr w' (.iface t x) a c:=by
 obtain ⟨j,v,a,n,b⟩:=h;obtain ⟨t,x,rfl⟩:=b.iface;exact ⟨j,t,x,a,n,b⟩
theorem built_wf {f s d:Bool} {ss:List SI} {es:List EI} {g:List ND × List Nat} (h:buildD f s d ss es=.inl g):WfD (Zae ss 0) (Zae ss 1) g.1∧(∀ o∈g.2,o<g.1.length)∧g.1.length≤64∧g.2.length=outsN ss:=by
 obtain ⟨sh,l,outs,j,n,rfl,_⟩:=buildD_parts h;have a:=built_res j n (Q:=fun _=>True) (fun _ _ _ _ _=>trivial) trivial
 have e:=a.small (by simp)
 have c:=a.len;rw [List.length_nil,Nat.zero_add] at c;have b:=dropD_wf a.wf a.bnd
 cases d with
 | false=>exact ⟨a.wf,a.bnd,e,c⟩
 | true=>exact ⟨b.1,b.2.1,Kah b.2.2.2 e,by show (dropD l outs).2.length=_;rw [b.2.2.1];exact c⟩
theorem outsN_le (ss:List SI):outsN ss≤ss.length:=by
 unfold outsN;exact List.length_filter_le _ _
end Go.Proofs.YtghlnncfigkkaaaGreatDoor
